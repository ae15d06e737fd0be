/- The parts of a text between bytes of one kind: plain; strings.Split and strings.Join say the same. -/
import Derived.Test.YtfbjejkmjbknaaaDoorWMore
import Derived.Lib.SplitLaws
import Derived.Lib.Join
namespace Go.Proofs.YtfbjejkmjbknaaaDoor.Cut
open Go

/-- The parts of a text between bytes of one kind. -/
def cut (c : UInt8) : List UInt8 → List (List UInt8)
  | [] => [[]]
  | b :: l => if b = c then [] :: cut c l else match cut c l with
    | p :: r => (b :: p) :: r
    | [] => [[b]]
/-- Parts, one behind the other, with a byte between. -/
def jn (c : UInt8) : List (List UInt8) → List UInt8
  | [] => []
  | [p] => p
  | p :: q :: r => p ++ c :: jn c (q :: r)

theorem cut_ne (c : UInt8) (l : List UInt8) : cut c l ≠ [] := by
  cases l with
  | nil => simp [cut]
  | cons b l => unfold cut; split; · simp
                split <;> simp
theorem jn_cons (c : UInt8) (p : List UInt8) {r : List (List UInt8)} (h : r ≠ []) : jn c (p :: r) = p ++ c :: jn c r := by
  cases r with
  | nil => exact absurd rfl h
  | cons q r => rfl
theorem jn_cut (c : UInt8) : ∀ l : List UInt8, jn c (cut c l) = l
  | [] => rfl
  | b :: l => by
    have ih := jn_cut c l
    unfold cut
    split
    · rename_i hb
      rw [jn_cons c [] (cut_ne c l), ih, hb]; rfl
    · have hn := cut_ne c l
      match h : cut c l with
      | [] => exact absurd h hn
      | [p] => rw [h] at ih; simp only [jn] at ih ⊢; rw [ih]
      | p :: q :: r => rw [h] at ih; simp only [jn] at ih ⊢; rw [← ih]; rfl
theorem cut_mem (c : UInt8) : ∀ l : List UInt8, ∀ p ∈ cut c l, c ∉ p
  | [], p, hp => by simp [cut] at hp; subst hp; simp
  | b :: l, p, hp => by
    have ih := cut_mem c l
    unfold cut at hp
    split at hp
    · rcases List.mem_cons.1 hp with h | h
      · subst h; simp
      · exact ih p h
    · rename_i hb
      match h : cut c l with
      | [] => exact absurd h (cut_ne c l)
      | q :: r =>
        rw [h] at hp ih
        rcases List.mem_cons.1 hp with h | h
        · subst h
          have := ih q (List.mem_cons_self ..)
          simp only [List.mem_cons, not_or]
          exact ⟨fun e => hb e.symm, this⟩
        · exact ih p (List.mem_cons_of_mem _ h)
theorem cut_plain (c : UInt8) : ∀ p : List UInt8, c ∉ p → cut c p = [p]
  | [], _ => rfl
  | b :: p, h => by
    simp only [List.mem_cons, not_or] at h
    rw [cut, if_neg (fun e => h.1 e.symm), cut_plain c p h.2]
theorem cut_app (c : UInt8) (l : List UInt8) : ∀ p : List UInt8, c ∉ p → cut c (p ++ c :: l) = p :: cut c l
  | [], _ => by rw [List.nil_append, cut, if_pos rfl]
  | b :: p, h => by
    simp only [List.mem_cons, not_or] at h
    rw [List.cons_append, cut, if_neg (fun e => h.1 e.symm), cut_app c l p h.2]
theorem cut_jn (c : UInt8) : ∀ ps : List (List UInt8), ps ≠ [] → (∀ p ∈ ps, c ∉ p) → cut c (jn c ps) = ps
  | [], h, _ => absurd rfl h
  | [p], _, h => cut_plain c p (h p (List.mem_cons_self ..))
  | p :: q :: r, _, h => by
    rw [jn, cut_app c _ p (h p (List.mem_cons_self ..)), cut_jn c (q :: r) (by simp) (fun x hx => h x (List.mem_cons_of_mem _ hx))]

theorem join_jn (c : UInt8) : ∀ ps : List (List UInt8), Lib.join ps [c] = jn c ps
  | [] => rfl
  | [p] => Lib.join_one p [c]
  | p :: q :: r => by
    have ih := join_jn c (q :: r)
    simp only [Lib.join, List.intercalate, List.intersperse, List.flatten_cons] at ih ⊢
    rw [jn, ← ih]; rfl

theorem index_one_eq (c : UInt8) (l : List UInt8) : Lib.index (c :: l) [c] = 0 := by
  simp [Lib.index, List.isPrefixOf]
theorem index_one_ne (b c : UInt8) (l : List UInt8) (h : b ≠ c) : Lib.index (b :: l) [c] = if (Lib.index l [c] == -1) = true then -1 else Lib.index l [c] + 1 := by
  have : (c == b) = false := by simpa using fun e => h e.symm
  simp [Lib.index, List.isPrefixOf, this]

theorem split_cut (c : UInt8) : ∀ l : List UInt8, Lib.splitK [c] 0 (Lib.count l [c]) l = cut c l
  | [] => by simp [Lib.count_one, Lib.splitK, cut]
  | b :: l => by
    have ih := split_cut c l
    by_cases hb : b = c
    · subst hb
      rw [Lib.count_cons_eq, Nat.add_comm, Lib.splitK, index_one_eq, cut, if_pos rfl]
      simp only [List.length_cons, List.length_nil]
      rw [if_neg (by decide)]
      simpa using ih
    · rw [Lib.count_cons_ne b c l hb, cut, if_neg hb]
      have hn := cut_ne c l
      rw [← ih] at hn ⊢
      cases hk : Lib.count l [c] with
      | zero => simp [Lib.splitK]
      | succ m =>
        rw [Lib.splitK, Lib.splitK, index_one_ne b c l hb]
        by_cases hm : (Lib.index l [c] == -1) = true
        · simp [hm]
        · have hge := Lib.index_ge l [c]
          have hne : Lib.index l [c] ≠ -1 := by simpa using hm
          obtain ⟨i, hi⟩ : ∃ i : Nat, Lib.index l [c] = i := ⟨(Lib.index l [c]).toNat, by omega⟩
          rw [hi]
          have h1 : ¬ (((i : Int) == -1) = true) := by simp <;> omega
          have h2 : ¬ (((i : Int) + 1 == -1) = true) := by simp <;> omega
          rw [if_neg h1, if_neg h1, if_neg h2]
          simp only [Int.toNat_natCast, show ((i : Int) + 1).toNat = i + 1 from by omega, Nat.add_zero, List.take_succ_cons, List.length_cons, List.length_nil]
          rw [show i + 1 + (0 + 1) = (i + 1) + 1 from by omega, List.drop_succ_cons]
/-- strings.Split by one byte. -/
theorem splitB_cut (c : UInt8) (s : ByteArray) : (Lib.splitB ⟨#[c]⟩ 0 (Lib.countB s ⟨#[c]⟩) s).map (·.data.toList) = cut c s.data.toList := by
  rw [Lib.splitB_data]
  exact split_cut c s.data.toList
theorem countB_cut (c : UInt8) (s : ByteArray) : (cut c s.data.toList).length = Lib.countB s ⟨#[c]⟩ + 1 := by
  rw [← splitB_cut, List.length_map, Lib.splitB_all ⟨#[c]⟩ (Nat.le_refl 1) 0 _ s rfl]
end Go.Proofs.YtfbjejkmjbknaaaDoor.Cut
