/- What stands between the first brackets, plain. -/
import Derived.Test.YtfbjejkmjbknaaaDoorSixP
import Derived.Lib.IndexMore
namespace Go.Proofs.YtfbjejkmjbknaaaDoor.SixP
open Go Go.Proofs.YtfbjejkmjbknaaaDoor.Dig Go.Proofs.YtfbjejkmjbknaaaDoor.Cut

/-- What stands ahead of the first such byte, and behind it. -/
def cut1 (c : UInt8) : List UInt8 → Option (List UInt8 × List UInt8)
  | [] => none
  | b :: l => if b = c then some ([], l) else (cut1 c l).map fun x => (b :: x.1, x.2)
theorem cut1_none {c : UInt8} : ∀ {l : List UInt8}, c ∉ l → cut1 c l = none
  | [], _ => rfl
  | b :: l, h => by
    rw [cut1, if_neg (fun e => h (by rw [e]; exact List.mem_cons_self ..)), cut1_none (fun e => h (List.mem_cons_of_mem _ e))]; rfl
theorem cut1_some {c : UInt8} (r : List UInt8) : ∀ {p : List UInt8}, c ∉ p → cut1 c (p ++ c :: r) = some (p, r)
  | [], _ => by rw [List.nil_append, cut1, if_pos rfl]
  | b :: p, h => by
    rw [List.cons_append, cut1, if_neg (fun e => h (by rw [e]; exact List.mem_cons_self ..)), cut1_some r (fun e => h (List.mem_cons_of_mem _ e))]; rfl
theorem cut1_is {c : UInt8} : ∀ {l a b : List UInt8}, cut1 c l = some (a, b) → l = a ++ c :: b ∧ c ∉ a
  | [], a, b, h => by cases h
  | x :: l, a, b, h => by
    rw [cut1] at h
    split at h
    · rename_i hx
      cases h; subst hx; exact ⟨rfl, by simp⟩
    · rename_i hx
      cases hc : cut1 c l with
      | none => rw [hc] at h; cases h
      | some y =>
        rw [hc] at h
        cases h
        obtain ⟨h1, h2⟩ := cut1_is (l := l) (a := y.1) (b := y.2) hc
        refine ⟨by rw [List.cons_append, ← h1], ?_⟩
        simp only [List.mem_cons, not_or]
        exact ⟨fun e => hx e.symm, h2⟩
theorem cut1_not {c : UInt8} {l : List UInt8} (h : cut1 c l = none) : c ∉ l := by
  intro hm
  obtain ⟨a, b, h1, h2⟩ : ∃ a b, l = a ++ c :: b ∧ c ∉ a := by
    clear h
    induction l with
    | nil => cases hm
    | cons x l ih =>
      by_cases hx : x = c
      · exact ⟨[], l, by rw [hx]; rfl, by simp⟩
      · rcases List.mem_cons.1 hm with e | e
        · exact absurd e.symm hx
        · obtain ⟨a, b, h1, h2⟩ := ih e
          exact ⟨x :: a, b, by rw [h1]; rfl, by simp only [List.mem_cons, not_or]; exact ⟨fun e => hx e.symm, h2⟩⟩
  rw [h1, cut1_some b h2] at h; cases h
theorem lib_cut (c : UInt8) (l : List UInt8) : Lib.cut l [c] = match cut1 c l with
    | some (a, b) => (a, b, true)
    | none => (l, [], false) := by
  have hi : ∀ l, (cut1 c l = none ∧ Lib.index l [c] = -1) ∨ (∃ a b, cut1 c l = some (a, b) ∧ Lib.index l [c] = (a.length : Int)) := by
    intro l
    induction l with
    | nil => exact .inl ⟨rfl, by simp [Lib.index]⟩
    | cons b l ih =>
      by_cases hb : b = c
      · subst hb
        exact .inr ⟨[], l, by rw [cut1, if_pos rfl], by rw [index_one_eq]; rfl⟩
      · rcases ih with ⟨h1, h2⟩ | ⟨a, r, h1, h2⟩
        · exact .inl ⟨by rw [cut1, if_neg hb, h1]; rfl, by rw [index_one_ne b c l hb, h2]; rfl⟩
        · refine .inr ⟨b :: a, r, by rw [cut1, if_neg hb, h1]; rfl, ?_⟩
          rw [index_one_ne b c l hb, h2, if_neg (by simp <;> omega), List.length_cons]; omega
  rcases hi l with ⟨h1, h2⟩ | ⟨a, b, h1, h2⟩
  · rw [h1, Lib.cut, h2, if_neg (by decide)]
  · obtain ⟨h3, h4⟩ := cut1_is h1
    rw [h1, Lib.cut, h2, if_pos (by omega)]
    simp only [Int.toNat_natCast, List.length_cons, List.length_nil]
    rw [h3]
    simp
/-- The end that a text has. -/
def find (l : List UInt8) : Option (Nat × Nat × Nat × Nat × Nat) := (cut1 40 l).bind fun x => (cut1 41 x.2).bind fun y => readSix y.1
end Go.Proofs.YtfbjejkmjbknaaaDoor.SixP
