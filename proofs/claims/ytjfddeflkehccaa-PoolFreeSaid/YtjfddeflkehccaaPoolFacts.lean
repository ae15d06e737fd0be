/- What is picked of some ports, and how many are free: plain facts on numbers and lists. -/
import Derived.Test.YtjfddeflkehccaaPool
set_option linter.unusedVariables false
namespace Go.Proofs.Ytjfddeflkehccaa.Pool
open Go

theorem may_iff (low high : Int) : may low high = true ↔ 1024 ≤ low ∧ low ≤ high ∧ high ≤ 65535 := by unfold may; exact decide_eq_true_iff

/-- How many of n ports from low on are not in a list. -/
def cnt (l : List Int) (low : Int) (n : Nat) : Nat := ((List.range n).filter (fun i : Nat => decide (¬ (low + (i : Int)) ∈ l))).length

theorem scan_yes (l : List Int) (low n q : Int) : ∀ (d : Nat) (k : Int) (p : Int), scan l low n q d k = (p, true) → ∃ j : Int, k ≤ j ∧ j < k + d ∧ p = low + (q + j) % n ∧ p ∉ l
  | 0, _, _, h => by simp [scan] at h
  | d + 1, k, p, h => by
    unfold scan at h
    split at h
    · obtain ⟨j, h1, h2, h3⟩ := scan_yes l low n q d (k + 1) p h
      exact ⟨j, by omega, by omega, h3⟩
    · rename_i hn
      simp at h
      subst h
      exact ⟨k, by omega, by omega, rfl, hn⟩

theorem scan_no (l : List Int) (low n q : Int) : ∀ (d : Nat) (k : Int) (p : Int), scan l low n q d k = (p, false) → p = 0 ∧ ∀ j : Int, k ≤ j → j < k + d → low + (q + j) % n ∈ l
  | 0, _, _, h => by simp [scan] at h; exact ⟨h.symm, fun j h1 h2 => by omega⟩
  | d + 1, k, p, h => by
    unfold scan at h
    split at h
    · rename_i hin
      obtain ⟨h1, h2⟩ := scan_no l low n q d (k + 1) p h
      refine ⟨h1, fun j h3 h4 => ?_⟩
      by_cases e : j = k
      · subst e; exact hin
      · exact h2 j (by omega) (by omega)
    · simp at h

theorem scan_congr (l l' : List Int) (low n q : Int) (h : ∀ j : Int, (low + (q + j) % n ∈ l ↔ low + (q + j) % n ∈ l')) : ∀ (d : Nat) (k : Int), scan l low n q d k = scan l' low n q d k
  | 0, _ => rfl
  | d + 1, k => by
    unfold scan
    by_cases hk : low + (q + k) % n ∈ l
    · rw [if_pos hk, if_pos ((h k).1 hk), scan_congr l l' low n q h d (k + 1)]
    · rw [if_neg hk, if_neg (fun h' => hk ((h k).2 h'))]

theorem pick_not {low high : Int} (h : may low high = false) (draw : Int) (l : List Int) : pick low high draw l = (0, false) := by unfold pick; rw [h]; rfl
theorem free_not {low high : Int} (h : may low high = false) (l : List Int) : free low high l = 0 := by unfold free; rw [h]; rfl

/-- Every port is come to. -/
theorem comes (low high q p : Int) (h1 : low ≤ p) (h2 : p ≤ high) : ∃ j : Int, 0 ≤ j ∧ j < high - low + 1 ∧ low + (q + j) % (high - low + 1) = p := by
  refine ⟨(p - low - q) % (high - low + 1), Int.emod_nonneg _ (by omega), Int.emod_lt_of_pos _ (by omega), ?_⟩
  rw [Int.add_emod, Int.emod_emod_of_dvd _ (Int.dvd_refl _), ← Int.add_emod]
  rw [show q + (p - low - q) = p - low from by omega, Int.emod_eq_of_lt (by omega) (by omega)]
  omega

theorem pick_yes {low high draw p : Int} {l : List Int} (h : pick low high draw l = (p, true)) : may low high = true ∧ low ≤ p ∧ p ≤ high ∧ p ∉ l := by
  by_cases hm : may low high = true
  · unfold pick at h
    rw [if_pos hm] at h
    obtain ⟨j, h1, h2, h3, h4⟩ := scan_yes _ _ _ _ _ _ _ h
    have hb := (may_iff _ _).1 hm
    have r1 := Int.emod_nonneg (draw % (high - low + 1) + j) (show high - low + 1 ≠ 0 by omega)
    have r2 := Int.emod_lt_of_pos (draw % (high - low + 1) + j) (show 0 < high - low + 1 by omega)
    exact ⟨hm, by omega, by omega, h4⟩
  · rw [pick_not (Bool.eq_false_iff.2 hm)] at h
    simp at h

theorem pick_none {low high draw p : Int} {l : List Int} (hm : may low high = true) (h : pick low high draw l = (p, false)) : p = 0 ∧ ∀ x, low ≤ x → x ≤ high → x ∈ l := by
  unfold pick at h
  rw [if_pos hm] at h
  have hb := (may_iff _ _).1 hm
  obtain ⟨h1, h2⟩ := scan_no _ _ _ _ _ _ _ h
  refine ⟨h1, fun x hx1 hx2 => ?_⟩
  obtain ⟨j, j1, j2, j3⟩ := comes low high (draw % (high - low + 1)) x hx1 hx2
  have := h2 j (by omega) (by omega)
  rw [j3] at this
  exact this

theorem keys_nodup (low high : Int) (q : List Int) : ∀ m : List (Int × Value), (m.map (·.1)).Nodup → ((q.foldl (fun m p => if p ≥ low ∧ p ≤ high then MapLaw.put p (.bool true) m else m) m).map (·.1)).Nodup := by
  have mem_put : ∀ (x : Int) (v : Value) (m : List (Int × Value)) (k : Int), k ∈ (MapLaw.put x v m).map (·.1) ↔ k = x ∨ k ∈ m.map (·.1) := by
    intro x v m k
    induction m with
    | nil => simp [MapLaw.put]
    | cons a m ih =>
      obtain ⟨a, u⟩ := a
      unfold MapLaw.put
      split
      · rename_i e; subst e; simp
      · simp only [List.map_cons, List.mem_cons, ih]
        constructor
        · rintro (h | h | h)
          · exact .inr (.inl h)
          · exact .inl h
          · exact .inr (.inr h)
        · rintro (h | h | h)
          · exact .inr (.inl h)
          · exact .inl h
          · exact .inr (.inr h)
  have nd_put : ∀ (x : Int) (v : Value) (m : List (Int × Value)), (m.map (·.1)).Nodup → ((MapLaw.put x v m).map (·.1)).Nodup := by
    intro x v m
    induction m with
    | nil => intro _; simp [MapLaw.put]
    | cons a m ih =>
      obtain ⟨a, u⟩ := a
      intro h
      unfold MapLaw.put
      simp only [List.map_cons, List.nodup_cons] at h
      split
      · rename_i e; subst e; simpa using h
      · rename_i e
        simp only [List.map_cons, List.nodup_cons]
        refine ⟨fun h' => ?_, ih h.2⟩
        rcases (mem_put x v m a).1 h' with h' | h'
        · exact e h'.symm
        · exact h.1 h'
  induction q with
  | nil => intro m h; exact h
  | cons x q ih =>
    intro m h
    rw [List.foldl_cons]
    refine ih _ ?_
    split
    · exact nd_put _ _ _ h
    · exact h

theorem at_mem (l : List (Int × Value)) (k : Int) : (MapLaw.at_ k l).isSome = true ↔ k ∈ l.map (·.1) := by
  induction l with
  | nil => simp [MapLaw.at_nil]
  | cons a l ih =>
    obtain ⟨a, u⟩ := a
    rw [MapLaw.at_cons]
    by_cases e : k = a
    · subst e; simp
    · rw [if_neg e, ih]; simp [e]

theorem filter_length_split {α : Type} (p : α → Bool) (l : List α) : (l.filter p).length + (l.filter (fun x => !p x)).length = l.length := by
  induction l with
  | nil => rfl
  | cons x l ih =>
    cases h : p x <;> simp [h] <;> omega

theorem free_cnt {low high : Int} (hm : may low high = true) (l : List Int) : free low high l = cnt l low (high - low + 1).toNat := by
  have hb := (may_iff _ _).1 hm
  unfold free cnt
  rw [if_pos hm]
  have hp : ((List.range (high - low + 1).toNat).filter (fun i : Nat => decide ((low + (i : Int)) ∈ l))).length = (ofl l low high l.length).length := by
    have e1 : (((List.range (high - low + 1).toNat).filter (fun i : Nat => decide ((low + (i : Int)) ∈ l))).map (fun i : Nat => low + (i : Int))).length = ((List.range (high - low + 1).toNat).filter (fun i : Nat => decide ((low + (i : Int)) ∈ l))).length := by simp
    have e2 : ((ofl l low high l.length).map (·.1)).length = (ofl l low high l.length).length := by simp
    rw [← e1, ← e2]
    refine List.Perm.length_eq ((List.perm_ext_iff_of_nodup ?_ ?_).2 fun x => ?_)
    · refine List.Pairwise.map _ (S := fun a b => a ≠ b) (fun a b (h : a ≠ b) => ?_) ((List.nodup_range).filter _)
      omega
    · exact keys_nodup low high _ [] (by simp)
    · rw [← at_mem, at_ofl, List.take_length]
      simp only [List.mem_map, List.mem_filter, List.mem_range, decide_eq_true_eq]
      constructor
      · rintro ⟨i, ⟨h1, h2⟩, rfl⟩
        rw [if_pos ⟨h2, by omega, by omega⟩]; rfl
      · intro h
        split at h
        · rename_i h'
          exact ⟨(x - low).toNat, ⟨by omega, by rw [show low + ((x - low).toNat : Int) = x from by omega]; exact h'.1⟩, by omega⟩
        · cases h
  have hs := filter_length_split (fun i : Nat => decide ((low + (i : Int)) ∈ l)) (List.range (high - low + 1).toNat)
  rw [List.length_range] at hs
  have e3 : (fun i : Nat => !decide ((low + (i : Int)) ∈ l)) = (fun i : Nat => decide (¬ (low + (i : Int)) ∈ l)) := by funext i; simp
  rw [e3] at hs
  omega

theorem cnt_congr {l l' : List Int} {low : Int} {n : Nat} (h : ∀ i : Nat, i < n → (low + (i : Int) ∈ l ↔ low + (i : Int) ∈ l')) : cnt l low n = cnt l' low n := by
  unfold cnt
  congr 1
  apply List.filter_congr
  intro i hi
  have := h i (List.mem_range.1 hi)
  simp [this]

theorem cnt_succ (l : List Int) (low : Int) (n : Nat) : cnt l low (n + 1) = cnt l low n + if low + (n : Int) ∈ l then 0 else 1 := by
  unfold cnt
  rw [List.range_succ, List.filter_append]
  by_cases h : low + (n : Int) ∈ l <;> simp [h]

/-- One port less. -/
theorem cnt_less (l : List Int) (low : Int) (p : Int) (hl : p ∉ l) : ∀ n : Nat, (low ≤ p ∧ p < low + n → cnt (l ++ [p]) low n + 1 = cnt l low n) ∧ (¬ (low ≤ p ∧ p < low + n) → cnt (l ++ [p]) low n = cnt l low n)
  | 0 => ⟨fun h => by omega, fun _ => rfl⟩
  | n + 1 => by
    obtain ⟨h1, h2⟩ := cnt_less l low p hl n
    rw [cnt_succ, cnt_succ]
    by_cases e : low + (n : Int) = p
    · have e1 : cnt (l ++ [p]) low n = cnt l low n := h2 (by omega)
      rw [e1, e]
      refine ⟨fun _ => by simp [hl], fun h => by omega⟩
    · have e2 : (low + (n : Int) ∈ l ++ [p]) ↔ low + (n : Int) ∈ l := by simp [e]
      have e3 : (if low + (n : Int) ∈ l ++ [p] then 0 else 1) = (if low + (n : Int) ∈ l then 0 else 1 : Nat) := by simp only [e2]
      rw [e3]
      exact ⟨fun h => by have := h1 (by omega); omega, fun h => by have := h2 (by omega); omega⟩

theorem free_none {low high : Int} {l : List Int} (h : ∀ x, low ≤ x → x ≤ high → x ∈ l) : free low high l = 0 := by
  by_cases hm : may low high = true
  · rw [free_cnt hm]
    have : ∀ n : Nat, low + n ≤ high + 1 → cnt l low n = 0 := by
      intro n
      induction n with
      | zero => intro _; rfl
      | succ n ih => intro hn; rw [cnt_succ, ih (by omega), if_pos (h _ (by omega) (by omega))]
    have hb := (may_iff _ _).1 hm
    rw [this _ (by omega)]; rfl
  · exact free_not (Bool.eq_false_iff.2 hm) l

theorem free_less {low high p : Int} {l : List Int} (hm : may low high = true) (h1 : low ≤ p) (h2 : p ≤ high) (hp : p ∉ l) : free low high (l ++ [p]) + 1 = free low high l := by
  rw [free_cnt hm, free_cnt hm]
  have := (cnt_less l low p hp (high - low + 1).toNat).1 ⟨h1, by omega⟩
  omega

theorem free_nonneg (low high : Int) (l : List Int) : 0 ≤ free low high l := by
  by_cases hm : may low high = true
  · rw [free_cnt hm]; omega
  · rw [free_not (Bool.eq_false_iff.2 hm)]; decide

theorem free_congr {low high : Int} {l l' : List Int} (h : ∀ x, low ≤ x → x ≤ high → (x ∈ l ↔ x ∈ l')) : free low high l = free low high l' := by
  by_cases hm : may low high = true
  · have hb := (may_iff _ _).1 hm
    rw [free_cnt hm, free_cnt hm, cnt_congr fun i hi => h _ (by omega) (by omega)]
  · rw [free_not (Bool.eq_false_iff.2 hm), free_not (Bool.eq_false_iff.2 hm)]

theorem pick_congr {low high : Int} (draw : Int) {l l' : List Int} (h : ∀ x, low ≤ x → x ≤ high → (x ∈ l ↔ x ∈ l')) : pick low high draw l = pick low high draw l' := by
  by_cases hm : may low high = true
  · have hb := (may_iff _ _).1 hm
    unfold pick
    rw [if_pos hm, if_pos hm]
    apply scan_congr
    intro j
    have r1 := Int.emod_nonneg (draw % (high - low + 1) + j) (show high - low + 1 ≠ 0 by omega)
    have r2 := Int.emod_lt_of_pos (draw % (high - low + 1) + j) (show 0 < high - low + 1 by omega)
    exact h _ (by omega) (by omega)
  · rw [pick_not (Bool.eq_false_iff.2 hm), pick_not (Bool.eq_false_iff.2 hm)]

theorem pick_emod (low high draw times : Int) (l : List Int) : pick low high (draw + times * (high - low + 1)) l = pick low high draw l := by
  unfold pick
  rw [Int.add_mul_emod_self_right]

theorem pick_at {low high at_ : Int} {l : List Int} (hm : may low high = true) (h0 : 0 ≤ at_) (h1 : at_ ≤ high - low) (h : low + at_ ∉ l) : pick low high at_ l = (low + at_, true) := by
  have hb := (may_iff _ _).1 hm
  unfold pick
  rw [if_pos hm]
  obtain ⟨d, hd⟩ : ∃ d, (high - low + 1).toNat = d + 1 := ⟨(high - low).toNat, by omega⟩
  rw [hd, scan]
  have e : (at_ % (high - low + 1) + 0) % (high - low + 1) = at_ := by
    rw [Int.add_zero, Int.emod_emod_of_dvd _ (Int.dvd_refl _), Int.emod_eq_of_lt h0 (by omega)]
  rw [e, if_neg h]

theorem pick_one {low high draw p : Int} {l : List Int} (hm : may low high = true) (h1 : low ≤ p) (h2 : p ≤ high) (hp : p ∉ l) (h : ∀ x, low ≤ x → x ≤ high → x ≠ p → x ∈ l) : pick low high draw l = (p, true) := by
  cases hx : pick low high draw l with
  | mk x b =>
    cases b with
    | false => exact absurd ((pick_none hm hx).2 p h1 h2) hp
    | true =>
      obtain ⟨_, a1, a2, a3⟩ := pick_yes hx
      by_cases e : x = p
      · rw [e]
      · exact absurd (h x a1 a2 e) a3

theorem pick_full {low high draw : Int} {l : List Int} (h : ∀ x, low ≤ x → x ≤ high → x ∈ l) : (pick low high draw l).2 = false := by
  cases hx : pick low high draw l with
  | mk x b =>
    cases b with
    | false => rfl
    | true =>
      obtain ⟨_, a1, a2, a3⟩ := pick_yes hx
      exact absurd (h x a1 a2) a3

theorem cnt_nil (low : Int) : ∀ n : Nat, cnt [] low n = n
  | 0 => rfl
  | n + 1 => by rw [cnt_succ, cnt_nil low n]; simp
end Go.Proofs.Ytjfddeflkehccaa.Pool
