/- The document's answers for ports, as plain functions: what is picked, and how many are free, is the same. -/
import Derived.Test.YtjfddeflkehccaaQx1
import Derived.Test.YtjfddeflkehccaaPoolFacts
set_option linter.unusedVariables false
namespace Go.Proofs.Ytjfddeflkehccaa.Pure
open Go Go.RowKit Go.Proofs.Ytjfddeflkehccaa.PoolExt Go.Proofs.Ytjfddeflkehccaa.Q Go.Proofs.YtjfddeflkehccaaW.PrintWords Go.Proofs.YtjfddeflkehccaaW.PrintLast

theorem wrap_in {i : Int} (h0 : -9223372036854775808 ≤ i) (h1 : i ≤ 9223372036854775807) : wrap64 i = i := by unfold wrap64; omega

theorem awake : wharfingerlaw15_awake.f = some true := by decide +kernel

theorem has_l (l : List Int) (x : Int) (hl : l.length ≤ 1000) : ∀ (d k i : Nat), i + d = l.length → d < k → wharfingerref15_Has.l0 k l x i = some (decide (x ∈ l.drop i))
  | 0, k, i, h, hk => by
    obtain ⟨k, rfl⟩ : ∃ m, k = m + 1 := ⟨k - 1, by omega⟩
    simp only [wharfingerref15_Has.l0]
    rw [if_neg (by omega), List.drop_of_length_le (by omega)]
    simp
  | d + 1, k, i, h, hk => by
    obtain ⟨k, rfl⟩ : ∃ m, k = m + 1 := ⟨k - 1, by omega⟩
    simp only [wharfingerref15_Has.l0]
    rw [if_pos (by omega), if_pos (by omega), wrap_in (by omega) (by omega)]
    have hr : rd l i = l[i]'(by omega) := by simp [rd, List.getD, show i < l.length by omega]
    rw [List.drop_eq_getElem_cons (by omega), hr]
    by_cases e : l[i]'(by omega) = x
    · rw [if_pos e]; simp [e]
    · rw [if_neg e]
      have := has_l l x hl d k (i + 1) (by omega) (by omega)
      rw [show ((i : Int) + 1) = ((i + 1 : Nat) : Int) from by omega, this]
      simp only [List.mem_cons, Ne.symm e, false_or]

theorem has (l : List Int) (x : Int) (hl : l.length ≤ 1000) (k : Nat) (hk : l.length < k) : wharfingerref15_Has.f k l x = some (decide (x ∈ l)) := by
  have := has_l l x hl l.length k 0 (by omega) hk
  simpa [wharfingerref15_Has.f] using this

theorem rmay (low high : Int) : wharfingerref15_may.f low high = some (Pool.may low high) := by
  unfold wharfingerref15_may.f Pool.may
  by_cases h1 : low ≥ 1024
  · rw [if_pos h1]
    by_cases h2 : low ≤ high
    · rw [if_pos h2]; simp [h2]; omega
    · rw [if_neg h2]; simp; omega
  · rw [if_neg h1]; simp; omega

theorem pick_l (l : List Int) (low n q : Int) (hl : l.length ≤ 1000) (h1 : 1024 ≤ low) (hn : 0 < n) (h2 : low + n ≤ 65536) (hq : 0 ≤ q) (hq2 : q < n) : ∀ (d k : Nat) (i : Int), 0 ≤ i → i + d = n → d + l.length < k →
    wharfingerref15_Pick.l0 k low l n q i = some (Pool.scan l low n q d i)
  | 0, k, i, hi, h, hk => by
    obtain ⟨k, rfl⟩ : ∃ m, k = m + 1 := ⟨k - 1, by omega⟩
    simp only [wharfingerref15_Pick.l0]
    rw [if_neg (by omega)]; rfl
  | d + 1, k, i, hi, h, hk => by
    obtain ⟨k, rfl⟩ : ∃ m, k = m + 1 := ⟨k - 1, by omega⟩
    have r1 := Int.emod_nonneg (q + i) (show n ≠ 0 by omega)
    have r2 := Int.emod_lt_of_pos (q + i) (show 0 < n by omega)
    simp only [wharfingerref15_Pick.l0]
    rw [if_pos (by omega), if_neg (by omega), wrap_in (i := q + i) (by omega) (by omega), Int.tmod_eq_emod_of_nonneg (by omega), wrap_in (i := low + _) (by omega) (by omega), wrap_in (i := i + 1) (by omega) (by omega),
      has l _ hl k (by omega)]
    simp only [Option.bind_some, decide_eq_true_eq]
    unfold Pool.scan
    split
    · rw [pick_l l low n q hl h1 hn h2 hq hq2 d k (i + 1) (by omega) (by omega) (by omega)]
    · rfl

theorem tmod_cases (d n : Int) (h : 0 < n) : (if d.tmod n < 0 then d.tmod n + n else d.tmod n) = d % n := by
  have h1 := Int.tmod_lt_of_pos d h
  have h4 := Int.tmod_add_mul_tdiv d n
  split
  · rename_i hneg
    have h2 : -n < d.tmod n := by
      rcases Int.le_total 0 d with h | h
      · have := Int.tmod_nonneg n h; omega
      · have h3 := Int.tmod_lt_of_pos (-d) ‹0 < n›
        rw [Int.neg_tmod] at h3; omega
    have : d % n = (d.tmod n + n) % n := by
      rw [Int.add_emod_right]
      conv => lhs; rw [← h4]
      rw [Int.add_mul_emod_self_left]
    rw [this, Int.emod_eq_of_lt (by omega) (by omega)]
  · rename_i hpos
    have : d % n = (d.tmod n) % n := by
      conv => lhs; rw [← h4]
      rw [Int.add_mul_emod_self_left]
    rw [this, Int.emod_eq_of_lt (by omega) (by omega)]

theorem rpick (low high draw : Int) (l : List Int) (hl : l.length ≤ 1000) (k : Nat) (hk : 70000 < k) : wharfingerref15_Pick.f k low high draw l = some (Pool.pick low high draw l) := by
  unfold wharfingerref15_Pick.f
  rw [rmay]
  simp only [Option.bind_some]
  by_cases hm : Pool.may low high = true
  · obtain ⟨b1, b2, b3⟩ := (Pool.may_iff _ _).1 hm
    rw [if_pos hm, wrap_in (i := high - low) (by omega) (by omega), wrap_in (i := high - low + 1) (by omega) (by omega), if_neg (by omega)]
    have ht := tmod_cases draw (high - low + 1) (by omega)
    have h1 := Int.emod_nonneg draw (show high - low + 1 ≠ 0 by omega)
    have h2 := Int.emod_lt_of_pos draw (show 0 < high - low + 1 by omega)
    have hj : wharfingerref15_Pick.j0 k low l (high - low + 1) (draw % (high - low + 1)) = some (Pool.pick low high draw l) := by
      obtain ⟨k, rfl⟩ : ∃ m, k = m + 1 := ⟨k - 1, by omega⟩
      simp only [wharfingerref15_Pick.j0]
      rw [pick_l l low (high - low + 1) (draw % (high - low + 1)) hl b1 (by omega) (by omega) h1 h2 (high - low + 1).toNat k 0 (by omega) (by omega) (by omega)]
      unfold Pool.pick
      rw [if_pos hm]
    split
    · rename_i hneg
      rw [if_pos hneg] at ht
      have hb : -(high - low + 1) ≤ draw.tmod (high - low + 1) := by
        rw [← ht] at h1; omega
      rw [wrap_in (by omega) (by omega), ht]; exact hj
    · rename_i hneg
      rw [if_neg hneg] at ht
      rw [ht]; exact hj
  · rw [if_neg hm, Pool.pick_not (Bool.eq_false_iff.2 hm)]

theorem free_l (l : List Int) (low high : Int) (hl : l.length ≤ 1000) (h1 : 1024 ≤ low) (h2 : high ≤ 65535) : ∀ (d k j : Nat), low + j + d = high + 1 → d + l.length < k →
    wharfingerref15_Free.l0 k high l (Pool.cnt l low j) (low + j) = some ((Pool.cnt l low (j + d) : Nat) : Int)
  | 0, k, j, h, hk => by
    obtain ⟨k, rfl⟩ : ∃ m, k = m + 1 := ⟨k - 1, by omega⟩
    simp only [wharfingerref15_Free.l0]
    rw [if_neg (by omega)]; rfl
  | d + 1, k, j, h, hk => by
    obtain ⟨k, rfl⟩ : ∃ m, k = m + 1 := ⟨k - 1, by omega⟩
    have hc : Pool.cnt l low j ≤ j := by
      unfold Pool.cnt
      have := List.length_filter_le (fun i : Nat => decide (¬ (low + (i : Int)) ∈ l)) (List.range j)
      simpa using this
    have ih := free_l l low high hl h1 h2 d k (j + 1) (by omega) (by omega)
    rw [Pool.cnt_succ] at ih
    simp only [wharfingerref15_Free.l0]
    rw [if_pos (by omega), has l _ hl k (by omega), wrap_in (i := low + j + 1) (by omega) (by omega), wrap_in (i := (Pool.cnt l low j : Int) + 1) (by omega) (by omega)]
    simp only [Option.bind_some, decide_eq_true_eq]
    rw [show low + (j : Int) + 1 = low + ((j + 1 : Nat) : Int) from by omega, show j + (d + 1) = j + 1 + d from by omega]
    by_cases hin : low + (j : Int) ∈ l
    · rw [if_pos hin]
      rw [if_pos hin] at ih
      exact ih
    · rw [if_neg hin]
      rw [if_neg hin] at ih
      simpa using ih

theorem rfree (low high : Int) (l : List Int) (hl : l.length ≤ 1000) (k : Nat) (hk : 70000 < k) : wharfingerref15_Free.f k low high l = some (Pool.free low high l) := by
  unfold wharfingerref15_Free.f
  rw [rmay]
  simp only [Option.bind_some]
  by_cases hm : Pool.may low high = true
  · obtain ⟨b1, b2, b3⟩ := (Pool.may_iff _ _).1 hm
    rw [if_pos hm, Pool.free_cnt hm]
    have := free_l l low high hl b1 b3 (high - low + 1).toNat k 0 (by omega) (by omega)
    simpa [show Pool.cnt l low 0 = 0 from rfl] using this
  · rw [if_neg hm, Pool.free_not (Bool.eq_false_iff.2 hm)]

end Go.Proofs.Ytjfddeflkehccaa.Pure
