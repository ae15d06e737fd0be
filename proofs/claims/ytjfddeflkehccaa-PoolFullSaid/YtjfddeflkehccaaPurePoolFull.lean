/- Where all of a few ports are busy there is none, and where all but one are it is that one, whatever is drawn: for at most 50 ports. -/
import Derived.Test.YtjfddeflkehccaaQx3
import Derived.Test.YtjfddeflkehccaaPurePoolRef
namespace Go.Proofs.Ytjfddeflkehccaa.Pure
open Go Go.RowKit Go.Proofs.Ytjfddeflkehccaa.PoolExt Go.Proofs.Ytjfddeflkehccaa.Q Go.Proofs.YtjfddeflkehccaaW.PrintWords Go.Proofs.YtjfddeflkehccaaW.PrintLast

theorem full_l (low n draw at_ : Int) (h1 : 1024 ≤ low) (h2 : low ≤ 60000) (hn : 1 ≤ n) (hn2 : n ≤ 50) (ha : 0 ≤ at_) (ha2 : at_ < n) : ∀ (d k i : Nat) (all most : List Int), (i : Int) + d = n → d < k →
    all.length ≤ i → most.length ≤ i → (∀ x, x ∈ all ↔ low ≤ x ∧ x < low + i) → (∀ x, x ∈ most ↔ low ≤ x ∧ x < low + i ∧ x ≠ low + at_) →
    wharfingerlaw15_PoolFull.l0 k low n draw at_ all most i = some true
  | 0, k, i, all, most, h, hk, l1, l2, m1, m2 => by
    obtain ⟨k, rfl⟩ : ∃ m, k = m + 1 := ⟨k - 1, by omega⟩
    have hmay : Pool.may low (low + n - 1) = true := (Pool.may_iff _ _).2 ⟨by omega, by omega, by omega⟩
    simp only [wharfingerlaw15_PoolFull.l0]
    rw [if_neg (by omega), wrap_in (i := low + n) (by omega) (by omega), wrap_in (i := low + n - 1) (by omega) (by omega), wrap_in (i := low + at_) (by omega) (by omega)]
    have p2 : Pool.pick low (low + n - 1) draw most = (low + at_, true) :=
      Pool.pick_one hmay (by omega) (by omega) (fun hx => by have := (m2 _).1 hx; omega) (fun x a b c => (m2 x).2 ⟨a, by omega, c⟩)
    have p1 : (Pool.pick low (low + n - 1) draw all).2 = false := Pool.pick_full (fun x a b => (m1 x).2 ⟨a, by omega⟩)
    have f1 : Pool.free low (low + n - 1) all = 0 := Pool.free_none (fun x a b => (m1 x).2 ⟨a, by omega⟩)
    have f2 : Pool.free low (low + n - 1) most = 1 := by
      have e := Pool.free_less hmay (p := low + at_) (l := most) (by omega) (by omega) (fun hx => by have := (m2 _).1 hx; omega)
      have e0 : Pool.free low (low + n - 1) (most ++ [low + at_]) = 0 := Pool.free_none (fun x a b => by
        by_cases c : x = low + at_
        · simp [c]
        · exact List.mem_append_left _ ((m2 x).2 ⟨a, by omega, c⟩))
      omega
    have f3 : Pool.free low (low + n - 1) [] = n := by
      rw [Pool.free_cnt hmay, Pool.cnt_nil]; omega
    unfold pool_Pick.f pool_Free.f
    simp only [Option.bind_some]
    rw [p1, p2, if_pos (show all.length ≤ 1000 by omega), if_pos (show most.length ≤ 1000 by omega), if_pos (show ([] : List Int).length ≤ 1000 by decide), f1, f2, f3]
    simp
  | d + 1, k, i, all, most, h, hk, l1, l2, m1, m2 => by
    obtain ⟨k, rfl⟩ : ∃ m, k = m + 1 := ⟨k - 1, by omega⟩
    simp only [wharfingerlaw15_PoolFull.l0]
    rw [if_pos (by omega), if_pos (by omega), wrap_in (i := low + i) (by omega) (by omega), wrap_in (i := (i : Int) + 1) (by omega) (by omega)]
    simp only [Option.bind_some]
    rw [if_pos (show most.length < 17592186044416 by omega)]
    have n1 : ∀ x, x ∈ all ++ [low + (i : Int)] ↔ low ≤ x ∧ x < low + ((i + 1 : Nat) : Int) := by
      intro x; rw [List.mem_append, m1, List.mem_singleton]; omega
    rw [show (i : Int) + 1 = ((i + 1 : Nat) : Int) from by omega]
    by_cases e : (i : Int) = at_
    · rw [if_pos e]
      refine full_l low n draw at_ h1 h2 hn hn2 ha ha2 d k (i + 1) _ _ (by omega) (by omega) (by simp; omega) (by omega) n1 (fun x => ?_)
      rw [m2]; omega
    · rw [if_neg e]
      refine full_l low n draw at_ h1 h2 hn hn2 ha ha2 d k (i + 1) _ _ (by omega) (by omega) (by simp; omega) (by simp; omega) n1 (fun x => ?_)
      rw [List.mem_append, m2, List.mem_singleton]; omega

theorem PoolFull : wharfingerlaw15_PoolFull.Pure := by
  intro low n draw at_ w0 w1 w2 w3
  refine ⟨70004, ?_⟩
  unfold wharfingerlaw15_PoolFull.f
  rw [awake]
  simp only [Option.bind_some, if_true]
  have ht : wharfingerlaw15_PoolFull.j0 70004 low n draw at_ true true = some true := by simp only [wharfingerlaw15_PoolFull.j0]; rfl
  split
  · exact ht
  split
  · exact ht
  split
  · exact ht
  split
  · exact ht
  split
  · exact ht
  by_cases hge : at_ ≥ n
  · rw [decide_eq_true hge]; exact ht
  · rw [decide_eq_false hge]
    simp only [wharfingerlaw15_PoolFull.j0]
    rw [if_neg (by decide)]
    exact full_l low n draw at_ (by omega) (by omega) (by omega) (by omega) (by omega) (by omega) n.toNat _ 0 [] [] (by omega) (by omega) (by simp) (by simp) (fun x => by first | (simp; done) | (simp; omega)) (fun x => by first | (simp; done) | (simp; omega))

end Go.Proofs.Ytjfddeflkehccaa.Pure
