/- Each port that is free is picked by some draw, and draws that differ by a whole number of all ports pick the same: for at most 60 that are busy, ports that may be, and from -1000 to 1000 times. -/
import Derived.Test.YtjfddeflkehccaaQx2
import Derived.Test.YtjfddeflkehccaaPurePoolRef
namespace Go.Proofs.Ytjfddeflkehccaa.Pure
open Go Go.RowKit Go.Proofs.Ytjfddeflkehccaa.PoolExt Go.Proofs.Ytjfddeflkehccaa.Q Go.Proofs.YtjfddeflkehccaaW.PrintWords Go.Proofs.YtjfddeflkehccaaW.PrintLast

theorem PoolDraws : wharfingerlaw15_PoolDraws.Pure := by
  intro low high l at_ times w0 w1 hm hs hw w3 w4
  refine ⟨70004, ?_⟩
  unfold wharfingerlaw15_PoolDraws.f
  rw [awake]
  simp only [Option.bind_some, if_true]
  have ht : wharfingerlaw15_PoolDraws.j0 70004 low high l at_ times true true = some true := by simp only [wharfingerlaw15_PoolDraws.j0]; rfl
  split
  · exact ht
  split
  · exact ht
  split
  · exact ht
  split
  · exact ht
  split
  · exact ht
  have e1 : wrap64 (high - low) = high - low := wrap_in (by omega) (by omega)
  rw [e1]
  split
  · exact ht
  split
  · exact ht
  by_cases h1000 : times > 1000
  · rw [decide_eq_true h1000]; exact ht
  · rw [decide_eq_false h1000]
    have hmay : Pool.may low high = true := (Pool.may_iff _ _).2 ⟨by omega, by omega, by omega⟩
    have hmul : -65000000 ≤ times * (high - low + 1) ∧ times * (high - low + 1) ≤ 65000000 := by
      have a1 : (-1000) * (high - low + 1) ≤ times * (high - low + 1) := Int.mul_le_mul_of_nonneg_right (by omega) (by omega)
      have a2 : times * (high - low + 1) ≤ 1000 * (high - low + 1) := Int.mul_le_mul_of_nonneg_right (by omega) (by omega)
      omega
    simp only [wharfingerlaw15_PoolDraws.j0]
    rw [if_neg (by decide), e1, wrap_in (i := high - low + 1) (by omega) (by omega), wrap_in (i := times * _) (by omega) (by omega), wrap_in (i := at_ + _) (by omega) (by omega), wrap_in (i := low + at_) (by omega) (by omega),
      has l _ (by omega) _ (by omega)]
    unfold pool_Pick.f
    rw [Pool.pick_emod]
    simp only [Option.bind_some, if_true, beq_self_eq_true]
    by_cases hin : low + at_ ∈ l
    · rw [decide_eq_true hin]; rfl
    · rw [decide_eq_false hin, Pool.pick_at hmay (by omega) (by omega) hin]
      simp

end Go.Proofs.Ytjfddeflkehccaa.Pure
