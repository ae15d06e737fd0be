/- Of any ports, any draw, and any that are busy, the one that is picked, or that there is none, and how many are free, is what the document says: for at most 60 that are busy, and, to count them, at most 3000 ports. -/
import Derived.Test.YtjfddeflkehccaaQx2
import Derived.Test.YtjfddeflkehccaaPurePoolRef
namespace Go.Proofs.Ytjfddeflkehccaa.Pure
open Go Go.RowKit Go.Proofs.Ytjfddeflkehccaa.PoolExt Go.Proofs.Ytjfddeflkehccaa.Q Go.Proofs.YtjfddeflkehccaaW.PrintWords Go.Proofs.YtjfddeflkehccaaW.PrintLast

theorem PoolPicks : wharfingerlaw15_PoolPicks.Pure := by
  intro low high draw l w0 w1 w2 hm hs hw
  refine ⟨70004, ?_⟩
  unfold wharfingerlaw15_PoolPicks.f
  rw [awake]
  simp only [Option.bind_some, if_true, wharfingerlaw15_PoolPicks.j0]
  by_cases h60 : (l.length : Int) > 60
  · simp [h60]
  · have hd : decide ((l.length : Int) > 60) = false := decide_eq_false h60
    rw [hd, if_neg (by decide), rpick low high draw l (by omega) _ (by omega)]
    unfold pool_Pick.f
    simp only [Option.bind_some, if_true, bne_self_eq_false, wharfingerlaw15_PoolPicks.j1]
    have hj : ∀ b, wharfingerlaw15_PoolPicks.j2 70002 low high l b = some true := by
      intro b
      simp only [wharfingerlaw15_PoolPicks.j2]
      split
      · rfl
      · rw [rfree low high l (by omega) _ (by omega)]
        unfold pool_Free.f
        rw [if_pos (by omega)]
        simp
    rw [if_neg (by decide)]
    split
    · split
      · exact hj _
      · exact hj _
    · exact hj _

end Go.Proofs.Ytjfddeflkehccaa.Pure
