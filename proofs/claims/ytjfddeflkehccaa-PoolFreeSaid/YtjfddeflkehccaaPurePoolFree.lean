/- What is picked is one of some ports, and not busy; there is one just where some are free; busy then, too, there is one less: for at most 60 that are busy. -/
import Derived.Test.YtjfddeflkehccaaRx1
set_option linter.unusedVariables false
namespace Go.Proofs.Ytjfddeflkehccaa.Pure
open Go Go.RowKit Go.Proofs.Ytjfddeflkehccaa.PoolLaws Go.Proofs.Ytjfddeflkehccaa.R

theorem PoolFree : wharfingerlaw15_PoolFree.Pure := by
  unfold wharfingerlaw15_PoolFree.Pure
  intros
  rfl

end Go.Proofs.Ytjfddeflkehccaa.Pure
