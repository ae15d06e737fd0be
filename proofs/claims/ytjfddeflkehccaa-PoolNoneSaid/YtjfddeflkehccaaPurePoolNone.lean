/- Of ports that may not be none is picked, and none is free; what is not one of them does not matter: for at most 59 that are busy. -/
import Derived.Test.YtjfddeflkehccaaRx1
set_option linter.unusedVariables false
namespace Go.Proofs.Ytjfddeflkehccaa.Pure
open Go Go.RowKit Go.Proofs.Ytjfddeflkehccaa.PoolLaws Go.Proofs.Ytjfddeflkehccaa.R

theorem PoolNone : wharfingerlaw15_PoolNone.Pure := by
  unfold wharfingerlaw15_PoolNone.Pure
  intros
  rfl

end Go.Proofs.Ytjfddeflkehccaa.Pure
