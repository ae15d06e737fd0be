/- Of nothing nothing is left, and the state stays, but that one that is none is plain; a 255 alone leads to the next one. -/
import Derived.Test.YtoeknbnchmpklaaRx1
set_option linter.unusedVariables false
namespace Go.Proofs.Ytoeknbnchmpklaa.Pure
open Go Go.RowKit Go.Proofs.Ytoeknbnchmpklaa.TelnetLaws Go.Proofs.Ytoeknbnchmpklaa.R

theorem TelnetNone : wharfingerlaw05_TelnetNone.Pure := by
  unfold wharfingerlaw05_TelnetNone.Pure
  intros
  rfl

end Go.Proofs.Ytoeknbnchmpklaa.Pure
