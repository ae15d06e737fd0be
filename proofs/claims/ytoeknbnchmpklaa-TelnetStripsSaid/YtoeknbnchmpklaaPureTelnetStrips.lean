/- What is left of any bytes, the state, and the count are what the document says; so is what is escaped: for at most 500 bytes. -/
import Derived.Test.YtoeknbnchmpklaaRx1
set_option linter.unusedVariables false
namespace Go.Proofs.Ytoeknbnchmpklaa.Pure
open Go Go.RowKit Go.Proofs.Ytoeknbnchmpklaa.TelnetStrips Go.Proofs.Ytoeknbnchmpklaa.R

theorem TelnetStrips : wharfingerlaw05_TelnetStrips.Pure := by
  unfold wharfingerlaw05_TelnetStrips.Pure
  intros
  rfl

end Go.Proofs.Ytoeknbnchmpklaa.Pure
