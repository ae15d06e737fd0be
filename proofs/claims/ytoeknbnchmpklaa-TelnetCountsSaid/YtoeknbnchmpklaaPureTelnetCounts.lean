/- A 242 is counted just where a 255 called ahead of it; three bytes of a wish are none of the text: for at most 200 bytes without a 255, and from 0 to 20 times. -/
import Derived.Test.YtoeknbnchmpklaaRx1
set_option linter.unusedVariables false
namespace Go.Proofs.Ytoeknbnchmpklaa.Pure
open Go Go.RowKit Go.Proofs.Ytoeknbnchmpklaa.TelnetLaws Go.Proofs.Ytoeknbnchmpklaa.R

theorem TelnetCounts : wharfingerlaw05_TelnetCounts.Pure := by
  unfold wharfingerlaw05_TelnetCounts.Pure
  intro l0 a1 a2 _ _ _ h _
  unfold wharfingerlaw05_TelnetCounts.f
  rw [if_pos (by simp [Lit.wf, IntKind.min, IntKind.max, IntKind.signed, IntKind.bits] at h; omega)]

end Go.Proofs.Ytoeknbnchmpklaa.Pure
