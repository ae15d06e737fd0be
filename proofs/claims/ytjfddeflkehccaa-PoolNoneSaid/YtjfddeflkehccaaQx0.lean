-- Written by a program of this session over the kit's print.py. Not trusted: Lean checks it.
import Derived.Test.YtjfddeflkehccaaProg
import Derived.Below
import Derived.Deep.Draws
import Derived.Deep.AppendLies
import Derived.Maps.AppendAt
import Derived.OwnWalk
import Derived.Laws.BytesArg
import Derived.Laws.MakeOwn
import Derived.Laws.OwnMore
import Derived.Deep.OwnRows
import Derived.Tactics
import Derived.Lib.ConvBytes
import Derived.Laws.Slices
import Derived.WalkKit
import Derived.KernelRfl
import Derived.RowKit3
import Derived.Deep.LoopGhost
import Derived.Deep.QuietTactic
import Derived.BigQuiet
import Derived.WideLaws
import Derived.Deep.DeepCutAuto
import Derived.Deep.CutBlock
import Derived.Deep.RegionHeld3
import Derived.Laws.Rows
import Derived.Lib.AppendStr
import Derived.ArgAppend
import Derived.Laws.IdiomCopy
import Derived.OrdersHeld
import Derived.Laws.BitsLemmas
import Derived.RowKit
import Derived.Test.YtjfddeflkehccaaPoolExt
import Derived.Test.YtjfddeflkehccaaWWords
import Derived.Test.YtjfddeflkehccaaWLast
import Derived.Test.YtjfddeflkehccaaWTab
import Derived.Test.YtjfddeflkehccaaWFour
import Derived.Test.YtjfddeflkehccaaWQPut
import Derived.Test.YtjfddeflkehccaaWApart
import Derived.Test.YtjfddeflkehccaaWArr
import Derived.Test.YtjfddeflkehccaaWZeros
import Derived.Test.YtjfddeflkehccaaWFoot
import Derived.Test.YtjfddeflkehccaaWKept
import Derived.Test.YtjfddeflkehccaaWShare
import Derived.Test.YtjfddeflkehccaaWN
import Derived.Test.YtjfddeflkehccaaWFootNe
import Derived.Test.YtjfddeflkehccaaWAt
import Derived.Test.YtjfddeflkehccaaWEqStruct
import Derived.Test.YtjfddeflkehccaaWRepsOne
import Derived.Test.YtjfddeflkehccaaWInv
import Derived.Test.YtjfddeflkehccaaWInvWords
import Derived.Test.YtjfddeflkehccaaWGuard
import Derived.Test.YtjfddeflkehccaaWNEv
import Derived.Test.YtjfddeflkehccaaWMore
namespace Go.Proofs.Ytjfddeflkehccaa.Q
open Go.RowKit Go.Proofs.Ytjfddeflkehccaa.PoolExt Go.Proofs.YtjfddeflkehccaaW.PrintWords Go.Proofs.YtjfddeflkehccaaW.PrintLast Go.Proofs.YtjfddeflkehccaaW.PrintMore
attribute [local go_sem] max2_int min2_int max_two min_two max_three min_three max_four min_four   -- for this text's walks alone
set_option linter.unusedVariables false
set_option linter.unusedSimpArgs false



def errW : Option Int → Value
  | none => .nilIface
  | some c => .iface 0 (.int .i64 c)
theorem errW_none : errW none = .nilIface := rfl
theorem errW_some (c : Int) : errW (some c) = .iface 0 (.int .i64 c) := rfl

theorem info3 : (Try.prog.info? 3).map (fun i => (i.zero, i.size, i.bytes)) = some (some (.int .i64 0), 1, 8) := by kernel_rfl
-- the values' own types

end Go.Proofs.Ytjfddeflkehccaa.Q
