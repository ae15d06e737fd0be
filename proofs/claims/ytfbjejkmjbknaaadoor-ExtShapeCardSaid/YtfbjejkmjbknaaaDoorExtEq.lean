/- '==' of ends. -/
import Derived.Test.YtfbjejkmjbknaaaDoorExtLaws
import Derived.Test.YtfbjejkmjbknaaaDoorWEqStruct
import Derived.WalkMore
namespace Go.Proofs.YtfbjejkmjbknaaaDoor.Ext
open Go Go.RowKit Go.Proofs.YtfbjejkmjbknaaaDoorW.PrintWords Go.Proofs.YtfbjejkmjbknaaaDoorW.PrintLast Go.Proofs.YtfbjejkmjbknaaaDoorW.PrintMore Go.Proofs.YtfbjejkmjbknaaaDoor.Dig Go.Proofs.YtfbjejkmjbknaaaDoor.Quad Go.Proofs.YtfbjejkmjbknaaaDoor.ExtP Go.Proofs.YtfbjejkmjbknaaaDoor.SixP
set_option linter.unusedVariables false
set_option linter.unusedSimpArgs false

set_option maxHeartbeats 4000000 in
set_option maxRecDepth 100000 in
theorem eq_end (a b c d p a' b' c' d' p' : Int) (W : World) : (Op.equalIn 10000 25 (.agg #[.int .u8 a, .int .u8 b, .int .u8 c, .int .u8 d, .int .i64 p]) (.agg #[.int .u8 a', .int .u8 b', .int .u8 c', .int .u8 d', .int .i64 p'])).run Tryd.prog W = .ok ((a == a' && (b == b' && (c == c' && d == d'))) && p == p') W :=
  eqA_of (d := 9999) Tryd.underlying25 (by kernel_rfl)
    (eqf_cons rfl (show _ = Result.ok (.agg #[.int .u8 a, .int .u8 b, .int .u8 c, .int .u8 d]) W from rfl) (show _ = Result.ok (.agg #[.int .u8 a', .int .u8 b', .int .u8 c', .int .u8 d']) W from rfl) (eq_host' 9997 a b c d a' b' c' d' W)
      (eqf_last rfl (show _ = Result.ok (.int .i64 p) W from rfl) (show _ = Result.ok (.int .i64 p') W from rfl) (run_equalIn_int W 9998 3 .i64 .i64 p p' Tryd.underlying3)))
theorem eq_same (a b c d : Nat) (p : Int) (W : World) : (Op.equalIn 10000 25 (.agg #[.int .u8 a, .int .u8 b, .int .u8 c, .int .u8 d, .int .i64 p]) (.agg #[.int .u8 a, .int .u8 b, .int .u8 c, .int .u8 d, .int .i64 p])).run Tryd.prog W = .ok true W := by rw [eq_end]; simp
end Go.Proofs.YtfbjejkmjbknaaaDoor.Ext
