/- A byte of a text, and what the model knows of the type string. -/
import Derived.Test.YtfbjejkmjbknaaaDoorLib
import Derived.Test.YtfbjejkmjbknaaaDoorDig
import Derived.Test.YtfbjejkmjbknaaaDoorProg
namespace Go.Proofs.YtfbjejkmjbknaaaDoor.Quad
open Go Go.RowKit Go.Proofs.YtfbjejkmjbknaaaDoorW.PrintWords Go.Proofs.YtfbjejkmjbknaaaDoorW.PrintLast Go.Proofs.YtfbjejkmjbknaaaDoorW.PrintMore Go.Proofs.YtfbjejkmjbknaaaDoor.Dig
set_option linter.unusedVariables false
set_option linter.unusedSimpArgs false

theorem bt_byte (s : ByteArray) (k : Nat) (h : k < s.data.toList.length) : bt s (k : Int) = ((s.data.toList[k]).toNat : Int) := by
  have h' : k < s.size := by rw [← data_length s]; exact h
  unfold bt
  rw [dif_pos (by simpa using h')]
  rfl

theorem info9 : (Tryd.prog.info? 9).map (fun i => (i.zero, i.size, i.bytes)) = some (some (.string ⟨#[]⟩), 1, 16) := by kernel_rfl
end Go.Proofs.YtfbjejkmjbknaaaDoor.Quad
