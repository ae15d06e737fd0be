/- A byte of a text, and what the model knows of the type string. -/
import Derived.Test.YtipojdjdlnafmaaDoorLib
import Derived.Test.YtipojdjdlnafmaaDoorDig
import Derived.Test.YtipojdjdlnafmaaDoorProg
namespace Go.Proofs.YtipojdjdlnafmaaDoor.Quad
open Go Go.RowKit Go.Proofs.YtipojdjdlnafmaaDoorW.PrintWords Go.Proofs.YtipojdjdlnafmaaDoorW.PrintLast Go.Proofs.YtipojdjdlnafmaaDoorW.PrintMore Go.Proofs.YtipojdjdlnafmaaDoor.Dig
set_option linter.unusedVariables false
set_option linter.unusedSimpArgs false

theorem bt_byte (s : ByteArray) (k : Nat) (h : k < s.data.toList.length) : bt s (k : Int) = ((s.data.toList[k]).toNat : Int) := by
  have h' : k < s.size := by rw [← data_length s]; exact h
  unfold bt
  rw [dif_pos (by simpa using h')]
  rfl

theorem info9 : (Tryd.prog.info? 9).map (fun i => (i.zero, i.size, i.bytes)) = some (some (.string ⟨#[]⟩), 1, 16) := by kernel_rfl
end Go.Proofs.YtipojdjdlnafmaaDoor.Quad
