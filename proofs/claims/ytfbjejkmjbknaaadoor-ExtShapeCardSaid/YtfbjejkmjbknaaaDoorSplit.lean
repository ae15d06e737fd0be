/- strings.Split by one byte; the variable that its road reads. -/
import Derived.Test.YtfbjejkmjbknaaaDoorByte
import Derived.Test.YtfbjejkmjbknaaaDoorShelf
import Derived.Test.YtfbjejkmjbknaaaDoorCut
namespace Go.Proofs.YtfbjejkmjbknaaaDoor.Quad
open Go Go.RowKit Go.Proofs.YtfbjejkmjbknaaaDoorW.PrintWords Go.Proofs.YtfbjejkmjbknaaaDoorW.PrintLast Go.Proofs.YtfbjejkmjbknaaaDoorW.PrintMore Go.Proofs.YtfbjejkmjbknaaaDoor.Dig
set_option linter.unusedVariables false
set_option linter.unusedSimpArgs false

/-- The variable that strings.Split's road reads. -/
def Mx (w : World) : Prop := ∃ m : Int, w.cell? ⟨3, 0, none⟩ = some (.int .i64 m)
theorem Mx.below {w w' : World} (h : Mx w) (hb : Below w.heap.size w w') : Mx w' := by
  obtain ⟨m, hm⟩ := h
  exact ⟨m, (hb.cell (World.block_lt_of_cell? w _ hm)).trans hm⟩

theorem split_calls (c : UInt8) (s : ByteArray) (hs : s.size < 4294967281) : ∃ ps : List ByteArray, ps.map (·.data.toList) = Cut.cut c s.data.toList ∧ ∀ w : World, Mx w →
    Calls Tryd.prog 39 #[.string s, .string ⟨#[c]⟩] w fun e w' => e = .returned (.slice (some ⟨w.heap.size, 0, none⟩) ps.length ps.length) ∧ w' = w.alloc (.cells (ps.map Value.string).toArray 9) := by
  refine ⟨Lib.splitB ⟨#[c]⟩ 0 (Lib.countB s ⟨#[c]⟩) s, Cut.splitB_cut c s, fun w hm => ?_⟩
  obtain ⟨m, hm⟩ := hm
  have h := Tryd.strings_Split s ⟨#[c]⟩ m w hs hm (Nat.le_refl 1)
  rwa [Lib.splitB_all ⟨#[c]⟩ (Nat.le_refl 1) 0 _ s rfl]

end Go.Proofs.YtfbjejkmjbknaaaDoor.Quad
