/- The contract of the chapter's examples. -/
import Derived.Test.YtdbbmcbkhjmokaaDoorRefCut
namespace Go.Proofs.YtdbbmcbkhjmokaaDoor.Quad
open Go Go.RowKit Go.Proofs.YtdbbmcbkhjmokaaDoorW.PrintWords Go.Proofs.YtdbbmcbkhjmokaaDoorW.PrintLast Go.Proofs.YtdbbmcbkhjmokaaDoorW.PrintMore Go.Proofs.YtdbbmcbkhjmokaaDoor.Dig
set_option linter.unusedVariables false
set_option linter.unusedSimpArgs false

theorem aw_read1 : readR (readN (⟨#[49, 48, 46, 48, 46, 48, 46, 49]⟩ : ByteArray).data.toList) = .tuple #[.agg #[.int .u8 10, .int .u8 0, .int .u8 0, .int .u8 1], .bool true] := by
  rw [show readN (⟨#[49, 48, 46, 48, 46, 48, 46, 49]⟩ : ByteArray).data.toList = some (10, 0, 0, 1) from by decide +kernel]; rfl
theorem aw_read2 : readR (readN (⟨#[49, 48, 46, 48, 46, 48, 46, 48, 49]⟩ : ByteArray).data.toList) = .tuple #[.agg #[.int .u8 0, .int .u8 0, .int .u8 0, .int .u8 0], .bool false] := by
  rw [show readN (⟨#[49, 48, 46, 48, 46, 48, 46, 48, 49]⟩ : ByteArray).data.toList = none from by decide +kernel]; rfl
theorem aw_get : get (⟨#[56, 48]⟩ : ByteArray).data.toList 100 = (80, true) := by decide +kernel
theorem aw_num : strOfNums (num (-7)) = ⟨#[45, 55]⟩ := by
  rw [numU_eq, numU, if_pos (by decide), show (-7 : Int).natAbs = 7 from rfl, digU_small (by decide)]; rfl
theorem aw_text : (⟨(hostU 10 0 0 1).toArray⟩ : ByteArray) = ⟨#[49, 48, 46, 48, 46, 48, 46, 49]⟩ := by
  rw [← ((readN_iff [49, 48, 46, 48, 46, 48, 46, 49] 10 0 0 1).1 (by decide +kernel)).1]

set_option maxHeartbeats 1000000 in
set_option maxRecDepth 100000 in
theorem awake_calls (w : World) (hm : Mx w) :
    Calls Tryd.prog 8 #[] w fun e w' => e = .returned (.bool true) ∧ Below w.heap.size w w' := by
  have HM := Aside0.mk hm
  clear hm
  have tok1 : True := trivial
  have hq : ∀ W, (Op.equalIn 10000 23 (.agg #[.int .u8 10, .int .u8 0, .int .u8 0, .int .u8 1]) (.agg #[.int .u8 10, .int .u8 0, .int .u8 0, .int .u8 1])).run Tryd.prog W = .ok true W := fun W => eq_host 10 0 0 1 10 0 0 1 W
  go_enter Tryd.func8, Tryd.ntmps8
  have tok2 : True := trivial
  go_wp2_with (first
    | (go_at_call 11; have _t := tok1; clear tok1 _t; refine (read_calls _ (by decide) _ HM.out).mono ?_; rw [aw_read1]; rintro e w1 ⟨rfl, hb1⟩; have HB1 := Aside0.mk hb1; clear hb1)
    | (go_at_call 11; have _t := tok2; clear tok2 _t; refine (read_calls _ (by decide) _ (HM.out.below (HB1.out.alloc HB1.out.size _))).mono ?_; rw [aw_read2]; rintro e w2 ⟨rfl, hb2⟩; have G2 := Aside0.mk (blk_below (blk_new w1 (.cells #[.int .u8 10, .int .u8 0, .int .u8 0, .int .u8 1] 23)) hb2); have HB2 := Aside0.mk ((HB1.out.alloc HB1.out.size (.cells #[.int .u8 10, .int .u8 0, .int .u8 0, .int .u8 1] 23)).trans (hb2.mono (HB1.out.alloc HB1.out.size _).size)); have k0 : w2.cell? ⟨w1.heap.size, 0, none⟩ = some (.int .u8 10) := (blk_cell G2.out 0).trans rfl; have k1 : w2.cell? ⟨w1.heap.size, 1, none⟩ = some (.int .u8 0) := (blk_cell G2.out 1).trans rfl; have k2 : w2.cell? ⟨w1.heap.size, 2, none⟩ = some (.int .u8 0) := (blk_cell G2.out 2).trans rfl; have k3 : w2.cell? ⟨w1.heap.size, 3, none⟩ = some (.int .u8 1) := (blk_cell G2.out 3).trans rfl; have hlt : w1.heap.size < w2.heap.size := blk_lt G2.out; have hne : w1.heap.size ≠ w2.heap.size := Nat.ne_of_lt hlt; clear hb2)
    | (go_at_call 9; refine (get_calls _ _ _).mono ?_; rw [aw_get]; rintro e w9 ⟨rfl, rfl⟩)
    | (go_at_call 13; refine (num_calls (-7) (by decide) (by decide) _).mono ?_; rw [aw_num]; rintro e w3 ⟨rfl, hb3⟩; have G3 := Aside0.mk (blk_below (blk_alloc G2.out (.cells #[.int .u8 0, .int .u8 0, .int .u8 0, .int .u8 0] 23)) hb3); have HB3 := Aside0.mk ((HB2.out.alloc HB2.out.size (.cells #[.int .u8 0, .int .u8 0, .int .u8 0, .int .u8 0] 23)).trans (hb3.mono (HB2.out.alloc HB2.out.size _).size)); have l0 : w3.cell? ⟨w1.heap.size, 0, none⟩ = some (.int .u8 10) := (blk_cell G3.out 0).trans rfl; have l1 : w3.cell? ⟨w1.heap.size, 1, none⟩ = some (.int .u8 0) := (blk_cell G3.out 1).trans rfl; have l2 : w3.cell? ⟨w1.heap.size, 2, none⟩ = some (.int .u8 0) := (blk_cell G3.out 2).trans rfl; have l3 : w3.cell? ⟨w1.heap.size, 3, none⟩ = some (.int .u8 1) := (blk_cell G3.out 3).trans rfl; clear hb3)
    | (go_at_call 15; refine (text_calls 10 0 0 1 (by decide) (by decide) (by decide) (by decide) _).mono ?_; rw [aw_text]; rintro e w4 ⟨rfl, hb4⟩; have HB4 := Aside0.mk (HB3.out.trans (hb4.mono HB3.out.size)); clear hb4))
  go_ret
  exact ⟨rfl, HB4.out⟩
end Go.Proofs.YtdbbmcbkhjmokaaDoor.Quad
