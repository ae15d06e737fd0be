/- The walk of SixFirst. -/
import Derived.Test.YtfhfldpdkmankaaDoorSixLaws
namespace Go.Proofs.YtfhfldpdkmankaaDoor.Six
open Go Go.RowKit Go.Proofs.YtfhfldpdkmankaaDoorW.PrintWords Go.Proofs.YtfhfldpdkmankaaDoorW.PrintLast Go.Proofs.YtfhfldpdkmankaaDoorW.PrintMore Go.Proofs.YtfhfldpdkmankaaDoor.Dig Go.Proofs.YtfhfldpdkmankaaDoor.Quad Go.Proofs.YtfhfldpdkmankaaDoor.SixP
set_option linter.unusedVariables false
set_option linter.unusedSimpArgs false

set_option maxHeartbeats 4000000 in
set_option maxRecDepth 100000 in
theorem first_walk (s m : ByteArray) (w : World) (hm : Mx w) :
    Calls Tryd.prog 7 #[.string s, .string m] w fun e w' => e = .returned (.bool true) ∧ Below w.heap.size w w' := by
  have HM := Aside0.mk hm
  have HB := Aside0.mk (Below.refl w.heap.size w)
  clear hm
  have hgoes : (decide (100 < (s.size : Int)) = true) ∨ (decide (100 < (s.size : Int)) = false ∧ decide (100 < (m.size : Int)) = true) ∨ (decide (100 < (s.size : Int)) = false ∧ decide (100 < (m.size : Int)) = false ∧ s.size ≤ 100 ∧ m.size ≤ 100) := by
    simp only [decide_eq_true_eq, decide_eq_false_iff_not]; omega
  rcases hgoes with h1 | ⟨h1, h2⟩ | ⟨h1, h2, hs, hms⟩
  iterate 2
    · go_enter Tryd.func7, Tryd.ntmps7
      go_wp2_with (first
        | (go_at_call 8; with_reducible refine (awake_calls _ (HM.out.below HB.out)).mono ?_; rintro e v1 ⟨rfl, hb⟩; replace HB := Aside0.mk (HB.out.trans (hb.mono HB.out.size)); clear hb; have tok1 := trivial))
      go_ret
      exact ⟨rfl, HB.out⟩
  · rcases some_goes (o := find s.data.toList) with ⟨x0, x1, x2, x3, x4, h3, h4⟩ | ⟨h3, h4⟩
    · have HF := Aside0.mk (show FindIs s x0 x1 x2 x3 x4 true from ⟨by omega, h4⟩)
      have HF2 := Aside0.mk (show FindIs (s ++ m) x0 x1 x2 x3 x4 true from ⟨by rw [ByteArray.size_append]; omega, by
        rw [show (s ++ m : ByteArray).data.toList = s.data.toList ++ m.data.toList from by simp, find_app h3]; rfl⟩)
      have hq := eq_same x0 x1 x2 x3 x4
      clear h3 h4
      go_enter Tryd.func7, Tryd.ntmps7
      go_wp2_with (first
        | (go_at_call 8; with_reducible refine (awake_calls _ (HM.out.below HB.out)).mono ?_; rintro e v1 ⟨rfl, hb⟩; replace HB := Aside0.mk (HB.out.trans (hb.mono HB.out.size)); clear hb; have tok1 := trivial)
        | (go_at_call 13; with_reducible refine (HF.out.calls (HM.out.below HB.out)).mono ?_; rintro e v2 ⟨rfl, hb⟩; replace HB := Aside0.mk (HB.out.trans (hb.mono HB.out.size)); clear hb; have tok2 := trivial)
        | (go_at_call 13; with_reducible refine (HF2.out.calls (HM.out.below (HB.out.alloc HB.out.size _))).mono ?_; rintro e v3 ⟨rfl, hb⟩; have KX := Aside0.mk (blk_below (blk_new v2 (.cells #[.int .u8 x0, .int .u8 x1, .int .u8 x2, .int .u8 x3, .int .i64 x4] 25)) hb); replace HB := Aside0.mk ((HB.out.alloc HB.out.size _).trans (hb.mono (HB.out.alloc HB.out.size _).size)); clear hb; have kX0 : v3.cell? ⟨v2.heap.size, 0, none⟩ = some (.int .u8 x0) := (blk_cell KX.out 0).trans rfl; have jX0 : ∀ o, (v3.alloc o).cell? ⟨v2.heap.size, 0, none⟩ = some (.int .u8 x0) := fun o => (blk_cell (blk_alloc KX.out o) 0).trans rfl; have kX1 : v3.cell? ⟨v2.heap.size, 1, none⟩ = some (.int .u8 x1) := (blk_cell KX.out 1).trans rfl; have jX1 : ∀ o, (v3.alloc o).cell? ⟨v2.heap.size, 1, none⟩ = some (.int .u8 x1) := fun o => (blk_cell (blk_alloc KX.out o) 1).trans rfl; have kX2 : v3.cell? ⟨v2.heap.size, 2, none⟩ = some (.int .u8 x2) := (blk_cell KX.out 2).trans rfl; have jX2 : ∀ o, (v3.alloc o).cell? ⟨v2.heap.size, 2, none⟩ = some (.int .u8 x2) := fun o => (blk_cell (blk_alloc KX.out o) 2).trans rfl; have kX3 : v3.cell? ⟨v2.heap.size, 3, none⟩ = some (.int .u8 x3) := (blk_cell KX.out 3).trans rfl; have jX3 : ∀ o, (v3.alloc o).cell? ⟨v2.heap.size, 3, none⟩ = some (.int .u8 x3) := fun o => (blk_cell (blk_alloc KX.out o) 3).trans rfl; have kX4 : v3.cell? ⟨v2.heap.size, 4, none⟩ = some (.int .i64 x4) := (blk_cell KX.out 4).trans rfl; have jX4 : ∀ o, (v3.alloc o).cell? ⟨v2.heap.size, 4, none⟩ = some (.int .i64 x4) := fun o => (blk_cell (blk_alloc KX.out o) 4).trans rfl; have tok3 := trivial))
      go_ret
      exact ⟨rfl, (HB.out.alloc HB.out.size _)⟩
    · have HF := Aside0.mk (show FindIs s 0 0 0 0 0 false from ⟨by omega, h4⟩)
      have hq := eq_zero
      clear h3 h4
      go_enter Tryd.func7, Tryd.ntmps7
      go_wp2_with (first
        | (go_at_call 8; with_reducible refine (awake_calls _ (HM.out.below HB.out)).mono ?_; rintro e v1 ⟨rfl, hb⟩; replace HB := Aside0.mk (HB.out.trans (hb.mono HB.out.size)); clear hb; have tok1 := trivial)
        | (go_at_call 13; with_reducible refine (HF.out.zcalls (HM.out.below HB.out)).mono ?_; rintro e v2 ⟨rfl, hb⟩; replace HB := Aside0.mk (HB.out.trans (hb.mono HB.out.size)); clear hb; have tok2 := trivial))
      go_ret
      exact ⟨rfl, (HB.out.alloc HB.out.size _)⟩
end Go.Proofs.YtfhfldpdkmankaaDoor.Six
