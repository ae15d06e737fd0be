/- Contracts and plain facts that the law's proof needs. -/
import Derived.Test.YtajaedebndeajaaDoorM2
namespace Go.Proofs.YtajaedebndeajaaDoor.Q
open Go.RowKit Go.Proofs.YtajaedebndeajaaDoor.AclMet Go.Proofs.YtajaedebndeajaaDoorW.PrintWords Go.Proofs.YtajaedebndeajaaDoorW.PrintLast Go.Proofs.YtajaedebndeajaaDoorW.PrintMore
attribute [local go_sem] max2_int min2_int max_two min_two max_three min_three max_four min_four   -- for this text's walks alone
set_option linter.unusedVariables false
set_option linter.unusedSimpArgs false

/-! ### wharfingerref13_ports: function 21 -/
mutual
def wharfingerref13_ports.j0 : Nat → Int → Bool → Int → Int → Int → Int → List (S40) → Int → Int → Int → Bool → ByteArray → ByteArray → Int → Int → Int → Int → Int → Int → Int → List (S44) → Int → Int → Int → Int → Option (Bool)
 | 0, _, _, _, _, _, _, _, _, _, _, _, _, _, _, _, _, _, _, _, _, _, _, _, _, _ => none
 | k + 1, x1, x26, x215000, x215001, x215002, x215003, x215004, x215005, x215006, x215007, x215008, x217000, x217001, x217002, x217003, x217004, x217005, x217006, x217007, x217008, x217009, x217010, x217011, x217012, x217013 => if x26 = true then (some false) else (wharfingerref13_ports.l0 k x1 0 x215000 x215001 x215002 x215003 x215004 x215005 x215006 x215007 x215008 x217000 x217001 x217002 x217003 x217004 x217005 x217006 x217007 x217008 x217009 x217010 x217011 x217012 x217013)
def wharfingerref13_ports.l0 : Nat → Int → Int → Int → Int → Int → Int → List (S40) → Int → Int → Int → Bool → ByteArray → ByteArray → Int → Int → Int → Int → Int → Int → Int → List (S44) → Int → Int → Int → Int → Option (Bool)
 | 0, _, _, _, _, _, _, _, _, _, _, _, _, _, _, _, _, _, _, _, _, _, _, _, _, _ => none
 | k + 1, x1, x6, x215000, x215001, x215002, x215003, x215004, x215005, x215006, x215007, x215008, x217000, x217001, x217002, x217003, x217004, x217005, x217006, x217007, x217008, x217009, x217010, x217011, x217012, x217013 => if x6 < x1 then (if 0 ≤ x6 then (if x6 < (x215004.length : Int) then (if x217007 ≤ ((rd_T40 x215004 x6).f4) then (if ((rd_T40 x215004 x6).f3) ≤ x217008 then (some false) else (wharfingerref13_ports.l0 k x1 (wrap64 (x6 + 1)) x215000 x215001 x215002 x215003 x215004 x215005 x215006 x215007 x215008 x217000 x217001 x217002 x217003 x217004 x217005 x217006 x217007 x217008 x217009 x217010 x217011 x217012 x217013)) else (wharfingerref13_ports.l0 k x1 (wrap64 (x6 + 1)) x215000 x215001 x215002 x215003 x215004 x215005 x215006 x215007 x215008 x217000 x217001 x217002 x217003 x217004 x217005 x217006 x217007 x217008 x217009 x217010 x217011 x217012 x217013)) else (none)) else (none)) else (some true)
end
def wharfingerref13_ports.f (k : Nat) (a0_0 : Int) (a0_1 : Int) (a0_2 : Int) (a0_3 : Int) (l0_4 : List (S40)) (a0_5 : Int) (a0_6 : Int) (a0_7 : Int) (a0_8 : Bool) (a1 : Int) : Option (Bool) := if 0 ≤ a1 then (if a1 < (l0_4.length : Int) then (if ((rd_T40 l0_4 a1).f3) < 1024 then (wharfingerref13_ports.j0 k a1 true a0_0 a0_1 a0_2 a0_3 l0_4 a0_5 a0_6 a0_7 a0_8 ((rd_T40 l0_4 a1).f0) ((rd_T40 l0_4 a1).f1) ((rd_T40 l0_4 a1).f2.f0.f0) ((rd_T40 l0_4 a1).f2.f0.f1) ((rd_T40 l0_4 a1).f2.f0.f2) ((rd_T40 l0_4 a1).f2.f0.f3) ((rd_T40 l0_4 a1).f2.f1) ((rd_T40 l0_4 a1).f3) ((rd_T40 l0_4 a1).f4) ((rd_T40 l0_4 a1).f5) ((rd_T40 l0_4 a1).f6) ((rd_T40 l0_4 a1).f7) ((rd_T40 l0_4 a1).f8) ((rd_T40 l0_4 a1).f9)) else (if ((rd_T40 l0_4 a1).f3) > ((rd_T40 l0_4 a1).f4) then (wharfingerref13_ports.j0 k a1 true a0_0 a0_1 a0_2 a0_3 l0_4 a0_5 a0_6 a0_7 a0_8 ((rd_T40 l0_4 a1).f0) ((rd_T40 l0_4 a1).f1) ((rd_T40 l0_4 a1).f2.f0.f0) ((rd_T40 l0_4 a1).f2.f0.f1) ((rd_T40 l0_4 a1).f2.f0.f2) ((rd_T40 l0_4 a1).f2.f0.f3) ((rd_T40 l0_4 a1).f2.f1) ((rd_T40 l0_4 a1).f3) ((rd_T40 l0_4 a1).f4) ((rd_T40 l0_4 a1).f5) ((rd_T40 l0_4 a1).f6) ((rd_T40 l0_4 a1).f7) ((rd_T40 l0_4 a1).f8) ((rd_T40 l0_4 a1).f9)) else (wharfingerref13_ports.j0 k a1 (decide (((rd_T40 l0_4 a1).f4) > 65535)) a0_0 a0_1 a0_2 a0_3 l0_4 a0_5 a0_6 a0_7 a0_8 ((rd_T40 l0_4 a1).f0) ((rd_T40 l0_4 a1).f1) ((rd_T40 l0_4 a1).f2.f0.f0) ((rd_T40 l0_4 a1).f2.f0.f1) ((rd_T40 l0_4 a1).f2.f0.f2) ((rd_T40 l0_4 a1).f2.f0.f3) ((rd_T40 l0_4 a1).f2.f1) ((rd_T40 l0_4 a1).f3) ((rd_T40 l0_4 a1).f4) ((rd_T40 l0_4 a1).f5) ((rd_T40 l0_4 a1).f6) ((rd_T40 l0_4 a1).f7) ((rd_T40 l0_4 a1).f8) ((rd_T40 l0_4 a1).f9)))) else (none)) else (none)
theorem wharfingerref13_ports.mono_l : ∀ k, (∀ y0 y1 y2 y3 y4 y5 y6 y7 y8 y9 y10 y11 y12 y13 y14 y15 y16 y17 y18 y19 y20 y21 y22 y23 y24, LeO (wharfingerref13_ports.j0 k y0 y1 y2 y3 y4 y5 y6 y7 y8 y9 y10 y11 y12 y13 y14 y15 y16 y17 y18 y19 y20 y21 y22 y23 y24) (wharfingerref13_ports.j0 (k + 1) y0 y1 y2 y3 y4 y5 y6 y7 y8 y9 y10 y11 y12 y13 y14 y15 y16 y17 y18 y19 y20 y21 y22 y23 y24)) ∧ (∀ y0 y1 y2 y3 y4 y5 y6 y7 y8 y9 y10 y11 y12 y13 y14 y15 y16 y17 y18 y19 y20 y21 y22 y23 y24, LeO (wharfingerref13_ports.l0 k y0 y1 y2 y3 y4 y5 y6 y7 y8 y9 y10 y11 y12 y13 y14 y15 y16 y17 y18 y19 y20 y21 y22 y23 y24) (wharfingerref13_ports.l0 (k + 1) y0 y1 y2 y3 y4 y5 y6 y7 y8 y9 y10 y11 y12 y13 y14 y15 y16 y17 y18 y19 y20 y21 y22 y23 y24))
 | 0 => ⟨fun _ _ _ _ _ _ _ _ _ _ _ _ _ _ _ _ _ _ _ _ _ _ _ _ _ r h => by simp [wharfingerref13_ports.j0] at h, fun _ _ _ _ _ _ _ _ _ _ _ _ _ _ _ _ _ _ _ _ _ _ _ _ _ r h => by simp [wharfingerref13_ports.l0] at h⟩
 | k + 1 => by
  obtain ⟨ih0, ih1⟩ := wharfingerref13_ports.mono_l k
  refine ⟨?_, ?_⟩
  ·
   intro y0 y1 y2 y3 y4 y5 y6 y7 y8 y9 y10 y11 y12 y13 y14 y15 y16 y17 y18 y19 y20 y21 y22 y23 y24
   unfold wharfingerref13_ports.j0
   repeat' first
   | (with_reducible exact ih0 _ _ _ _ _ _ _ _ _ _ _ _ _ _ _ _ _ _ _ _ _ _ _ _ _)
   | (with_reducible exact ih1 _ _ _ _ _ _ _ _ _ _ _ _ _ _ _ _ _ _ _ _ _ _ _ _ _)
   | (with_reducible exact LeO.refl _)
   | (with_reducible exact LeO.none _)
   | (with_reducible refine LeO.ite ?_ ?_)
   | (with_reducible refine LeO.bind ?_ (fun _ => ?_))
   | exact ih0 _ _ _ _ _ _ _ _ _ _ _ _ _ _ _ _ _ _ _ _ _ _ _ _ _
   | exact ih1 _ _ _ _ _ _ _ _ _ _ _ _ _ _ _ _ _ _ _ _ _ _ _ _ _
   | exact LeO.none _
   | refine LeO.ite ?_ ?_
   | refine LeO.bind ?_ (fun _ => ?_)
  ·
   intro y0 y1 y2 y3 y4 y5 y6 y7 y8 y9 y10 y11 y12 y13 y14 y15 y16 y17 y18 y19 y20 y21 y22 y23 y24
   unfold wharfingerref13_ports.l0
   repeat' first
   | (with_reducible exact ih0 _ _ _ _ _ _ _ _ _ _ _ _ _ _ _ _ _ _ _ _ _ _ _ _ _)
   | (with_reducible exact ih1 _ _ _ _ _ _ _ _ _ _ _ _ _ _ _ _ _ _ _ _ _ _ _ _ _)
   | (with_reducible exact LeO.refl _)
   | (with_reducible exact LeO.none _)
   | (with_reducible refine LeO.ite ?_ ?_)
   | (with_reducible refine LeO.bind ?_ (fun _ => ?_))
   | exact ih0 _ _ _ _ _ _ _ _ _ _ _ _ _ _ _ _ _ _ _ _ _ _ _ _ _
   | exact ih1 _ _ _ _ _ _ _ _ _ _ _ _ _ _ _ _ _ _ _ _ _ _ _ _ _
   | exact LeO.none _
   | refine LeO.ite ?_ ?_
   | refine LeO.bind ?_ (fun _ => ?_)
theorem wharfingerref13_ports.mono : ∀ a0 a1 a2 a3 a4 a5 a6 a7 a8 a9 k, LeO (wharfingerref13_ports.f k a0 a1 a2 a3 a4 a5 a6 a7 a8 a9) (wharfingerref13_ports.f (k + 1) a0 a1 a2 a3 a4 a5 a6 a7 a8 a9) := by
 intro a0 a1 a2 a3 a4 a5 a6 a7 a8 a9 k
 obtain ⟨ih0, ih1⟩ := wharfingerref13_ports.mono_l k
 unfold wharfingerref13_ports.f
 repeat' first
   | (with_reducible exact ih0 _ _ _ _ _ _ _ _ _ _ _ _ _ _ _ _ _ _ _ _ _ _ _ _ _)
   | (with_reducible exact ih1 _ _ _ _ _ _ _ _ _ _ _ _ _ _ _ _ _ _ _ _ _ _ _ _ _)
   | (with_reducible exact LeO.refl _)
   | (with_reducible exact LeO.none _)
   | (with_reducible refine LeO.ite ?_ ?_)
   | (with_reducible refine LeO.bind ?_ (fun _ => ?_))
   | exact ih0 _ _ _ _ _ _ _ _ _ _ _ _ _ _ _ _ _ _ _ _ _ _ _ _ _
   | exact ih1 _ _ _ _ _ _ _ _ _ _ _ _ _ _ _ _ _ _ _ _ _ _ _ _ _
   | exact LeO.none _
   | refine LeO.ite ?_ ?_
   | refine LeO.bind ?_ (fun _ => ?_)
set_option maxHeartbeats 8000000 in
set_option maxRecDepth 100000 in
theorem wharfingerref13_ports.calls (k : Nat) (a0_0 : Int) (a0_1 : Int) (a0_2 : Int) (a0_3 : Int) (A0_4 : Option Addr) (c0_4 : Nat) (l0_4 : List (S40)) (a0_5 : Int) (a0_6 : Int) (a0_7 : Int) (a0_8 : Bool) (a1 : Int) (r : Bool) (w : World) (hr0_4 : Kd.C k40 w A0_4 l0_4.length l0_4) (hc0_4 : l0_4.length ≤ c0_4) (h : wharfingerref13_ports.f k a0_0 a0_1 a0_2 a0_3 l0_4 a0_5 a0_6 a0_7 a0_8 a1 = some r) :
  Calls Tryd.prog 21 #[.agg #[.int .u8 a0_0, .int .u8 a0_1, .int .u8 a0_2, .int .u8 a0_3, .slice A0_4 l0_4.length c0_4, .int .i64 a0_5, .int .i64 a0_6, .int .i64 a0_7, .bool a0_8], .int .i64 a1] w fun e w' => e = .returned (.bool r) ∧ Below w.heap.size w w' := by
 have hu26 := Tryd.underlying26
 have hu40 := Tryd.underlying40
 have HR0_4 := Aside0.mk hr0_4
 have HC0_4 := Aside0.mk hc0_4
 clear hr0_4 hc0_4
 have HB := Aside0.mk (Below.refl w.heap.size w)
 have H : (if 0 ≤ a1 then (if a1 < (l0_4.length : Int) then (if ((rd_T40 l0_4 a1).f3) < 1024 then (wharfingerref13_ports.j0 k a1 true a0_0 a0_1 a0_2 a0_3 l0_4 a0_5 a0_6 a0_7 a0_8 ((rd_T40 l0_4 a1).f0) ((rd_T40 l0_4 a1).f1) ((rd_T40 l0_4 a1).f2.f0.f0) ((rd_T40 l0_4 a1).f2.f0.f1) ((rd_T40 l0_4 a1).f2.f0.f2) ((rd_T40 l0_4 a1).f2.f0.f3) ((rd_T40 l0_4 a1).f2.f1) ((rd_T40 l0_4 a1).f3) ((rd_T40 l0_4 a1).f4) ((rd_T40 l0_4 a1).f5) ((rd_T40 l0_4 a1).f6) ((rd_T40 l0_4 a1).f7) ((rd_T40 l0_4 a1).f8) ((rd_T40 l0_4 a1).f9)) else (if ((rd_T40 l0_4 a1).f3) > ((rd_T40 l0_4 a1).f4) then (wharfingerref13_ports.j0 k a1 true a0_0 a0_1 a0_2 a0_3 l0_4 a0_5 a0_6 a0_7 a0_8 ((rd_T40 l0_4 a1).f0) ((rd_T40 l0_4 a1).f1) ((rd_T40 l0_4 a1).f2.f0.f0) ((rd_T40 l0_4 a1).f2.f0.f1) ((rd_T40 l0_4 a1).f2.f0.f2) ((rd_T40 l0_4 a1).f2.f0.f3) ((rd_T40 l0_4 a1).f2.f1) ((rd_T40 l0_4 a1).f3) ((rd_T40 l0_4 a1).f4) ((rd_T40 l0_4 a1).f5) ((rd_T40 l0_4 a1).f6) ((rd_T40 l0_4 a1).f7) ((rd_T40 l0_4 a1).f8) ((rd_T40 l0_4 a1).f9)) else (wharfingerref13_ports.j0 k a1 (decide (((rd_T40 l0_4 a1).f4) > 65535)) a0_0 a0_1 a0_2 a0_3 l0_4 a0_5 a0_6 a0_7 a0_8 ((rd_T40 l0_4 a1).f0) ((rd_T40 l0_4 a1).f1) ((rd_T40 l0_4 a1).f2.f0.f0) ((rd_T40 l0_4 a1).f2.f0.f1) ((rd_T40 l0_4 a1).f2.f0.f2) ((rd_T40 l0_4 a1).f2.f0.f3) ((rd_T40 l0_4 a1).f2.f1) ((rd_T40 l0_4 a1).f3) ((rd_T40 l0_4 a1).f4) ((rd_T40 l0_4 a1).f5) ((rd_T40 l0_4 a1).f6) ((rd_T40 l0_4 a1).f7) ((rd_T40 l0_4 a1).f8) ((rd_T40 l0_4 a1).f9)))) else (none)) else (none)) = some r := h
 clear h
 by_cases c3 : 0 ≤ a1
 ·
  rw [if_pos c3] at H
  have c3b0 : decide (0 ≤ a1) = true := decide_eq_true c3
  clear c3
  by_cases c4 : a1 < (l0_4.length : Int)
  ·
   rw [if_pos c4] at H
   have c4b0 : decide (a1 < (l0_4.length : Int)) = true := decide_eq_true c4
   clear c4
   have HC5 := Aside0.mk H
   clear H
   go_enter Tryd.func21, Tryd.ntmps21
   go_upto_region 2 with (first | ((with_reducible refine gate_dst (N := 2) rfl ?_); refine box_event ?hg (N := 2) ?hd (cs := #[.int .u8 a0_0, .int .u8 a0_1, .int .u8 a0_2, .int .u8 a0_3, .slice A0_4 l0_4.length c0_4, .int .i64 a0_5, .int .i64 a0_6, .int .i64 a0_7, .bool a0_8]) (t := 26) ?hr ?_; (case hd => rfl); (case hg => rfl); (case hr => first | (go_simp; done) | (go_simp; rfl)); intro gb214 hg w6 hbox hb; have n0_ := Aside0.mk (below_step (by repeat (first | (with_reducible first | exact HB.out | apply below_alloc | apply pw_below_drewN | apply below_drew1) | exact HB.out)) hb); have n1_ := Aside0.mk (hbox); have n2_ := Aside0.mk ((by rw [hg]; exact (below_size (by repeat (first | (with_reducible first | exact HB.out | apply below_alloc | apply pw_below_drewN | apply below_drew1) | exact HB.out))) : w.heap.size ≤ gb214)); have n3_ := Aside0.mk ((by rw [hg]; exact (below_size (by repeat (first | (with_reducible first | exact HB.out | apply below_alloc | apply pw_below_drewN | apply below_drew1) | exact HB.out))) : w.heap.size ≤ gb214)); clear HB; have HB := n0_; have BK214 := n1_; have GW214 := n2_; have GE214 := n3_; clear n0_ n1_ n2_ n3_; clear hb hbox hg; obtain ⟨hcz7_0, hcz7_1, hcz7_2, hcz7_3, hcz7_4, hcz7_5, hcz7_6, hcz7_7, hcz7_8⟩ := cl_9 (.int .u8 a0_0) (.int .u8 a0_1) (.int .u8 a0_2) (.int .u8 a0_3) (.slice A0_4 l0_4.length c0_4) (.int .i64 a0_5) (.int .i64 a0_6) (.int .i64 a0_7) (.bool a0_8) BK214.out; obtain ⟨hfz7_0, hfz7_1, hfz7_2, hfz7_3, hfz7_4, hfz7_5, hfz7_6, hfz7_7, hfz7_8⟩ := fz_9 BK214.out; have p215 : 0 ≤ (a1 : Int) := of_decide_eq_true (by first | (with_reducible assumption) | assumption); have q215 : a1 < (l0_4.length : Int) := of_decide_eq_true (by first | (with_reducible assumption) | assumption); obtain ⟨ad215, A215_9, c215_9, e215, hx215_0, hx215_1, hx215_2, hx215_3, hx215_4, hx215_5, hx215_6, hx215_7, hx215_8, hx215_9, hx215_10, hx215_11, hx215_12, hx215_13, hl215_9, hi215_9⟩ := at_T40 HR0_4.out a1 p215 q215; cases e215; replace hx215_0 := (HB.out.cell (World.block_lt_of_cell? w _ hx215_0)).trans hx215_0; replace hx215_1 := (HB.out.cell (World.block_lt_of_cell? w _ hx215_1)).trans hx215_1; replace hx215_2 := (HB.out.cell (World.block_lt_of_cell? w _ hx215_2)).trans hx215_2; replace hx215_3 := (HB.out.cell (World.block_lt_of_cell? w _ hx215_3)).trans hx215_3; replace hx215_4 := (HB.out.cell (World.block_lt_of_cell? w _ hx215_4)).trans hx215_4; replace hx215_5 := (HB.out.cell (World.block_lt_of_cell? w _ hx215_5)).trans hx215_5; replace hx215_6 := (HB.out.cell (World.block_lt_of_cell? w _ hx215_6)).trans hx215_6; replace hx215_7 := (HB.out.cell (World.block_lt_of_cell? w _ hx215_7)).trans hx215_7; replace hx215_8 := (HB.out.cell (World.block_lt_of_cell? w _ hx215_8)).trans hx215_8; replace hx215_9 := (HB.out.cell (World.block_lt_of_cell? w _ hx215_9)).trans hx215_9; replace hx215_10 := (HB.out.cell (World.block_lt_of_cell? w _ hx215_10)).trans hx215_10; replace hx215_11 := (HB.out.cell (World.block_lt_of_cell? w _ hx215_11)).trans hx215_11; replace hx215_12 := (HB.out.cell (World.block_lt_of_cell? w _ hx215_12)).trans hx215_12; replace hx215_13 := (HB.out.cell (World.block_lt_of_cell? w _ hx215_13)).trans hx215_13; have HR215_9 := Aside0.mk hi215_9; have HC215_9 := Aside0.mk hl215_9; clear hi215_9 hl215_9; replace p215 := eq_true p215; replace q215 := eq_true q215) | ((with_reducible refine gate_dst (N := 5) rfl ?_); refine box_event ?hg (N := 5) ?hd (cs := #[.string (⟨#[]⟩ : ByteArray), .string (⟨#[]⟩ : ByteArray), .int .u8 0, .int .u8 0, .int .u8 0, .int .u8 0, .int .i64 0, .int .i64 0, .int .i64 0, .slice none 0 0, .int .i64 0, .int .i64 0, .int .i64 0, .int .i64 0]) (t := 40) ?hr ?_; (case hd => rfl); (case hg => rfl); (case hr => first | (go_simp; done) | (go_simp; rfl)); intro gb216 hg w8 hbox hb; have n0_ := Aside0.mk (blk_below (g := gb214) (o := .cells #[.int .u8 a0_0, .int .u8 a0_1, .int .u8 a0_2, .int .u8 a0_3, .slice (some ad215) l0_4.length c0_4, .int .i64 a0_5, .int .i64 a0_6, .int .i64 a0_7, .bool a0_8] 26 (0, 0)) (by (with_reducible repeat (first | refine blk_drewN ?_ _ | refine blk_drew ?_ | refine blk_alloc ?_ _)); exact BK214.out) hb); have n1_ := Aside0.mk (below_step (by repeat (first | (with_reducible first | exact HB.out | apply below_alloc | apply pw_below_drewN | apply below_drew1 | refine below_set ?_ GE214.out) | exact HB.out)) hb); have n2_ := Aside0.mk (hbox); have n3_ := Aside0.mk ((by rw [hg]; exact (below_size (by repeat (first | (with_reducible first | exact HB.out | apply below_alloc | apply pw_below_drewN | apply below_drew1 | refine below_set ?_ GE214.out) | exact HB.out))) : w.heap.size ≤ gb216)); have n4_ := Aside0.mk ((by rw [hg]; exact (below_size (by repeat (first | (with_reducible first | exact HB.out | apply below_alloc | apply pw_below_drewN | apply below_drew1 | refine below_set ?_ GE214.out) | exact HB.out))) : w.heap.size ≤ gb216)); have n5_ := Aside0.mk ((by rw [hg]; exact Nat.ne_of_lt (blk_lt (g := gb214) (o := .cells #[.int .u8 a0_0, .int .u8 a0_1, .int .u8 a0_2, .int .u8 a0_3, .slice (some ad215) l0_4.length c0_4, .int .i64 a0_5, .int .i64 a0_6, .int .i64 a0_7, .bool a0_8] 26 (0, 0)) (by (with_reducible repeat (first | refine blk_drewN ?_ _ | refine blk_drew ?_ | refine blk_alloc ?_ _)); exact BK214.out)) : gb214 ≠ gb216)); have n6_ := Aside0.mk ((by rw [hg]; exact Nat.ne_of_gt (blk_lt (g := gb214) (o := .cells #[.int .u8 a0_0, .int .u8 a0_1, .int .u8 a0_2, .int .u8 a0_3, .slice (some ad215) l0_4.length c0_4, .int .i64 a0_5, .int .i64 a0_6, .int .i64 a0_7, .bool a0_8] 26 (0, 0)) (by (with_reducible repeat (first | refine blk_drewN ?_ _ | refine blk_drew ?_ | refine blk_alloc ?_ _)); exact BK214.out)) : gb216 ≠ gb214)); clear BK214; clear HB; have BK214 := n0_; have HB := n1_; have BK216 := n2_; have GW216 := n3_; have GE216 := n4_; have NB214_216 := n5_; have NB216_214 := n6_; clear n0_ n1_ n2_ n3_ n4_ n5_ n6_; clear hb hbox hg; have hnb9 := NB216_214.out; have hnc9 := NB214_216.out; obtain ⟨hcz10_0, hcz10_1, hcz10_2, hcz10_3, hcz10_4, hcz10_5, hcz10_6, hcz10_7, hcz10_8, hcz10_9, hcz10_10, hcz10_11, hcz10_12, hcz10_13⟩ := cl_14 (.string (⟨#[]⟩ : ByteArray)) (.string (⟨#[]⟩ : ByteArray)) (.int .u8 0) (.int .u8 0) (.int .u8 0) (.int .u8 0) (.int .i64 0) (.int .i64 0) (.int .i64 0) (.slice none 0 0) (.int .i64 0) (.int .i64 0) (.int .i64 0) (.int .i64 0) BK216.out; obtain ⟨hfz10_0, hfz10_1, hfz10_2, hfz10_3, hfz10_4, hfz10_5, hfz10_6, hfz10_7, hfz10_8, hfz10_9, hfz10_10, hfz10_11, hfz10_12, hfz10_13⟩ := fz_14 BK216.out))
   repeat (go_quiet (first | ((with_reducible refine gate_dst (N := 2) rfl ?_); refine box_event ?hg (N := 2) ?hd (cs := #[.int .u8 a0_0, .int .u8 a0_1, .int .u8 a0_2, .int .u8 a0_3, .slice A0_4 l0_4.length c0_4, .int .i64 a0_5, .int .i64 a0_6, .int .i64 a0_7, .bool a0_8]) (t := 26) ?hr ?_; (case hd => rfl); (case hg => rfl); (case hr => first | (go_simp; done) | (go_simp; rfl)); intro gb214 hg w6 hbox hb; have n0_ := Aside0.mk (below_step (by repeat (first | (with_reducible first | exact HB.out | apply below_alloc | apply pw_below_drewN | apply below_drew1) | exact HB.out)) hb); have n1_ := Aside0.mk (hbox); have n2_ := Aside0.mk ((by rw [hg]; exact (below_size (by repeat (first | (with_reducible first | exact HB.out | apply below_alloc | apply pw_below_drewN | apply below_drew1) | exact HB.out))) : w.heap.size ≤ gb214)); have n3_ := Aside0.mk ((by rw [hg]; exact (below_size (by repeat (first | (with_reducible first | exact HB.out | apply below_alloc | apply pw_below_drewN | apply below_drew1) | exact HB.out))) : w.heap.size ≤ gb214)); clear HB; have HB := n0_; have BK214 := n1_; have GW214 := n2_; have GE214 := n3_; clear n0_ n1_ n2_ n3_; clear hb hbox hg; obtain ⟨hcz7_0, hcz7_1, hcz7_2, hcz7_3, hcz7_4, hcz7_5, hcz7_6, hcz7_7, hcz7_8⟩ := cl_9 (.int .u8 a0_0) (.int .u8 a0_1) (.int .u8 a0_2) (.int .u8 a0_3) (.slice A0_4 l0_4.length c0_4) (.int .i64 a0_5) (.int .i64 a0_6) (.int .i64 a0_7) (.bool a0_8) BK214.out; obtain ⟨hfz7_0, hfz7_1, hfz7_2, hfz7_3, hfz7_4, hfz7_5, hfz7_6, hfz7_7, hfz7_8⟩ := fz_9 BK214.out; have p215 : 0 ≤ (a1 : Int) := of_decide_eq_true (by first | (with_reducible assumption) | assumption); have q215 : a1 < (l0_4.length : Int) := of_decide_eq_true (by first | (with_reducible assumption) | assumption); obtain ⟨ad215, A215_9, c215_9, e215, hx215_0, hx215_1, hx215_2, hx215_3, hx215_4, hx215_5, hx215_6, hx215_7, hx215_8, hx215_9, hx215_10, hx215_11, hx215_12, hx215_13, hl215_9, hi215_9⟩ := at_T40 HR0_4.out a1 p215 q215; cases e215; replace hx215_0 := (HB.out.cell (World.block_lt_of_cell? w _ hx215_0)).trans hx215_0; replace hx215_1 := (HB.out.cell (World.block_lt_of_cell? w _ hx215_1)).trans hx215_1; replace hx215_2 := (HB.out.cell (World.block_lt_of_cell? w _ hx215_2)).trans hx215_2; replace hx215_3 := (HB.out.cell (World.block_lt_of_cell? w _ hx215_3)).trans hx215_3; replace hx215_4 := (HB.out.cell (World.block_lt_of_cell? w _ hx215_4)).trans hx215_4; replace hx215_5 := (HB.out.cell (World.block_lt_of_cell? w _ hx215_5)).trans hx215_5; replace hx215_6 := (HB.out.cell (World.block_lt_of_cell? w _ hx215_6)).trans hx215_6; replace hx215_7 := (HB.out.cell (World.block_lt_of_cell? w _ hx215_7)).trans hx215_7; replace hx215_8 := (HB.out.cell (World.block_lt_of_cell? w _ hx215_8)).trans hx215_8; replace hx215_9 := (HB.out.cell (World.block_lt_of_cell? w _ hx215_9)).trans hx215_9; replace hx215_10 := (HB.out.cell (World.block_lt_of_cell? w _ hx215_10)).trans hx215_10; replace hx215_11 := (HB.out.cell (World.block_lt_of_cell? w _ hx215_11)).trans hx215_11; replace hx215_12 := (HB.out.cell (World.block_lt_of_cell? w _ hx215_12)).trans hx215_12; replace hx215_13 := (HB.out.cell (World.block_lt_of_cell? w _ hx215_13)).trans hx215_13; have HR215_9 := Aside0.mk hi215_9; have HC215_9 := Aside0.mk hl215_9; clear hi215_9 hl215_9; replace p215 := eq_true p215; replace q215 := eq_true q215) | ((with_reducible refine gate_dst (N := 5) rfl ?_); refine box_event ?hg (N := 5) ?hd (cs := #[.string (⟨#[]⟩ : ByteArray), .string (⟨#[]⟩ : ByteArray), .int .u8 0, .int .u8 0, .int .u8 0, .int .u8 0, .int .i64 0, .int .i64 0, .int .i64 0, .slice none 0 0, .int .i64 0, .int .i64 0, .int .i64 0, .int .i64 0]) (t := 40) ?hr ?_; (case hd => rfl); (case hg => rfl); (case hr => first | (go_simp; done) | (go_simp; rfl)); intro gb216 hg w8 hbox hb; have n0_ := Aside0.mk (blk_below (g := gb214) (o := .cells #[.int .u8 a0_0, .int .u8 a0_1, .int .u8 a0_2, .int .u8 a0_3, .slice (some ad215) l0_4.length c0_4, .int .i64 a0_5, .int .i64 a0_6, .int .i64 a0_7, .bool a0_8] 26 (0, 0)) (by (with_reducible repeat (first | refine blk_drewN ?_ _ | refine blk_drew ?_ | refine blk_alloc ?_ _)); exact BK214.out) hb); have n1_ := Aside0.mk (below_step (by repeat (first | (with_reducible first | exact HB.out | apply below_alloc | apply pw_below_drewN | apply below_drew1 | refine below_set ?_ GE214.out) | exact HB.out)) hb); have n2_ := Aside0.mk (hbox); have n3_ := Aside0.mk ((by rw [hg]; exact (below_size (by repeat (first | (with_reducible first | exact HB.out | apply below_alloc | apply pw_below_drewN | apply below_drew1 | refine below_set ?_ GE214.out) | exact HB.out))) : w.heap.size ≤ gb216)); have n4_ := Aside0.mk ((by rw [hg]; exact (below_size (by repeat (first | (with_reducible first | exact HB.out | apply below_alloc | apply pw_below_drewN | apply below_drew1 | refine below_set ?_ GE214.out) | exact HB.out))) : w.heap.size ≤ gb216)); have n5_ := Aside0.mk ((by rw [hg]; exact Nat.ne_of_lt (blk_lt (g := gb214) (o := .cells #[.int .u8 a0_0, .int .u8 a0_1, .int .u8 a0_2, .int .u8 a0_3, .slice (some ad215) l0_4.length c0_4, .int .i64 a0_5, .int .i64 a0_6, .int .i64 a0_7, .bool a0_8] 26 (0, 0)) (by (with_reducible repeat (first | refine blk_drewN ?_ _ | refine blk_drew ?_ | refine blk_alloc ?_ _)); exact BK214.out)) : gb214 ≠ gb216)); have n6_ := Aside0.mk ((by rw [hg]; exact Nat.ne_of_gt (blk_lt (g := gb214) (o := .cells #[.int .u8 a0_0, .int .u8 a0_1, .int .u8 a0_2, .int .u8 a0_3, .slice (some ad215) l0_4.length c0_4, .int .i64 a0_5, .int .i64 a0_6, .int .i64 a0_7, .bool a0_8] 26 (0, 0)) (by (with_reducible repeat (first | refine blk_drewN ?_ _ | refine blk_drew ?_ | refine blk_alloc ?_ _)); exact BK214.out)) : gb216 ≠ gb214)); clear BK214; clear HB; have BK214 := n0_; have HB := n1_; have BK216 := n2_; have GW216 := n3_; have GE216 := n4_; have NB214_216 := n5_; have NB216_214 := n6_; clear n0_ n1_ n2_ n3_ n4_ n5_ n6_; clear hb hbox hg; have hnb9 := NB216_214.out; have hnc9 := NB214_216.out; obtain ⟨hcz10_0, hcz10_1, hcz10_2, hcz10_3, hcz10_4, hcz10_5, hcz10_6, hcz10_7, hcz10_8, hcz10_9, hcz10_10, hcz10_11, hcz10_12, hcz10_13⟩ := cl_14 (.string (⟨#[]⟩ : ByteArray)) (.string (⟨#[]⟩ : ByteArray)) (.int .u8 0) (.int .u8 0) (.int .u8 0) (.int .u8 0) (.int .i64 0) (.int .i64 0) (.int .i64 0) (.slice none 0 0) (.int .i64 0) (.int .i64 0) (.int .i64 0) (.int .i64 0) BK216.out; obtain ⟨hfz10_0, hfz10_1, hfz10_2, hfz10_3, hfz10_4, hfz10_5, hfz10_6, hfz10_7, hfz10_8, hfz10_9, hfz10_10, hfz10_11, hfz10_12, hfz10_13⟩ := fz_14 BK216.out)); go_upto_region 2 with (first | ((with_reducible refine gate_dst (N := 2) rfl ?_); refine box_event ?hg (N := 2) ?hd (cs := #[.int .u8 a0_0, .int .u8 a0_1, .int .u8 a0_2, .int .u8 a0_3, .slice A0_4 l0_4.length c0_4, .int .i64 a0_5, .int .i64 a0_6, .int .i64 a0_7, .bool a0_8]) (t := 26) ?hr ?_; (case hd => rfl); (case hg => rfl); (case hr => first | (go_simp; done) | (go_simp; rfl)); intro gb214 hg w6 hbox hb; have n0_ := Aside0.mk (below_step (by repeat (first | (with_reducible first | exact HB.out | apply below_alloc | apply pw_below_drewN | apply below_drew1) | exact HB.out)) hb); have n1_ := Aside0.mk (hbox); have n2_ := Aside0.mk ((by rw [hg]; exact (below_size (by repeat (first | (with_reducible first | exact HB.out | apply below_alloc | apply pw_below_drewN | apply below_drew1) | exact HB.out))) : w.heap.size ≤ gb214)); have n3_ := Aside0.mk ((by rw [hg]; exact (below_size (by repeat (first | (with_reducible first | exact HB.out | apply below_alloc | apply pw_below_drewN | apply below_drew1) | exact HB.out))) : w.heap.size ≤ gb214)); clear HB; have HB := n0_; have BK214 := n1_; have GW214 := n2_; have GE214 := n3_; clear n0_ n1_ n2_ n3_; clear hb hbox hg; obtain ⟨hcz7_0, hcz7_1, hcz7_2, hcz7_3, hcz7_4, hcz7_5, hcz7_6, hcz7_7, hcz7_8⟩ := cl_9 (.int .u8 a0_0) (.int .u8 a0_1) (.int .u8 a0_2) (.int .u8 a0_3) (.slice A0_4 l0_4.length c0_4) (.int .i64 a0_5) (.int .i64 a0_6) (.int .i64 a0_7) (.bool a0_8) BK214.out; obtain ⟨hfz7_0, hfz7_1, hfz7_2, hfz7_3, hfz7_4, hfz7_5, hfz7_6, hfz7_7, hfz7_8⟩ := fz_9 BK214.out; have p215 : 0 ≤ (a1 : Int) := of_decide_eq_true (by first | (with_reducible assumption) | assumption); have q215 : a1 < (l0_4.length : Int) := of_decide_eq_true (by first | (with_reducible assumption) | assumption); obtain ⟨ad215, A215_9, c215_9, e215, hx215_0, hx215_1, hx215_2, hx215_3, hx215_4, hx215_5, hx215_6, hx215_7, hx215_8, hx215_9, hx215_10, hx215_11, hx215_12, hx215_13, hl215_9, hi215_9⟩ := at_T40 HR0_4.out a1 p215 q215; cases e215; replace hx215_0 := (HB.out.cell (World.block_lt_of_cell? w _ hx215_0)).trans hx215_0; replace hx215_1 := (HB.out.cell (World.block_lt_of_cell? w _ hx215_1)).trans hx215_1; replace hx215_2 := (HB.out.cell (World.block_lt_of_cell? w _ hx215_2)).trans hx215_2; replace hx215_3 := (HB.out.cell (World.block_lt_of_cell? w _ hx215_3)).trans hx215_3; replace hx215_4 := (HB.out.cell (World.block_lt_of_cell? w _ hx215_4)).trans hx215_4; replace hx215_5 := (HB.out.cell (World.block_lt_of_cell? w _ hx215_5)).trans hx215_5; replace hx215_6 := (HB.out.cell (World.block_lt_of_cell? w _ hx215_6)).trans hx215_6; replace hx215_7 := (HB.out.cell (World.block_lt_of_cell? w _ hx215_7)).trans hx215_7; replace hx215_8 := (HB.out.cell (World.block_lt_of_cell? w _ hx215_8)).trans hx215_8; replace hx215_9 := (HB.out.cell (World.block_lt_of_cell? w _ hx215_9)).trans hx215_9; replace hx215_10 := (HB.out.cell (World.block_lt_of_cell? w _ hx215_10)).trans hx215_10; replace hx215_11 := (HB.out.cell (World.block_lt_of_cell? w _ hx215_11)).trans hx215_11; replace hx215_12 := (HB.out.cell (World.block_lt_of_cell? w _ hx215_12)).trans hx215_12; replace hx215_13 := (HB.out.cell (World.block_lt_of_cell? w _ hx215_13)).trans hx215_13; have HR215_9 := Aside0.mk hi215_9; have HC215_9 := Aside0.mk hl215_9; clear hi215_9 hl215_9; replace p215 := eq_true p215; replace q215 := eq_true q215) | ((with_reducible refine gate_dst (N := 5) rfl ?_); refine box_event ?hg (N := 5) ?hd (cs := #[.string (⟨#[]⟩ : ByteArray), .string (⟨#[]⟩ : ByteArray), .int .u8 0, .int .u8 0, .int .u8 0, .int .u8 0, .int .i64 0, .int .i64 0, .int .i64 0, .slice none 0 0, .int .i64 0, .int .i64 0, .int .i64 0, .int .i64 0]) (t := 40) ?hr ?_; (case hd => rfl); (case hg => rfl); (case hr => first | (go_simp; done) | (go_simp; rfl)); intro gb216 hg w8 hbox hb; have n0_ := Aside0.mk (blk_below (g := gb214) (o := .cells #[.int .u8 a0_0, .int .u8 a0_1, .int .u8 a0_2, .int .u8 a0_3, .slice (some ad215) l0_4.length c0_4, .int .i64 a0_5, .int .i64 a0_6, .int .i64 a0_7, .bool a0_8] 26 (0, 0)) (by (with_reducible repeat (first | refine blk_drewN ?_ _ | refine blk_drew ?_ | refine blk_alloc ?_ _)); exact BK214.out) hb); have n1_ := Aside0.mk (below_step (by repeat (first | (with_reducible first | exact HB.out | apply below_alloc | apply pw_below_drewN | apply below_drew1 | refine below_set ?_ GE214.out) | exact HB.out)) hb); have n2_ := Aside0.mk (hbox); have n3_ := Aside0.mk ((by rw [hg]; exact (below_size (by repeat (first | (with_reducible first | exact HB.out | apply below_alloc | apply pw_below_drewN | apply below_drew1 | refine below_set ?_ GE214.out) | exact HB.out))) : w.heap.size ≤ gb216)); have n4_ := Aside0.mk ((by rw [hg]; exact (below_size (by repeat (first | (with_reducible first | exact HB.out | apply below_alloc | apply pw_below_drewN | apply below_drew1 | refine below_set ?_ GE214.out) | exact HB.out))) : w.heap.size ≤ gb216)); have n5_ := Aside0.mk ((by rw [hg]; exact Nat.ne_of_lt (blk_lt (g := gb214) (o := .cells #[.int .u8 a0_0, .int .u8 a0_1, .int .u8 a0_2, .int .u8 a0_3, .slice (some ad215) l0_4.length c0_4, .int .i64 a0_5, .int .i64 a0_6, .int .i64 a0_7, .bool a0_8] 26 (0, 0)) (by (with_reducible repeat (first | refine blk_drewN ?_ _ | refine blk_drew ?_ | refine blk_alloc ?_ _)); exact BK214.out)) : gb214 ≠ gb216)); have n6_ := Aside0.mk ((by rw [hg]; exact Nat.ne_of_gt (blk_lt (g := gb214) (o := .cells #[.int .u8 a0_0, .int .u8 a0_1, .int .u8 a0_2, .int .u8 a0_3, .slice (some ad215) l0_4.length c0_4, .int .i64 a0_5, .int .i64 a0_6, .int .i64 a0_7, .bool a0_8] 26 (0, 0)) (by (with_reducible repeat (first | refine blk_drewN ?_ _ | refine blk_drew ?_ | refine blk_alloc ?_ _)); exact BK214.out)) : gb216 ≠ gb214)); clear BK214; clear HB; have BK214 := n0_; have HB := n1_; have BK216 := n2_; have GW216 := n3_; have GE216 := n4_; have NB214_216 := n5_; have NB216_214 := n6_; clear n0_ n1_ n2_ n3_ n4_ n5_ n6_; clear hb hbox hg; have hnb9 := NB216_214.out; have hnc9 := NB214_216.out; obtain ⟨hcz10_0, hcz10_1, hcz10_2, hcz10_3, hcz10_4, hcz10_5, hcz10_6, hcz10_7, hcz10_8, hcz10_9, hcz10_10, hcz10_11, hcz10_12, hcz10_13⟩ := cl_14 (.string (⟨#[]⟩ : ByteArray)) (.string (⟨#[]⟩ : ByteArray)) (.int .u8 0) (.int .u8 0) (.int .u8 0) (.int .u8 0) (.int .i64 0) (.int .i64 0) (.int .i64 0) (.slice none 0 0) (.int .i64 0) (.int .i64 0) (.int .i64 0) (.int .i64 0) BK216.out; obtain ⟨hfz10_0, hfz10_1, hfz10_2, hfz10_3, hfz10_4, hfz10_5, hfz10_6, hfz10_7, hfz10_8, hfz10_9, hfz10_10, hfz10_11, hfz10_12, hfz10_13⟩ := fz_14 BK216.out)))
   (try simp only [Act.put, List.setIfInBounds_toArray, List.set_cons_zero, List.set_cons_succ])
   go_cut [26] (fun v26 wc => ∃ (kq : Nat) (x26_4 : Bool), v26 = .bool x26_4 ∧ Aside0 (wharfingerref13_ports.j0 kq a1 x26_4 a0_0 a0_1 a0_2 a0_3 l0_4 a0_5 a0_6 a0_7 a0_8 ((rd_T40 l0_4 a1).f0) ((rd_T40 l0_4 a1).f1) ((rd_T40 l0_4 a1).f2.f0.f0) ((rd_T40 l0_4 a1).f2.f0.f1) ((rd_T40 l0_4 a1).f2.f0.f2) ((rd_T40 l0_4 a1).f2.f0.f3) ((rd_T40 l0_4 a1).f2.f1) ((rd_T40 l0_4 a1).f3) ((rd_T40 l0_4 a1).f4) ((rd_T40 l0_4 a1).f5) ((rd_T40 l0_4 a1).f6) ((rd_T40 l0_4 a1).f7) ((rd_T40 l0_4 a1).f8) ((rd_T40 l0_4 a1).f9) = some r) ∧ Aside0 (kq ≤ k) ∧ Aside0 (wc.heap[gb214]? = some (.cells #[.int .u8 a0_0, .int .u8 a0_1, .int .u8 a0_2, .int .u8 a0_3, (.slice (some ad215) l0_4.length c0_4), .int .i64 a0_5, .int .i64 a0_6, .int .i64 a0_7, .bool a0_8] 26 (0, 0))) ∧ Aside0 (wc.heap[gb216]? = some (.cells #[.string ((rd_T40 l0_4 a1).f0), .string ((rd_T40 l0_4 a1).f1), .int .u8 ((rd_T40 l0_4 a1).f2.f0.f0), .int .u8 ((rd_T40 l0_4 a1).f2.f0.f1), .int .u8 ((rd_T40 l0_4 a1).f2.f0.f2), .int .u8 ((rd_T40 l0_4 a1).f2.f0.f3), .int .i64 ((rd_T40 l0_4 a1).f2.f1), .int .i64 ((rd_T40 l0_4 a1).f3), .int .i64 ((rd_T40 l0_4 a1).f4), (.slice A215_9 ((rd_T40 l0_4 a1).f5).length c215_9), .int .i64 ((rd_T40 l0_4 a1).f6), .int .i64 ((rd_T40 l0_4 a1).f7), .int .i64 ((rd_T40 l0_4 a1).f8), .int .i64 ((rd_T40 l0_4 a1).f9)] 40 (0, 0))) ∧ Aside0 (Below w.heap.size w wc))
   case first =>
    have H := HC5.out
    clear HC5
    by_cases c11 : ((rd_T40 l0_4 a1).f3) < 1024
    ·
     rw [if_pos c11] at H
     have c11b0 : decide (((rd_T40 l0_4 a1).f3) < 1024) = true := decide_eq_true c11
     clear c11
     (first | rw [c11b0] | (simp only [i64_w, i32_w]; rw [c11b0]) | skip)
     have H' := Aside0.mk H
     clear H
     have hnb12 := NB216_214.out
     have hnc12 := NB214_216.out
     have hcz13_0 : w8.cell? ⟨gb216, 0, none⟩ = some (.string (⟨#[]⟩ : ByteArray)) := (blk_cell BK216.out 0).trans rfl
     have hcz13_1 : w8.cell? ⟨gb216, 1, none⟩ = some (.string (⟨#[]⟩ : ByteArray)) := (blk_cell BK216.out 1).trans rfl
     have hcz13_2 : w8.cell? ⟨gb216, 2, none⟩ = some (.int .u8 0) := (blk_cell BK216.out 2).trans rfl
     have hcz13_3 : w8.cell? ⟨gb216, 3, none⟩ = some (.int .u8 0) := (blk_cell BK216.out 3).trans rfl
     have hcz13_4 : w8.cell? ⟨gb216, 4, none⟩ = some (.int .u8 0) := (blk_cell BK216.out 4).trans rfl
     have hcz13_5 : w8.cell? ⟨gb216, 5, none⟩ = some (.int .u8 0) := (blk_cell BK216.out 5).trans rfl
     have hcz13_6 : w8.cell? ⟨gb216, 6, none⟩ = some (.int .i64 0) := (blk_cell BK216.out 6).trans rfl
     have hcz13_7 : w8.cell? ⟨gb216, 7, none⟩ = some (.int .i64 0) := (blk_cell BK216.out 7).trans rfl
     have hcz13_8 : w8.cell? ⟨gb216, 8, none⟩ = some (.int .i64 0) := (blk_cell BK216.out 8).trans rfl
     have hcz13_9 : w8.cell? ⟨gb216, 9, none⟩ = some (.slice none 0 0) := (blk_cell BK216.out 9).trans rfl
     have hcz13_10 : w8.cell? ⟨gb216, 10, none⟩ = some (.int .i64 0) := (blk_cell BK216.out 10).trans rfl
     have hcz13_11 : w8.cell? ⟨gb216, 11, none⟩ = some (.int .i64 0) := (blk_cell BK216.out 11).trans rfl
     have hcz13_12 : w8.cell? ⟨gb216, 12, none⟩ = some (.int .i64 0) := (blk_cell BK216.out 12).trans rfl
     have hcz13_13 : w8.cell? ⟨gb216, 13, none⟩ = some (.int .i64 0) := (blk_cell BK216.out 13).trans rfl
     have hfz13_0 := blk_frozen BK216.out 0
     have hfz13_1 := blk_frozen BK216.out 1
     have hfz13_2 := blk_frozen BK216.out 2
     have hfz13_3 := blk_frozen BK216.out 3
     have hfz13_4 := blk_frozen BK216.out 4
     have hfz13_5 := blk_frozen BK216.out 5
     have hfz13_6 := blk_frozen BK216.out 6
     have hfz13_7 := blk_frozen BK216.out 7
     have hfz13_8 := blk_frozen BK216.out 8
     have hfz13_9 := blk_frozen BK216.out 9
     have hfz13_10 := blk_frozen BK216.out 10
     have hfz13_11 := blk_frozen BK216.out 11
     have hfz13_12 := blk_frozen BK216.out 12
     have hfz13_13 := blk_frozen BK216.out 13
     go_wp2
     repeat (go_quiet (fail); try go_wp2)
     go_meet
     case rel => exact ⟨_, (true), (by first | rfl | (simp; done) | (simp [*]; done)), H', ⟨by first | omega | exact Nat.le_refl _⟩, ⟨by (iterate 14 ((with_reducible repeat (first | refine blk_drewN ?_ _ | refine blk_drew ?_ | refine blk_alloc ?_ _)); refine blk_far ?_ NB214_216.out _)); (with_reducible repeat (first | refine blk_drewN ?_ _ | refine blk_drew ?_ | refine blk_alloc ?_ _)); exact BK214.out⟩, ⟨by (with_reducible repeat (first | refine blk_drewN ?_ _ | refine blk_drew ?_ | refine blk_alloc ?_ _)); refine blk_put (cs := #[.string ((rd_T40 l0_4 a1).f0), .string ((rd_T40 l0_4 a1).f1), .int .u8 ((rd_T40 l0_4 a1).f2.f0.f0), .int .u8 ((rd_T40 l0_4 a1).f2.f0.f1), .int .u8 ((rd_T40 l0_4 a1).f2.f0.f2), .int .u8 ((rd_T40 l0_4 a1).f2.f0.f3), .int .i64 ((rd_T40 l0_4 a1).f2.f1), .int .i64 ((rd_T40 l0_4 a1).f3), .int .i64 ((rd_T40 l0_4 a1).f4), .slice A215_9 ((rd_T40 l0_4 a1).f5).length c215_9, .int .i64 ((rd_T40 l0_4 a1).f6), .int .i64 ((rd_T40 l0_4 a1).f7), .int .i64 ((rd_T40 l0_4 a1).f8), .int .i64 0]) ?_ 13 _ rfl; (with_reducible repeat (first | refine blk_drewN ?_ _ | refine blk_drew ?_ | refine blk_alloc ?_ _)); refine blk_put (cs := #[.string ((rd_T40 l0_4 a1).f0), .string ((rd_T40 l0_4 a1).f1), .int .u8 ((rd_T40 l0_4 a1).f2.f0.f0), .int .u8 ((rd_T40 l0_4 a1).f2.f0.f1), .int .u8 ((rd_T40 l0_4 a1).f2.f0.f2), .int .u8 ((rd_T40 l0_4 a1).f2.f0.f3), .int .i64 ((rd_T40 l0_4 a1).f2.f1), .int .i64 ((rd_T40 l0_4 a1).f3), .int .i64 ((rd_T40 l0_4 a1).f4), .slice A215_9 ((rd_T40 l0_4 a1).f5).length c215_9, .int .i64 ((rd_T40 l0_4 a1).f6), .int .i64 ((rd_T40 l0_4 a1).f7), .int .i64 0, .int .i64 0]) ?_ 12 _ rfl; (with_reducible repeat (first | refine blk_drewN ?_ _ | refine blk_drew ?_ | refine blk_alloc ?_ _)); refine blk_put (cs := #[.string ((rd_T40 l0_4 a1).f0), .string ((rd_T40 l0_4 a1).f1), .int .u8 ((rd_T40 l0_4 a1).f2.f0.f0), .int .u8 ((rd_T40 l0_4 a1).f2.f0.f1), .int .u8 ((rd_T40 l0_4 a1).f2.f0.f2), .int .u8 ((rd_T40 l0_4 a1).f2.f0.f3), .int .i64 ((rd_T40 l0_4 a1).f2.f1), .int .i64 ((rd_T40 l0_4 a1).f3), .int .i64 ((rd_T40 l0_4 a1).f4), .slice A215_9 ((rd_T40 l0_4 a1).f5).length c215_9, .int .i64 ((rd_T40 l0_4 a1).f6), .int .i64 0, .int .i64 0, .int .i64 0]) ?_ 11 _ rfl; (with_reducible repeat (first | refine blk_drewN ?_ _ | refine blk_drew ?_ | refine blk_alloc ?_ _)); refine blk_put (cs := #[.string ((rd_T40 l0_4 a1).f0), .string ((rd_T40 l0_4 a1).f1), .int .u8 ((rd_T40 l0_4 a1).f2.f0.f0), .int .u8 ((rd_T40 l0_4 a1).f2.f0.f1), .int .u8 ((rd_T40 l0_4 a1).f2.f0.f2), .int .u8 ((rd_T40 l0_4 a1).f2.f0.f3), .int .i64 ((rd_T40 l0_4 a1).f2.f1), .int .i64 ((rd_T40 l0_4 a1).f3), .int .i64 ((rd_T40 l0_4 a1).f4), .slice A215_9 ((rd_T40 l0_4 a1).f5).length c215_9, .int .i64 0, .int .i64 0, .int .i64 0, .int .i64 0]) ?_ 10 _ rfl; (with_reducible repeat (first | refine blk_drewN ?_ _ | refine blk_drew ?_ | refine blk_alloc ?_ _)); refine blk_put (cs := #[.string ((rd_T40 l0_4 a1).f0), .string ((rd_T40 l0_4 a1).f1), .int .u8 ((rd_T40 l0_4 a1).f2.f0.f0), .int .u8 ((rd_T40 l0_4 a1).f2.f0.f1), .int .u8 ((rd_T40 l0_4 a1).f2.f0.f2), .int .u8 ((rd_T40 l0_4 a1).f2.f0.f3), .int .i64 ((rd_T40 l0_4 a1).f2.f1), .int .i64 ((rd_T40 l0_4 a1).f3), .int .i64 ((rd_T40 l0_4 a1).f4), .slice none 0 0, .int .i64 0, .int .i64 0, .int .i64 0, .int .i64 0]) ?_ 9 _ rfl; (with_reducible repeat (first | refine blk_drewN ?_ _ | refine blk_drew ?_ | refine blk_alloc ?_ _)); refine blk_put (cs := #[.string ((rd_T40 l0_4 a1).f0), .string ((rd_T40 l0_4 a1).f1), .int .u8 ((rd_T40 l0_4 a1).f2.f0.f0), .int .u8 ((rd_T40 l0_4 a1).f2.f0.f1), .int .u8 ((rd_T40 l0_4 a1).f2.f0.f2), .int .u8 ((rd_T40 l0_4 a1).f2.f0.f3), .int .i64 ((rd_T40 l0_4 a1).f2.f1), .int .i64 ((rd_T40 l0_4 a1).f3), .int .i64 0, .slice none 0 0, .int .i64 0, .int .i64 0, .int .i64 0, .int .i64 0]) ?_ 8 _ rfl; (with_reducible repeat (first | refine blk_drewN ?_ _ | refine blk_drew ?_ | refine blk_alloc ?_ _)); refine blk_put (cs := #[.string ((rd_T40 l0_4 a1).f0), .string ((rd_T40 l0_4 a1).f1), .int .u8 ((rd_T40 l0_4 a1).f2.f0.f0), .int .u8 ((rd_T40 l0_4 a1).f2.f0.f1), .int .u8 ((rd_T40 l0_4 a1).f2.f0.f2), .int .u8 ((rd_T40 l0_4 a1).f2.f0.f3), .int .i64 ((rd_T40 l0_4 a1).f2.f1), .int .i64 0, .int .i64 0, .slice none 0 0, .int .i64 0, .int .i64 0, .int .i64 0, .int .i64 0]) ?_ 7 _ rfl; (with_reducible repeat (first | refine blk_drewN ?_ _ | refine blk_drew ?_ | refine blk_alloc ?_ _)); refine blk_put (cs := #[.string ((rd_T40 l0_4 a1).f0), .string ((rd_T40 l0_4 a1).f1), .int .u8 ((rd_T40 l0_4 a1).f2.f0.f0), .int .u8 ((rd_T40 l0_4 a1).f2.f0.f1), .int .u8 ((rd_T40 l0_4 a1).f2.f0.f2), .int .u8 ((rd_T40 l0_4 a1).f2.f0.f3), .int .i64 0, .int .i64 0, .int .i64 0, .slice none 0 0, .int .i64 0, .int .i64 0, .int .i64 0, .int .i64 0]) ?_ 6 _ rfl; (with_reducible repeat (first | refine blk_drewN ?_ _ | refine blk_drew ?_ | refine blk_alloc ?_ _)); refine blk_put (cs := #[.string ((rd_T40 l0_4 a1).f0), .string ((rd_T40 l0_4 a1).f1), .int .u8 ((rd_T40 l0_4 a1).f2.f0.f0), .int .u8 ((rd_T40 l0_4 a1).f2.f0.f1), .int .u8 ((rd_T40 l0_4 a1).f2.f0.f2), .int .u8 0, .int .i64 0, .int .i64 0, .int .i64 0, .slice none 0 0, .int .i64 0, .int .i64 0, .int .i64 0, .int .i64 0]) ?_ 5 _ rfl; (with_reducible repeat (first | refine blk_drewN ?_ _ | refine blk_drew ?_ | refine blk_alloc ?_ _)); refine blk_put (cs := #[.string ((rd_T40 l0_4 a1).f0), .string ((rd_T40 l0_4 a1).f1), .int .u8 ((rd_T40 l0_4 a1).f2.f0.f0), .int .u8 ((rd_T40 l0_4 a1).f2.f0.f1), .int .u8 0, .int .u8 0, .int .i64 0, .int .i64 0, .int .i64 0, .slice none 0 0, .int .i64 0, .int .i64 0, .int .i64 0, .int .i64 0]) ?_ 4 _ rfl; (with_reducible repeat (first | refine blk_drewN ?_ _ | refine blk_drew ?_ | refine blk_alloc ?_ _)); refine blk_put (cs := #[.string ((rd_T40 l0_4 a1).f0), .string ((rd_T40 l0_4 a1).f1), .int .u8 ((rd_T40 l0_4 a1).f2.f0.f0), .int .u8 0, .int .u8 0, .int .u8 0, .int .i64 0, .int .i64 0, .int .i64 0, .slice none 0 0, .int .i64 0, .int .i64 0, .int .i64 0, .int .i64 0]) ?_ 3 _ rfl; (with_reducible repeat (first | refine blk_drewN ?_ _ | refine blk_drew ?_ | refine blk_alloc ?_ _)); refine blk_put (cs := #[.string ((rd_T40 l0_4 a1).f0), .string ((rd_T40 l0_4 a1).f1), .int .u8 0, .int .u8 0, .int .u8 0, .int .u8 0, .int .i64 0, .int .i64 0, .int .i64 0, .slice none 0 0, .int .i64 0, .int .i64 0, .int .i64 0, .int .i64 0]) ?_ 2 _ rfl; (with_reducible repeat (first | refine blk_drewN ?_ _ | refine blk_drew ?_ | refine blk_alloc ?_ _)); refine blk_put (cs := #[.string ((rd_T40 l0_4 a1).f0), .string (⟨#[]⟩ : ByteArray), .int .u8 0, .int .u8 0, .int .u8 0, .int .u8 0, .int .i64 0, .int .i64 0, .int .i64 0, .slice none 0 0, .int .i64 0, .int .i64 0, .int .i64 0, .int .i64 0]) ?_ 1 _ rfl; (with_reducible repeat (first | refine blk_drewN ?_ _ | refine blk_drew ?_ | refine blk_alloc ?_ _)); refine blk_put (cs := #[.string (⟨#[]⟩ : ByteArray), .string (⟨#[]⟩ : ByteArray), .int .u8 0, .int .u8 0, .int .u8 0, .int .u8 0, .int .i64 0, .int .i64 0, .int .i64 0, .slice none 0 0, .int .i64 0, .int .i64 0, .int .i64 0, .int .i64 0]) ?_ 0 _ rfl; (with_reducible repeat (first | refine blk_drewN ?_ _ | refine blk_drew ?_ | refine blk_alloc ?_ _)); exact BK216.out⟩, ⟨by repeat (first | (with_reducible first | exact HB.out | apply below_alloc | apply pw_below_drewN | apply below_drew1 | refine below_set ?_ GE214.out | refine below_set ?_ GE216.out) | exact HB.out)⟩⟩
    ·
     rw [if_neg c11] at H
     have c11b0 : decide (((rd_T40 l0_4 a1).f3) < 1024) = false := decide_eq_false c11
     clear c11
     (first | rw [c11b0] | (simp only [i64_w, i32_w]; rw [c11b0]) | skip)
     by_cases c14 : ((rd_T40 l0_4 a1).f3) > ((rd_T40 l0_4 a1).f4)
     ·
      rw [if_pos c14] at H
      have c14b0 : decide (((rd_T40 l0_4 a1).f4) < ((rd_T40 l0_4 a1).f3)) = true := decide_eq_true c14
      clear c14
      have H' := Aside0.mk H
      clear H
      have hnb15 := NB216_214.out
      have hnc15 := NB214_216.out
      have hcz16_0 : w8.cell? ⟨gb216, 0, none⟩ = some (.string (⟨#[]⟩ : ByteArray)) := (blk_cell BK216.out 0).trans rfl
      have hcz16_1 : w8.cell? ⟨gb216, 1, none⟩ = some (.string (⟨#[]⟩ : ByteArray)) := (blk_cell BK216.out 1).trans rfl
      have hcz16_2 : w8.cell? ⟨gb216, 2, none⟩ = some (.int .u8 0) := (blk_cell BK216.out 2).trans rfl
      have hcz16_3 : w8.cell? ⟨gb216, 3, none⟩ = some (.int .u8 0) := (blk_cell BK216.out 3).trans rfl
      have hcz16_4 : w8.cell? ⟨gb216, 4, none⟩ = some (.int .u8 0) := (blk_cell BK216.out 4).trans rfl
      have hcz16_5 : w8.cell? ⟨gb216, 5, none⟩ = some (.int .u8 0) := (blk_cell BK216.out 5).trans rfl
      have hcz16_6 : w8.cell? ⟨gb216, 6, none⟩ = some (.int .i64 0) := (blk_cell BK216.out 6).trans rfl
      have hcz16_7 : w8.cell? ⟨gb216, 7, none⟩ = some (.int .i64 0) := (blk_cell BK216.out 7).trans rfl
      have hcz16_8 : w8.cell? ⟨gb216, 8, none⟩ = some (.int .i64 0) := (blk_cell BK216.out 8).trans rfl
      have hcz16_9 : w8.cell? ⟨gb216, 9, none⟩ = some (.slice none 0 0) := (blk_cell BK216.out 9).trans rfl
      have hcz16_10 : w8.cell? ⟨gb216, 10, none⟩ = some (.int .i64 0) := (blk_cell BK216.out 10).trans rfl
      have hcz16_11 : w8.cell? ⟨gb216, 11, none⟩ = some (.int .i64 0) := (blk_cell BK216.out 11).trans rfl
      have hcz16_12 : w8.cell? ⟨gb216, 12, none⟩ = some (.int .i64 0) := (blk_cell BK216.out 12).trans rfl
      have hcz16_13 : w8.cell? ⟨gb216, 13, none⟩ = some (.int .i64 0) := (blk_cell BK216.out 13).trans rfl
      have hfz16_0 := blk_frozen BK216.out 0
      have hfz16_1 := blk_frozen BK216.out 1
      have hfz16_2 := blk_frozen BK216.out 2
      have hfz16_3 := blk_frozen BK216.out 3
      have hfz16_4 := blk_frozen BK216.out 4
      have hfz16_5 := blk_frozen BK216.out 5
      have hfz16_6 := blk_frozen BK216.out 6
      have hfz16_7 := blk_frozen BK216.out 7
      have hfz16_8 := blk_frozen BK216.out 8
      have hfz16_9 := blk_frozen BK216.out 9
      have hfz16_10 := blk_frozen BK216.out 10
      have hfz16_11 := blk_frozen BK216.out 11
      have hfz16_12 := blk_frozen BK216.out 12
      have hfz16_13 := blk_frozen BK216.out 13
      go_wp2
      repeat (go_quiet (fail); try go_wp2)
      go_meet
      case rel => exact ⟨_, (true), (by first | rfl | (simp; done) | (simp [*]; done)), H', ⟨by first | omega | exact Nat.le_refl _⟩, ⟨by (iterate 14 ((with_reducible repeat (first | refine blk_drewN ?_ _ | refine blk_drew ?_ | refine blk_alloc ?_ _)); refine blk_far ?_ NB214_216.out _)); (with_reducible repeat (first | refine blk_drewN ?_ _ | refine blk_drew ?_ | refine blk_alloc ?_ _)); exact BK214.out⟩, ⟨by (with_reducible repeat (first | refine blk_drewN ?_ _ | refine blk_drew ?_ | refine blk_alloc ?_ _)); refine blk_put (cs := #[.string ((rd_T40 l0_4 a1).f0), .string ((rd_T40 l0_4 a1).f1), .int .u8 ((rd_T40 l0_4 a1).f2.f0.f0), .int .u8 ((rd_T40 l0_4 a1).f2.f0.f1), .int .u8 ((rd_T40 l0_4 a1).f2.f0.f2), .int .u8 ((rd_T40 l0_4 a1).f2.f0.f3), .int .i64 ((rd_T40 l0_4 a1).f2.f1), .int .i64 ((rd_T40 l0_4 a1).f3), .int .i64 ((rd_T40 l0_4 a1).f4), .slice A215_9 ((rd_T40 l0_4 a1).f5).length c215_9, .int .i64 ((rd_T40 l0_4 a1).f6), .int .i64 ((rd_T40 l0_4 a1).f7), .int .i64 ((rd_T40 l0_4 a1).f8), .int .i64 0]) ?_ 13 _ rfl; (with_reducible repeat (first | refine blk_drewN ?_ _ | refine blk_drew ?_ | refine blk_alloc ?_ _)); refine blk_put (cs := #[.string ((rd_T40 l0_4 a1).f0), .string ((rd_T40 l0_4 a1).f1), .int .u8 ((rd_T40 l0_4 a1).f2.f0.f0), .int .u8 ((rd_T40 l0_4 a1).f2.f0.f1), .int .u8 ((rd_T40 l0_4 a1).f2.f0.f2), .int .u8 ((rd_T40 l0_4 a1).f2.f0.f3), .int .i64 ((rd_T40 l0_4 a1).f2.f1), .int .i64 ((rd_T40 l0_4 a1).f3), .int .i64 ((rd_T40 l0_4 a1).f4), .slice A215_9 ((rd_T40 l0_4 a1).f5).length c215_9, .int .i64 ((rd_T40 l0_4 a1).f6), .int .i64 ((rd_T40 l0_4 a1).f7), .int .i64 0, .int .i64 0]) ?_ 12 _ rfl; (with_reducible repeat (first | refine blk_drewN ?_ _ | refine blk_drew ?_ | refine blk_alloc ?_ _)); refine blk_put (cs := #[.string ((rd_T40 l0_4 a1).f0), .string ((rd_T40 l0_4 a1).f1), .int .u8 ((rd_T40 l0_4 a1).f2.f0.f0), .int .u8 ((rd_T40 l0_4 a1).f2.f0.f1), .int .u8 ((rd_T40 l0_4 a1).f2.f0.f2), .int .u8 ((rd_T40 l0_4 a1).f2.f0.f3), .int .i64 ((rd_T40 l0_4 a1).f2.f1), .int .i64 ((rd_T40 l0_4 a1).f3), .int .i64 ((rd_T40 l0_4 a1).f4), .slice A215_9 ((rd_T40 l0_4 a1).f5).length c215_9, .int .i64 ((rd_T40 l0_4 a1).f6), .int .i64 0, .int .i64 0, .int .i64 0]) ?_ 11 _ rfl; (with_reducible repeat (first | refine blk_drewN ?_ _ | refine blk_drew ?_ | refine blk_alloc ?_ _)); refine blk_put (cs := #[.string ((rd_T40 l0_4 a1).f0), .string ((rd_T40 l0_4 a1).f1), .int .u8 ((rd_T40 l0_4 a1).f2.f0.f0), .int .u8 ((rd_T40 l0_4 a1).f2.f0.f1), .int .u8 ((rd_T40 l0_4 a1).f2.f0.f2), .int .u8 ((rd_T40 l0_4 a1).f2.f0.f3), .int .i64 ((rd_T40 l0_4 a1).f2.f1), .int .i64 ((rd_T40 l0_4 a1).f3), .int .i64 ((rd_T40 l0_4 a1).f4), .slice A215_9 ((rd_T40 l0_4 a1).f5).length c215_9, .int .i64 0, .int .i64 0, .int .i64 0, .int .i64 0]) ?_ 10 _ rfl; (with_reducible repeat (first | refine blk_drewN ?_ _ | refine blk_drew ?_ | refine blk_alloc ?_ _)); refine blk_put (cs := #[.string ((rd_T40 l0_4 a1).f0), .string ((rd_T40 l0_4 a1).f1), .int .u8 ((rd_T40 l0_4 a1).f2.f0.f0), .int .u8 ((rd_T40 l0_4 a1).f2.f0.f1), .int .u8 ((rd_T40 l0_4 a1).f2.f0.f2), .int .u8 ((rd_T40 l0_4 a1).f2.f0.f3), .int .i64 ((rd_T40 l0_4 a1).f2.f1), .int .i64 ((rd_T40 l0_4 a1).f3), .int .i64 ((rd_T40 l0_4 a1).f4), .slice none 0 0, .int .i64 0, .int .i64 0, .int .i64 0, .int .i64 0]) ?_ 9 _ rfl; (with_reducible repeat (first | refine blk_drewN ?_ _ | refine blk_drew ?_ | refine blk_alloc ?_ _)); refine blk_put (cs := #[.string ((rd_T40 l0_4 a1).f0), .string ((rd_T40 l0_4 a1).f1), .int .u8 ((rd_T40 l0_4 a1).f2.f0.f0), .int .u8 ((rd_T40 l0_4 a1).f2.f0.f1), .int .u8 ((rd_T40 l0_4 a1).f2.f0.f2), .int .u8 ((rd_T40 l0_4 a1).f2.f0.f3), .int .i64 ((rd_T40 l0_4 a1).f2.f1), .int .i64 ((rd_T40 l0_4 a1).f3), .int .i64 0, .slice none 0 0, .int .i64 0, .int .i64 0, .int .i64 0, .int .i64 0]) ?_ 8 _ rfl; (with_reducible repeat (first | refine blk_drewN ?_ _ | refine blk_drew ?_ | refine blk_alloc ?_ _)); refine blk_put (cs := #[.string ((rd_T40 l0_4 a1).f0), .string ((rd_T40 l0_4 a1).f1), .int .u8 ((rd_T40 l0_4 a1).f2.f0.f0), .int .u8 ((rd_T40 l0_4 a1).f2.f0.f1), .int .u8 ((rd_T40 l0_4 a1).f2.f0.f2), .int .u8 ((rd_T40 l0_4 a1).f2.f0.f3), .int .i64 ((rd_T40 l0_4 a1).f2.f1), .int .i64 0, .int .i64 0, .slice none 0 0, .int .i64 0, .int .i64 0, .int .i64 0, .int .i64 0]) ?_ 7 _ rfl; (with_reducible repeat (first | refine blk_drewN ?_ _ | refine blk_drew ?_ | refine blk_alloc ?_ _)); refine blk_put (cs := #[.string ((rd_T40 l0_4 a1).f0), .string ((rd_T40 l0_4 a1).f1), .int .u8 ((rd_T40 l0_4 a1).f2.f0.f0), .int .u8 ((rd_T40 l0_4 a1).f2.f0.f1), .int .u8 ((rd_T40 l0_4 a1).f2.f0.f2), .int .u8 ((rd_T40 l0_4 a1).f2.f0.f3), .int .i64 0, .int .i64 0, .int .i64 0, .slice none 0 0, .int .i64 0, .int .i64 0, .int .i64 0, .int .i64 0]) ?_ 6 _ rfl; (with_reducible repeat (first | refine blk_drewN ?_ _ | refine blk_drew ?_ | refine blk_alloc ?_ _)); refine blk_put (cs := #[.string ((rd_T40 l0_4 a1).f0), .string ((rd_T40 l0_4 a1).f1), .int .u8 ((rd_T40 l0_4 a1).f2.f0.f0), .int .u8 ((rd_T40 l0_4 a1).f2.f0.f1), .int .u8 ((rd_T40 l0_4 a1).f2.f0.f2), .int .u8 0, .int .i64 0, .int .i64 0, .int .i64 0, .slice none 0 0, .int .i64 0, .int .i64 0, .int .i64 0, .int .i64 0]) ?_ 5 _ rfl; (with_reducible repeat (first | refine blk_drewN ?_ _ | refine blk_drew ?_ | refine blk_alloc ?_ _)); refine blk_put (cs := #[.string ((rd_T40 l0_4 a1).f0), .string ((rd_T40 l0_4 a1).f1), .int .u8 ((rd_T40 l0_4 a1).f2.f0.f0), .int .u8 ((rd_T40 l0_4 a1).f2.f0.f1), .int .u8 0, .int .u8 0, .int .i64 0, .int .i64 0, .int .i64 0, .slice none 0 0, .int .i64 0, .int .i64 0, .int .i64 0, .int .i64 0]) ?_ 4 _ rfl; (with_reducible repeat (first | refine blk_drewN ?_ _ | refine blk_drew ?_ | refine blk_alloc ?_ _)); refine blk_put (cs := #[.string ((rd_T40 l0_4 a1).f0), .string ((rd_T40 l0_4 a1).f1), .int .u8 ((rd_T40 l0_4 a1).f2.f0.f0), .int .u8 0, .int .u8 0, .int .u8 0, .int .i64 0, .int .i64 0, .int .i64 0, .slice none 0 0, .int .i64 0, .int .i64 0, .int .i64 0, .int .i64 0]) ?_ 3 _ rfl; (with_reducible repeat (first | refine blk_drewN ?_ _ | refine blk_drew ?_ | refine blk_alloc ?_ _)); refine blk_put (cs := #[.string ((rd_T40 l0_4 a1).f0), .string ((rd_T40 l0_4 a1).f1), .int .u8 0, .int .u8 0, .int .u8 0, .int .u8 0, .int .i64 0, .int .i64 0, .int .i64 0, .slice none 0 0, .int .i64 0, .int .i64 0, .int .i64 0, .int .i64 0]) ?_ 2 _ rfl; (with_reducible repeat (first | refine blk_drewN ?_ _ | refine blk_drew ?_ | refine blk_alloc ?_ _)); refine blk_put (cs := #[.string ((rd_T40 l0_4 a1).f0), .string (⟨#[]⟩ : ByteArray), .int .u8 0, .int .u8 0, .int .u8 0, .int .u8 0, .int .i64 0, .int .i64 0, .int .i64 0, .slice none 0 0, .int .i64 0, .int .i64 0, .int .i64 0, .int .i64 0]) ?_ 1 _ rfl; (with_reducible repeat (first | refine blk_drewN ?_ _ | refine blk_drew ?_ | refine blk_alloc ?_ _)); refine blk_put (cs := #[.string (⟨#[]⟩ : ByteArray), .string (⟨#[]⟩ : ByteArray), .int .u8 0, .int .u8 0, .int .u8 0, .int .u8 0, .int .i64 0, .int .i64 0, .int .i64 0, .slice none 0 0, .int .i64 0, .int .i64 0, .int .i64 0, .int .i64 0]) ?_ 0 _ rfl; (with_reducible repeat (first | refine blk_drewN ?_ _ | refine blk_drew ?_ | refine blk_alloc ?_ _)); exact BK216.out⟩, ⟨by repeat (first | (with_reducible first | exact HB.out | apply below_alloc | apply pw_below_drewN | apply below_drew1 | refine below_set ?_ GE214.out | refine below_set ?_ GE216.out) | exact HB.out)⟩⟩
     ·
      rw [if_neg c14] at H
      have c14b0 : decide (((rd_T40 l0_4 a1).f4) < ((rd_T40 l0_4 a1).f3)) = false := decide_eq_false c14
      clear c14
      have H' := Aside0.mk H
      clear H
      have hnb17 := NB216_214.out
      have hnc17 := NB214_216.out
      have hcz18_0 : w8.cell? ⟨gb216, 0, none⟩ = some (.string (⟨#[]⟩ : ByteArray)) := (blk_cell BK216.out 0).trans rfl
      have hcz18_1 : w8.cell? ⟨gb216, 1, none⟩ = some (.string (⟨#[]⟩ : ByteArray)) := (blk_cell BK216.out 1).trans rfl
      have hcz18_2 : w8.cell? ⟨gb216, 2, none⟩ = some (.int .u8 0) := (blk_cell BK216.out 2).trans rfl
      have hcz18_3 : w8.cell? ⟨gb216, 3, none⟩ = some (.int .u8 0) := (blk_cell BK216.out 3).trans rfl
      have hcz18_4 : w8.cell? ⟨gb216, 4, none⟩ = some (.int .u8 0) := (blk_cell BK216.out 4).trans rfl
      have hcz18_5 : w8.cell? ⟨gb216, 5, none⟩ = some (.int .u8 0) := (blk_cell BK216.out 5).trans rfl
      have hcz18_6 : w8.cell? ⟨gb216, 6, none⟩ = some (.int .i64 0) := (blk_cell BK216.out 6).trans rfl
      have hcz18_7 : w8.cell? ⟨gb216, 7, none⟩ = some (.int .i64 0) := (blk_cell BK216.out 7).trans rfl
      have hcz18_8 : w8.cell? ⟨gb216, 8, none⟩ = some (.int .i64 0) := (blk_cell BK216.out 8).trans rfl
      have hcz18_9 : w8.cell? ⟨gb216, 9, none⟩ = some (.slice none 0 0) := (blk_cell BK216.out 9).trans rfl
      have hcz18_10 : w8.cell? ⟨gb216, 10, none⟩ = some (.int .i64 0) := (blk_cell BK216.out 10).trans rfl
      have hcz18_11 : w8.cell? ⟨gb216, 11, none⟩ = some (.int .i64 0) := (blk_cell BK216.out 11).trans rfl
      have hcz18_12 : w8.cell? ⟨gb216, 12, none⟩ = some (.int .i64 0) := (blk_cell BK216.out 12).trans rfl
      have hcz18_13 : w8.cell? ⟨gb216, 13, none⟩ = some (.int .i64 0) := (blk_cell BK216.out 13).trans rfl
      have hfz18_0 := blk_frozen BK216.out 0
      have hfz18_1 := blk_frozen BK216.out 1
      have hfz18_2 := blk_frozen BK216.out 2
      have hfz18_3 := blk_frozen BK216.out 3
      have hfz18_4 := blk_frozen BK216.out 4
      have hfz18_5 := blk_frozen BK216.out 5
      have hfz18_6 := blk_frozen BK216.out 6
      have hfz18_7 := blk_frozen BK216.out 7
      have hfz18_8 := blk_frozen BK216.out 8
      have hfz18_9 := blk_frozen BK216.out 9
      have hfz18_10 := blk_frozen BK216.out 10
      have hfz18_11 := blk_frozen BK216.out 11
      have hfz18_12 := blk_frozen BK216.out 12
      have hfz18_13 := blk_frozen BK216.out 13
      go_wp2
      repeat (go_quiet (fail); try go_wp2)
      go_meet
      case rel => exact ⟨_, (decide (((rd_T40 l0_4 a1).f4) > 65535)), (by first | rfl | (simp; done) | (simp [*]; done)), H', ⟨by first | omega | exact Nat.le_refl _⟩, ⟨by (iterate 14 ((with_reducible repeat (first | refine blk_drewN ?_ _ | refine blk_drew ?_ | refine blk_alloc ?_ _)); refine blk_far ?_ NB214_216.out _)); (with_reducible repeat (first | refine blk_drewN ?_ _ | refine blk_drew ?_ | refine blk_alloc ?_ _)); exact BK214.out⟩, ⟨by (with_reducible repeat (first | refine blk_drewN ?_ _ | refine blk_drew ?_ | refine blk_alloc ?_ _)); refine blk_put (cs := #[.string ((rd_T40 l0_4 a1).f0), .string ((rd_T40 l0_4 a1).f1), .int .u8 ((rd_T40 l0_4 a1).f2.f0.f0), .int .u8 ((rd_T40 l0_4 a1).f2.f0.f1), .int .u8 ((rd_T40 l0_4 a1).f2.f0.f2), .int .u8 ((rd_T40 l0_4 a1).f2.f0.f3), .int .i64 ((rd_T40 l0_4 a1).f2.f1), .int .i64 ((rd_T40 l0_4 a1).f3), .int .i64 ((rd_T40 l0_4 a1).f4), .slice A215_9 ((rd_T40 l0_4 a1).f5).length c215_9, .int .i64 ((rd_T40 l0_4 a1).f6), .int .i64 ((rd_T40 l0_4 a1).f7), .int .i64 ((rd_T40 l0_4 a1).f8), .int .i64 0]) ?_ 13 _ rfl; (with_reducible repeat (first | refine blk_drewN ?_ _ | refine blk_drew ?_ | refine blk_alloc ?_ _)); refine blk_put (cs := #[.string ((rd_T40 l0_4 a1).f0), .string ((rd_T40 l0_4 a1).f1), .int .u8 ((rd_T40 l0_4 a1).f2.f0.f0), .int .u8 ((rd_T40 l0_4 a1).f2.f0.f1), .int .u8 ((rd_T40 l0_4 a1).f2.f0.f2), .int .u8 ((rd_T40 l0_4 a1).f2.f0.f3), .int .i64 ((rd_T40 l0_4 a1).f2.f1), .int .i64 ((rd_T40 l0_4 a1).f3), .int .i64 ((rd_T40 l0_4 a1).f4), .slice A215_9 ((rd_T40 l0_4 a1).f5).length c215_9, .int .i64 ((rd_T40 l0_4 a1).f6), .int .i64 ((rd_T40 l0_4 a1).f7), .int .i64 0, .int .i64 0]) ?_ 12 _ rfl; (with_reducible repeat (first | refine blk_drewN ?_ _ | refine blk_drew ?_ | refine blk_alloc ?_ _)); refine blk_put (cs := #[.string ((rd_T40 l0_4 a1).f0), .string ((rd_T40 l0_4 a1).f1), .int .u8 ((rd_T40 l0_4 a1).f2.f0.f0), .int .u8 ((rd_T40 l0_4 a1).f2.f0.f1), .int .u8 ((rd_T40 l0_4 a1).f2.f0.f2), .int .u8 ((rd_T40 l0_4 a1).f2.f0.f3), .int .i64 ((rd_T40 l0_4 a1).f2.f1), .int .i64 ((rd_T40 l0_4 a1).f3), .int .i64 ((rd_T40 l0_4 a1).f4), .slice A215_9 ((rd_T40 l0_4 a1).f5).length c215_9, .int .i64 ((rd_T40 l0_4 a1).f6), .int .i64 0, .int .i64 0, .int .i64 0]) ?_ 11 _ rfl; (with_reducible repeat (first | refine blk_drewN ?_ _ | refine blk_drew ?_ | refine blk_alloc ?_ _)); refine blk_put (cs := #[.string ((rd_T40 l0_4 a1).f0), .string ((rd_T40 l0_4 a1).f1), .int .u8 ((rd_T40 l0_4 a1).f2.f0.f0), .int .u8 ((rd_T40 l0_4 a1).f2.f0.f1), .int .u8 ((rd_T40 l0_4 a1).f2.f0.f2), .int .u8 ((rd_T40 l0_4 a1).f2.f0.f3), .int .i64 ((rd_T40 l0_4 a1).f2.f1), .int .i64 ((rd_T40 l0_4 a1).f3), .int .i64 ((rd_T40 l0_4 a1).f4), .slice A215_9 ((rd_T40 l0_4 a1).f5).length c215_9, .int .i64 0, .int .i64 0, .int .i64 0, .int .i64 0]) ?_ 10 _ rfl; (with_reducible repeat (first | refine blk_drewN ?_ _ | refine blk_drew ?_ | refine blk_alloc ?_ _)); refine blk_put (cs := #[.string ((rd_T40 l0_4 a1).f0), .string ((rd_T40 l0_4 a1).f1), .int .u8 ((rd_T40 l0_4 a1).f2.f0.f0), .int .u8 ((rd_T40 l0_4 a1).f2.f0.f1), .int .u8 ((rd_T40 l0_4 a1).f2.f0.f2), .int .u8 ((rd_T40 l0_4 a1).f2.f0.f3), .int .i64 ((rd_T40 l0_4 a1).f2.f1), .int .i64 ((rd_T40 l0_4 a1).f3), .int .i64 ((rd_T40 l0_4 a1).f4), .slice none 0 0, .int .i64 0, .int .i64 0, .int .i64 0, .int .i64 0]) ?_ 9 _ rfl; (with_reducible repeat (first | refine blk_drewN ?_ _ | refine blk_drew ?_ | refine blk_alloc ?_ _)); refine blk_put (cs := #[.string ((rd_T40 l0_4 a1).f0), .string ((rd_T40 l0_4 a1).f1), .int .u8 ((rd_T40 l0_4 a1).f2.f0.f0), .int .u8 ((rd_T40 l0_4 a1).f2.f0.f1), .int .u8 ((rd_T40 l0_4 a1).f2.f0.f2), .int .u8 ((rd_T40 l0_4 a1).f2.f0.f3), .int .i64 ((rd_T40 l0_4 a1).f2.f1), .int .i64 ((rd_T40 l0_4 a1).f3), .int .i64 0, .slice none 0 0, .int .i64 0, .int .i64 0, .int .i64 0, .int .i64 0]) ?_ 8 _ rfl; (with_reducible repeat (first | refine blk_drewN ?_ _ | refine blk_drew ?_ | refine blk_alloc ?_ _)); refine blk_put (cs := #[.string ((rd_T40 l0_4 a1).f0), .string ((rd_T40 l0_4 a1).f1), .int .u8 ((rd_T40 l0_4 a1).f2.f0.f0), .int .u8 ((rd_T40 l0_4 a1).f2.f0.f1), .int .u8 ((rd_T40 l0_4 a1).f2.f0.f2), .int .u8 ((rd_T40 l0_4 a1).f2.f0.f3), .int .i64 ((rd_T40 l0_4 a1).f2.f1), .int .i64 0, .int .i64 0, .slice none 0 0, .int .i64 0, .int .i64 0, .int .i64 0, .int .i64 0]) ?_ 7 _ rfl; (with_reducible repeat (first | refine blk_drewN ?_ _ | refine blk_drew ?_ | refine blk_alloc ?_ _)); refine blk_put (cs := #[.string ((rd_T40 l0_4 a1).f0), .string ((rd_T40 l0_4 a1).f1), .int .u8 ((rd_T40 l0_4 a1).f2.f0.f0), .int .u8 ((rd_T40 l0_4 a1).f2.f0.f1), .int .u8 ((rd_T40 l0_4 a1).f2.f0.f2), .int .u8 ((rd_T40 l0_4 a1).f2.f0.f3), .int .i64 0, .int .i64 0, .int .i64 0, .slice none 0 0, .int .i64 0, .int .i64 0, .int .i64 0, .int .i64 0]) ?_ 6 _ rfl; (with_reducible repeat (first | refine blk_drewN ?_ _ | refine blk_drew ?_ | refine blk_alloc ?_ _)); refine blk_put (cs := #[.string ((rd_T40 l0_4 a1).f0), .string ((rd_T40 l0_4 a1).f1), .int .u8 ((rd_T40 l0_4 a1).f2.f0.f0), .int .u8 ((rd_T40 l0_4 a1).f2.f0.f1), .int .u8 ((rd_T40 l0_4 a1).f2.f0.f2), .int .u8 0, .int .i64 0, .int .i64 0, .int .i64 0, .slice none 0 0, .int .i64 0, .int .i64 0, .int .i64 0, .int .i64 0]) ?_ 5 _ rfl; (with_reducible repeat (first | refine blk_drewN ?_ _ | refine blk_drew ?_ | refine blk_alloc ?_ _)); refine blk_put (cs := #[.string ((rd_T40 l0_4 a1).f0), .string ((rd_T40 l0_4 a1).f1), .int .u8 ((rd_T40 l0_4 a1).f2.f0.f0), .int .u8 ((rd_T40 l0_4 a1).f2.f0.f1), .int .u8 0, .int .u8 0, .int .i64 0, .int .i64 0, .int .i64 0, .slice none 0 0, .int .i64 0, .int .i64 0, .int .i64 0, .int .i64 0]) ?_ 4 _ rfl; (with_reducible repeat (first | refine blk_drewN ?_ _ | refine blk_drew ?_ | refine blk_alloc ?_ _)); refine blk_put (cs := #[.string ((rd_T40 l0_4 a1).f0), .string ((rd_T40 l0_4 a1).f1), .int .u8 ((rd_T40 l0_4 a1).f2.f0.f0), .int .u8 0, .int .u8 0, .int .u8 0, .int .i64 0, .int .i64 0, .int .i64 0, .slice none 0 0, .int .i64 0, .int .i64 0, .int .i64 0, .int .i64 0]) ?_ 3 _ rfl; (with_reducible repeat (first | refine blk_drewN ?_ _ | refine blk_drew ?_ | refine blk_alloc ?_ _)); refine blk_put (cs := #[.string ((rd_T40 l0_4 a1).f0), .string ((rd_T40 l0_4 a1).f1), .int .u8 0, .int .u8 0, .int .u8 0, .int .u8 0, .int .i64 0, .int .i64 0, .int .i64 0, .slice none 0 0, .int .i64 0, .int .i64 0, .int .i64 0, .int .i64 0]) ?_ 2 _ rfl; (with_reducible repeat (first | refine blk_drewN ?_ _ | refine blk_drew ?_ | refine blk_alloc ?_ _)); refine blk_put (cs := #[.string ((rd_T40 l0_4 a1).f0), .string (⟨#[]⟩ : ByteArray), .int .u8 0, .int .u8 0, .int .u8 0, .int .u8 0, .int .i64 0, .int .i64 0, .int .i64 0, .slice none 0 0, .int .i64 0, .int .i64 0, .int .i64 0, .int .i64 0]) ?_ 1 _ rfl; (with_reducible repeat (first | refine blk_drewN ?_ _ | refine blk_drew ?_ | refine blk_alloc ?_ _)); refine blk_put (cs := #[.string (⟨#[]⟩ : ByteArray), .string (⟨#[]⟩ : ByteArray), .int .u8 0, .int .u8 0, .int .u8 0, .int .u8 0, .int .i64 0, .int .i64 0, .int .i64 0, .slice none 0 0, .int .i64 0, .int .i64 0, .int .i64 0, .int .i64 0]) ?_ 0 _ rfl; (with_reducible repeat (first | refine blk_drewN ?_ _ | refine blk_drew ?_ | refine blk_alloc ?_ _)); exact BK216.out⟩, ⟨by repeat (first | (with_reducible first | exact HB.out | apply below_alloc | apply pw_below_drewN | apply below_drew1 | refine below_set ?_ GE214.out | refine below_set ?_ GE216.out) | exact HB.out)⟩⟩
   case rest =>
    clear HC5
    try clear c1
    try clear c2
    try clear p2
    try clear q2
    try clear hx2
    try clear c3
    try clear c3b0
    try clear c4
    try clear c4b0
    try clear c9
    try clear c11
    try clear c11b0
    try clear c12
    try clear c14
    try clear c14b0
    try clear c15
    try clear c17
    try clear hcz10_0
    try clear hcz10_1
    try clear hcz10_10
    try clear hcz10_11
    try clear hcz10_12
    try clear hcz10_13
    try clear hcz10_2
    try clear hcz10_3
    try clear hcz10_4
    try clear hcz10_5
    try clear hcz10_6
    try clear hcz10_7
    try clear hcz10_8
    try clear hcz10_9
    try clear hcz13_0
    try clear hcz13_1
    try clear hcz13_10
    try clear hcz13_11
    try clear hcz13_12
    try clear hcz13_13
    try clear hcz13_2
    try clear hcz13_3
    try clear hcz13_4
    try clear hcz13_5
    try clear hcz13_6
    try clear hcz13_7
    try clear hcz13_8
    try clear hcz13_9
    try clear hcz16_0
    try clear hcz16_1
    try clear hcz16_10
    try clear hcz16_11
    try clear hcz16_12
    try clear hcz16_13
    try clear hcz16_2
    try clear hcz16_3
    try clear hcz16_4
    try clear hcz16_5
    try clear hcz16_6
    try clear hcz16_7
    try clear hcz16_8
    try clear hcz16_9
    try clear hcz18_0
    try clear hcz18_1
    try clear hcz18_10
    try clear hcz18_11
    try clear hcz18_12
    try clear hcz18_13
    try clear hcz18_2
    try clear hcz18_3
    try clear hcz18_4
    try clear hcz18_5
    try clear hcz18_6
    try clear hcz18_7
    try clear hcz18_8
    try clear hcz18_9
    try clear hcz7_0
    try clear hcz7_1
    try clear hcz7_2
    try clear hcz7_3
    try clear hcz7_4
    try clear hcz7_5
    try clear hcz7_6
    try clear hcz7_7
    try clear hcz7_8
    try clear hfz10_0
    try clear hfz10_1
    try clear hfz10_10
    try clear hfz10_11
    try clear hfz10_12
    try clear hfz10_13
    try clear hfz10_2
    try clear hfz10_3
    try clear hfz10_4
    try clear hfz10_5
    try clear hfz10_6
    try clear hfz10_7
    try clear hfz10_8
    try clear hfz10_9
    try clear hfz13_0
    try clear hfz13_1
    try clear hfz13_10
    try clear hfz13_11
    try clear hfz13_12
    try clear hfz13_13
    try clear hfz13_2
    try clear hfz13_3
    try clear hfz13_4
    try clear hfz13_5
    try clear hfz13_6
    try clear hfz13_7
    try clear hfz13_8
    try clear hfz13_9
    try clear hfz16_0
    try clear hfz16_1
    try clear hfz16_10
    try clear hfz16_11
    try clear hfz16_12
    try clear hfz16_13
    try clear hfz16_2
    try clear hfz16_3
    try clear hfz16_4
    try clear hfz16_5
    try clear hfz16_6
    try clear hfz16_7
    try clear hfz16_8
    try clear hfz16_9
    try clear hfz18_0
    try clear hfz18_1
    try clear hfz18_10
    try clear hfz18_11
    try clear hfz18_12
    try clear hfz18_13
    try clear hfz18_2
    try clear hfz18_3
    try clear hfz18_4
    try clear hfz18_5
    try clear hfz18_6
    try clear hfz18_7
    try clear hfz18_8
    try clear hfz18_9
    try clear hfz7_0
    try clear hfz7_1
    try clear hfz7_2
    try clear hfz7_3
    try clear hfz7_4
    try clear hfz7_5
    try clear hfz7_6
    try clear hfz7_7
    try clear hfz7_8
    try clear hx215_0
    try clear hx215_1
    try clear hx215_10
    try clear hx215_11
    try clear hx215_12
    try clear hx215_13
    try clear hx215_2
    try clear hx215_3
    try clear hx215_4
    try clear hx215_5
    try clear hx215_6
    try clear hx215_7
    try clear hx215_8
    try clear hx215_9
    try clear p215
    try clear q215
    obtain ⟨kq, x26_4, rfl, HA, HJ4, BK214, BK216, HB⟩ := hcut
    cases kq with
    | zero => exact absurd HA.out (by simp [wharfingerref13_ports.j0])
    | succ kj4 =>
     have H := HA.out
     clear HA
     simp only [wharfingerref13_ports.j0] at H
     by_cases c19 : x26_4 = true
     ·
      subst c19
      have H1 : (some false) = some r := by rw [if_pos rfl] at H; exact H
      clear H
      have H := H1
      clear H1
      obtain rfl := Option.some.inj H
      go_wp2
      repeat (go_quiet (fail); try go_wp2)
      go_ret
      exact ⟨by first | rfl | (simp [errW_none, errW_some] <;> rfl) | (simp [*, errW_none, errW_some] <;> rfl), by repeat (first | (with_reducible first | exact HB.out | apply below_alloc | apply pw_below_drewN | apply below_drew1 | refine below_set ?_ GE214.out | refine below_set ?_ GE216.out) | exact HB.out)⟩
     ·
      replace c19 := Bool.eq_false_iff.mpr c19
      subst c19
      have H1 : (wharfingerref13_ports.l0 kj4 a1 0 a0_0 a0_1 a0_2 a0_3 l0_4 a0_5 a0_6 a0_7 a0_8 ((rd_T40 l0_4 a1).f0) ((rd_T40 l0_4 a1).f1) ((rd_T40 l0_4 a1).f2.f0.f0) ((rd_T40 l0_4 a1).f2.f0.f1) ((rd_T40 l0_4 a1).f2.f0.f2) ((rd_T40 l0_4 a1).f2.f0.f3) ((rd_T40 l0_4 a1).f2.f1) ((rd_T40 l0_4 a1).f3) ((rd_T40 l0_4 a1).f4) ((rd_T40 l0_4 a1).f5) ((rd_T40 l0_4 a1).f6) ((rd_T40 l0_4 a1).f7) ((rd_T40 l0_4 a1).f8) ((rd_T40 l0_4 a1).f9)) = some r := by rw [if_neg (show ¬ (false = true) by decide)] at H; exact H
      clear H
      have H := H1
      clear H1
      have H' := Aside0.mk H
      clear H
      go_wp2
      repeat (go_quiet (fail); try go_wp2)
      go_loopg [6] kj4 (fun kq v6 w' => ∃ (x6_2 : Int), v6 = .int .i64 x6_2 ∧ Aside0 (wharfingerref13_ports.l0 kq a1 x6_2 a0_0 a0_1 a0_2 a0_3 l0_4 a0_5 a0_6 a0_7 a0_8 ((rd_T40 l0_4 a1).f0) ((rd_T40 l0_4 a1).f1) ((rd_T40 l0_4 a1).f2.f0.f0) ((rd_T40 l0_4 a1).f2.f0.f1) ((rd_T40 l0_4 a1).f2.f0.f2) ((rd_T40 l0_4 a1).f2.f0.f3) ((rd_T40 l0_4 a1).f2.f1) ((rd_T40 l0_4 a1).f3) ((rd_T40 l0_4 a1).f4) ((rd_T40 l0_4 a1).f5) ((rd_T40 l0_4 a1).f6) ((rd_T40 l0_4 a1).f7) ((rd_T40 l0_4 a1).f8) ((rd_T40 l0_4 a1).f9) = some r) ∧ Aside0 (kq ≤ kj4) ∧ Aside0 (w'.heap[gb214]? = some (.cells #[.int .u8 a0_0, .int .u8 a0_1, .int .u8 a0_2, .int .u8 a0_3, (.slice (some ad215) l0_4.length c0_4), .int .i64 a0_5, .int .i64 a0_6, .int .i64 a0_7, .bool a0_8] 26 (0, 0))) ∧ Aside0 (w'.heap[gb216]? = some (.cells #[.string ((rd_T40 l0_4 a1).f0), .string ((rd_T40 l0_4 a1).f1), .int .u8 ((rd_T40 l0_4 a1).f2.f0.f0), .int .u8 ((rd_T40 l0_4 a1).f2.f0.f1), .int .u8 ((rd_T40 l0_4 a1).f2.f0.f2), .int .u8 ((rd_T40 l0_4 a1).f2.f0.f3), .int .i64 ((rd_T40 l0_4 a1).f2.f1), .int .i64 ((rd_T40 l0_4 a1).f3), .int .i64 ((rd_T40 l0_4 a1).f4), (.slice A215_9 ((rd_T40 l0_4 a1).f5).length c215_9), .int .i64 ((rd_T40 l0_4 a1).f6), .int .i64 ((rd_T40 l0_4 a1).f7), .int .i64 ((rd_T40 l0_4 a1).f8), .int .i64 ((rd_T40 l0_4 a1).f9)] 40 (0, 0))) ∧ Aside0 (Below w.heap.size w w'))
      case atStart => exact ⟨(0), (by first | rfl | (simp; done) | (simp [*]; done)), H', ⟨Nat.le_refl _⟩, ⟨by (with_reducible repeat (first | refine blk_drewN ?_ _ | refine blk_drew ?_ | refine blk_alloc ?_ _)); exact BK214.out⟩, ⟨by (with_reducible repeat (first | refine blk_drewN ?_ _ | refine blk_drew ?_ | refine blk_alloc ?_ _)); exact BK216.out⟩, ⟨by repeat (first | (with_reducible first | exact HB.out | apply below_alloc | apply pw_below_drewN | apply below_drew1 | refine below_set ?_ GE214.out | refine below_set ?_ GE216.out) | exact HB.out)⟩⟩
      case round =>
       clear H'
       try clear c1
       try clear c2
       try clear p2
       try clear q2
       try clear hx2
       try clear c3
       try clear c3b0
       try clear c4
       try clear c4b0
       try clear c9
       try clear c11
       try clear c11b0
       try clear c12
       try clear c14
       try clear c14b0
       try clear c15
       try clear c17
       try clear c19
       try clear hcz10_0
       try clear hcz10_1
       try clear hcz10_10
       try clear hcz10_11
       try clear hcz10_12
       try clear hcz10_13
       try clear hcz10_2
       try clear hcz10_3
       try clear hcz10_4
       try clear hcz10_5
       try clear hcz10_6
       try clear hcz10_7
       try clear hcz10_8
       try clear hcz10_9
       try clear hcz13_0
       try clear hcz13_1
       try clear hcz13_10
       try clear hcz13_11
       try clear hcz13_12
       try clear hcz13_13
       try clear hcz13_2
       try clear hcz13_3
       try clear hcz13_4
       try clear hcz13_5
       try clear hcz13_6
       try clear hcz13_7
       try clear hcz13_8
       try clear hcz13_9
       try clear hcz16_0
       try clear hcz16_1
       try clear hcz16_10
       try clear hcz16_11
       try clear hcz16_12
       try clear hcz16_13
       try clear hcz16_2
       try clear hcz16_3
       try clear hcz16_4
       try clear hcz16_5
       try clear hcz16_6
       try clear hcz16_7
       try clear hcz16_8
       try clear hcz16_9
       try clear hcz18_0
       try clear hcz18_1
       try clear hcz18_10
       try clear hcz18_11
       try clear hcz18_12
       try clear hcz18_13
       try clear hcz18_2
       try clear hcz18_3
       try clear hcz18_4
       try clear hcz18_5
       try clear hcz18_6
       try clear hcz18_7
       try clear hcz18_8
       try clear hcz18_9
       try clear hcz7_0
       try clear hcz7_1
       try clear hcz7_2
       try clear hcz7_3
       try clear hcz7_4
       try clear hcz7_5
       try clear hcz7_6
       try clear hcz7_7
       try clear hcz7_8
       try clear hfz10_0
       try clear hfz10_1
       try clear hfz10_10
       try clear hfz10_11
       try clear hfz10_12
       try clear hfz10_13
       try clear hfz10_2
       try clear hfz10_3
       try clear hfz10_4
       try clear hfz10_5
       try clear hfz10_6
       try clear hfz10_7
       try clear hfz10_8
       try clear hfz10_9
       try clear hfz13_0
       try clear hfz13_1
       try clear hfz13_10
       try clear hfz13_11
       try clear hfz13_12
       try clear hfz13_13
       try clear hfz13_2
       try clear hfz13_3
       try clear hfz13_4
       try clear hfz13_5
       try clear hfz13_6
       try clear hfz13_7
       try clear hfz13_8
       try clear hfz13_9
       try clear hfz16_0
       try clear hfz16_1
       try clear hfz16_10
       try clear hfz16_11
       try clear hfz16_12
       try clear hfz16_13
       try clear hfz16_2
       try clear hfz16_3
       try clear hfz16_4
       try clear hfz16_5
       try clear hfz16_6
       try clear hfz16_7
       try clear hfz16_8
       try clear hfz16_9
       try clear hfz18_0
       try clear hfz18_1
       try clear hfz18_10
       try clear hfz18_11
       try clear hfz18_12
       try clear hfz18_13
       try clear hfz18_2
       try clear hfz18_3
       try clear hfz18_4
       try clear hfz18_5
       try clear hfz18_6
       try clear hfz18_7
       try clear hfz18_8
       try clear hfz18_9
       try clear hfz7_0
       try clear hfz7_1
       try clear hfz7_2
       try clear hfz7_3
       try clear hfz7_4
       try clear hfz7_5
       try clear hfz7_6
       try clear hfz7_7
       try clear hfz7_8
       try clear hx215_0
       try clear hx215_1
       try clear hx215_10
       try clear hx215_11
       try clear hx215_12
       try clear hx215_13
       try clear hx215_2
       try clear hx215_3
       try clear hx215_4
       try clear hx215_5
       try clear hx215_6
       try clear hx215_7
       try clear hx215_8
       try clear hx215_9
       try clear p2
       try clear p215
       try clear q2
       try clear q215
       obtain ⟨x6_2, rfl, HA, HK2, BK214, BK216, HB⟩ := hrel
       cases gk with
       | zero => exact absurd HA.out (by simp [wharfingerref13_ports.l0])
       | succ k2 =>
        have H := HA.out
        clear HA
        simp only [wharfingerref13_ports.l0] at H
        by_cases c20 : x6_2 < a1
        ·
         rw [if_pos c20] at H
         have c20b0 : decide (x6_2 < a1) = true := decide_eq_true c20
         clear c20
         by_cases c21 : 0 ≤ x6_2
         ·
          rw [if_pos c21] at H
          have c21b0 : decide (0 ≤ x6_2) = true := decide_eq_true c21
          clear c21
          by_cases c22 : x6_2 < (l0_4.length : Int)
          ·
           rw [if_pos c22] at H
           have c22b0 : decide (x6_2 < (l0_4.length : Int)) = true := decide_eq_true c22
           clear c22
           by_cases c23 : ((rd_T40 l0_4 a1).f3) ≤ ((rd_T40 l0_4 x6_2).f4)
           ·
            rw [if_pos c23] at H
            have c23b0 : decide (((rd_T40 l0_4 a1).f3) ≤ ((rd_T40 l0_4 x6_2).f4)) = true := decide_eq_true c23
            clear c23
            by_cases c24 : ((rd_T40 l0_4 x6_2).f3) ≤ ((rd_T40 l0_4 a1).f4)
            ·
             rw [if_pos c24] at H
             have c24b0 : decide (((rd_T40 l0_4 x6_2).f3) ≤ ((rd_T40 l0_4 a1).f4)) = true := decide_eq_true c24
             clear c24
             obtain rfl := Option.some.inj H
             have hnb25 := NB216_214.out
             have hnc25 := NB214_216.out
             have hcz26_0 : wr.cell? ⟨gb216, 0, none⟩ = some (.string ((rd_T40 l0_4 a1).f0)) := (blk_cell BK216.out 0).trans rfl
             have hcz26_1 : wr.cell? ⟨gb216, 1, none⟩ = some (.string ((rd_T40 l0_4 a1).f1)) := (blk_cell BK216.out 1).trans rfl
             have hcz26_2 : wr.cell? ⟨gb216, 2, none⟩ = some (.int .u8 ((rd_T40 l0_4 a1).f2.f0.f0)) := (blk_cell BK216.out 2).trans rfl
             have hcz26_3 : wr.cell? ⟨gb216, 3, none⟩ = some (.int .u8 ((rd_T40 l0_4 a1).f2.f0.f1)) := (blk_cell BK216.out 3).trans rfl
             have hcz26_4 : wr.cell? ⟨gb216, 4, none⟩ = some (.int .u8 ((rd_T40 l0_4 a1).f2.f0.f2)) := (blk_cell BK216.out 4).trans rfl
             have hcz26_5 : wr.cell? ⟨gb216, 5, none⟩ = some (.int .u8 ((rd_T40 l0_4 a1).f2.f0.f3)) := (blk_cell BK216.out 5).trans rfl
             have hcz26_6 : wr.cell? ⟨gb216, 6, none⟩ = some (.int .i64 ((rd_T40 l0_4 a1).f2.f1)) := (blk_cell BK216.out 6).trans rfl
             have hcz26_7 : wr.cell? ⟨gb216, 7, none⟩ = some (.int .i64 ((rd_T40 l0_4 a1).f3)) := (blk_cell BK216.out 7).trans rfl
             have hcz26_8 : wr.cell? ⟨gb216, 8, none⟩ = some (.int .i64 ((rd_T40 l0_4 a1).f4)) := (blk_cell BK216.out 8).trans rfl
             have hcz26_9 : wr.cell? ⟨gb216, 9, none⟩ = some (.slice A215_9 ((rd_T40 l0_4 a1).f5).length c215_9) := (blk_cell BK216.out 9).trans rfl
             have hcz26_10 : wr.cell? ⟨gb216, 10, none⟩ = some (.int .i64 ((rd_T40 l0_4 a1).f6)) := (blk_cell BK216.out 10).trans rfl
             have hcz26_11 : wr.cell? ⟨gb216, 11, none⟩ = some (.int .i64 ((rd_T40 l0_4 a1).f7)) := (blk_cell BK216.out 11).trans rfl
             have hcz26_12 : wr.cell? ⟨gb216, 12, none⟩ = some (.int .i64 ((rd_T40 l0_4 a1).f8)) := (blk_cell BK216.out 12).trans rfl
             have hcz26_13 : wr.cell? ⟨gb216, 13, none⟩ = some (.int .i64 ((rd_T40 l0_4 a1).f9)) := (blk_cell BK216.out 13).trans rfl
             have hfz26_0 := blk_frozen BK216.out 0
             have hfz26_1 := blk_frozen BK216.out 1
             have hfz26_2 := blk_frozen BK216.out 2
             have hfz26_3 := blk_frozen BK216.out 3
             have hfz26_4 := blk_frozen BK216.out 4
             have hfz26_5 := blk_frozen BK216.out 5
             have hfz26_6 := blk_frozen BK216.out 6
             have hfz26_7 := blk_frozen BK216.out 7
             have hfz26_8 := blk_frozen BK216.out 8
             have hfz26_9 := blk_frozen BK216.out 9
             have hfz26_10 := blk_frozen BK216.out 10
             have hfz26_11 := blk_frozen BK216.out 11
             have hfz26_12 := blk_frozen BK216.out 12
             have hfz26_13 := blk_frozen BK216.out 13
             have hcz27_0 : wr.cell? ⟨gb214, 0, none⟩ = some (.int .u8 a0_0) := (blk_cell BK214.out 0).trans rfl
             have hcz27_1 : wr.cell? ⟨gb214, 1, none⟩ = some (.int .u8 a0_1) := (blk_cell BK214.out 1).trans rfl
             have hcz27_2 : wr.cell? ⟨gb214, 2, none⟩ = some (.int .u8 a0_2) := (blk_cell BK214.out 2).trans rfl
             have hcz27_3 : wr.cell? ⟨gb214, 3, none⟩ = some (.int .u8 a0_3) := (blk_cell BK214.out 3).trans rfl
             have hcz27_4 : wr.cell? ⟨gb214, 4, none⟩ = some (.slice (some ad215) l0_4.length c0_4) := (blk_cell BK214.out 4).trans rfl
             have hcz27_5 : wr.cell? ⟨gb214, 5, none⟩ = some (.int .i64 a0_5) := (blk_cell BK214.out 5).trans rfl
             have hcz27_6 : wr.cell? ⟨gb214, 6, none⟩ = some (.int .i64 a0_6) := (blk_cell BK214.out 6).trans rfl
             have hcz27_7 : wr.cell? ⟨gb214, 7, none⟩ = some (.int .i64 a0_7) := (blk_cell BK214.out 7).trans rfl
             have hcz27_8 : wr.cell? ⟨gb214, 8, none⟩ = some (.bool a0_8) := (blk_cell BK214.out 8).trans rfl
             have hfz27_0 := blk_frozen BK214.out 0
             have hfz27_1 := blk_frozen BK214.out 1
             have hfz27_2 := blk_frozen BK214.out 2
             have hfz27_3 := blk_frozen BK214.out 3
             have hfz27_4 := blk_frozen BK214.out 4
             have hfz27_5 := blk_frozen BK214.out 5
             have hfz27_6 := blk_frozen BK214.out 6
             have hfz27_7 := blk_frozen BK214.out 7
             have hfz27_8 := blk_frozen BK214.out 8
             have p217 : 0 ≤ (x6_2 : Int) := of_decide_eq_true (by first | (with_reducible assumption) | assumption)
             have q217 : x6_2 < (l0_4.length : Int) := of_decide_eq_true (by first | (with_reducible assumption) | assumption)
             obtain ⟨ad217, A217_9, c217_9, e217, hx217_0, hx217_1, hx217_2, hx217_3, hx217_4, hx217_5, hx217_6, hx217_7, hx217_8, hx217_9, hx217_10, hx217_11, hx217_12, hx217_13, hl217_9, hi217_9⟩ := at_T40 HR0_4.out x6_2 p217 q217
             obtain rfl : ad215 = ad217 := (by injection e217)
             replace hx217_0 := (HB.out.cell (World.block_lt_of_cell? w _ hx217_0)).trans hx217_0
             replace hx217_1 := (HB.out.cell (World.block_lt_of_cell? w _ hx217_1)).trans hx217_1
             replace hx217_2 := (HB.out.cell (World.block_lt_of_cell? w _ hx217_2)).trans hx217_2
             replace hx217_3 := (HB.out.cell (World.block_lt_of_cell? w _ hx217_3)).trans hx217_3
             replace hx217_4 := (HB.out.cell (World.block_lt_of_cell? w _ hx217_4)).trans hx217_4
             replace hx217_5 := (HB.out.cell (World.block_lt_of_cell? w _ hx217_5)).trans hx217_5
             replace hx217_6 := (HB.out.cell (World.block_lt_of_cell? w _ hx217_6)).trans hx217_6
             replace hx217_7 := (HB.out.cell (World.block_lt_of_cell? w _ hx217_7)).trans hx217_7
             replace hx217_8 := (HB.out.cell (World.block_lt_of_cell? w _ hx217_8)).trans hx217_8
             replace hx217_9 := (HB.out.cell (World.block_lt_of_cell? w _ hx217_9)).trans hx217_9
             replace hx217_10 := (HB.out.cell (World.block_lt_of_cell? w _ hx217_10)).trans hx217_10
             replace hx217_11 := (HB.out.cell (World.block_lt_of_cell? w _ hx217_11)).trans hx217_11
             replace hx217_12 := (HB.out.cell (World.block_lt_of_cell? w _ hx217_12)).trans hx217_12
             replace hx217_13 := (HB.out.cell (World.block_lt_of_cell? w _ hx217_13)).trans hx217_13
             have HR217_9 := Aside0.mk hi217_9
             have HC217_9 := Aside0.mk hl217_9
             clear hi217_9 hl217_9
             replace p217 := eq_true p217
             replace q217 := eq_true q217
             have p218 : 0 ≤ (x6_2 : Int) := of_decide_eq_true (by first | (with_reducible assumption) | assumption)
             have q218 : x6_2 < (l0_4.length : Int) := of_decide_eq_true (by first | (with_reducible assumption) | assumption)
             obtain ⟨ad218, A218_9, c218_9, e218, hx218_0, hx218_1, hx218_2, hx218_3, hx218_4, hx218_5, hx218_6, hx218_7, hx218_8, hx218_9, hx218_10, hx218_11, hx218_12, hx218_13, hl218_9, hi218_9⟩ := at_T40 HR0_4.out x6_2 p218 q218
             obtain rfl : ad215 = ad218 := (by injection e218)
             replace hx218_0 := (HB.out.cell (World.block_lt_of_cell? w _ hx218_0)).trans hx218_0
             replace hx218_1 := (HB.out.cell (World.block_lt_of_cell? w _ hx218_1)).trans hx218_1
             replace hx218_2 := (HB.out.cell (World.block_lt_of_cell? w _ hx218_2)).trans hx218_2
             replace hx218_3 := (HB.out.cell (World.block_lt_of_cell? w _ hx218_3)).trans hx218_3
             replace hx218_4 := (HB.out.cell (World.block_lt_of_cell? w _ hx218_4)).trans hx218_4
             replace hx218_5 := (HB.out.cell (World.block_lt_of_cell? w _ hx218_5)).trans hx218_5
             replace hx218_6 := (HB.out.cell (World.block_lt_of_cell? w _ hx218_6)).trans hx218_6
             replace hx218_7 := (HB.out.cell (World.block_lt_of_cell? w _ hx218_7)).trans hx218_7
             replace hx218_8 := (HB.out.cell (World.block_lt_of_cell? w _ hx218_8)).trans hx218_8
             replace hx218_9 := (HB.out.cell (World.block_lt_of_cell? w _ hx218_9)).trans hx218_9
             replace hx218_10 := (HB.out.cell (World.block_lt_of_cell? w _ hx218_10)).trans hx218_10
             replace hx218_11 := (HB.out.cell (World.block_lt_of_cell? w _ hx218_11)).trans hx218_11
             replace hx218_12 := (HB.out.cell (World.block_lt_of_cell? w _ hx218_12)).trans hx218_12
             replace hx218_13 := (HB.out.cell (World.block_lt_of_cell? w _ hx218_13)).trans hx218_13
             have HR218_9 := Aside0.mk hi218_9
             have HC218_9 := Aside0.mk hl218_9
             clear hi218_9 hl218_9
             replace p218 := eq_true p218
             replace q218 := eq_true q218
             have ea_ := Option.some.inj (hx217_9.symm.trans hx218_9)
             injection ea_ with ea_ en_ ec_
             subst ea_
             subst ec_
             clear en_
             go_wp2
             repeat (go_quiet (fail); try go_wp2)
             go_ret
             exact ⟨by first | rfl | (simp [errW_none, errW_some] <;> rfl) | (simp [*, errW_none, errW_some] <;> rfl), by repeat (first | (with_reducible first | exact HB.out | apply below_alloc | apply pw_below_drewN | apply below_drew1 | refine below_set ?_ GE214.out | refine below_set ?_ GE216.out) | exact HB.out)⟩
            ·
             rw [if_neg c24] at H
             have c24b0 : decide (((rd_T40 l0_4 x6_2).f3) ≤ ((rd_T40 l0_4 a1).f4)) = false := decide_eq_false c24
             clear c24
             have H' := Aside0.mk H
             clear H
             have hnb28 := NB216_214.out
             have hnc28 := NB214_216.out
             have hcz29_0 : wr.cell? ⟨gb216, 0, none⟩ = some (.string ((rd_T40 l0_4 a1).f0)) := (blk_cell BK216.out 0).trans rfl
             have hcz29_1 : wr.cell? ⟨gb216, 1, none⟩ = some (.string ((rd_T40 l0_4 a1).f1)) := (blk_cell BK216.out 1).trans rfl
             have hcz29_2 : wr.cell? ⟨gb216, 2, none⟩ = some (.int .u8 ((rd_T40 l0_4 a1).f2.f0.f0)) := (blk_cell BK216.out 2).trans rfl
             have hcz29_3 : wr.cell? ⟨gb216, 3, none⟩ = some (.int .u8 ((rd_T40 l0_4 a1).f2.f0.f1)) := (blk_cell BK216.out 3).trans rfl
             have hcz29_4 : wr.cell? ⟨gb216, 4, none⟩ = some (.int .u8 ((rd_T40 l0_4 a1).f2.f0.f2)) := (blk_cell BK216.out 4).trans rfl
             have hcz29_5 : wr.cell? ⟨gb216, 5, none⟩ = some (.int .u8 ((rd_T40 l0_4 a1).f2.f0.f3)) := (blk_cell BK216.out 5).trans rfl
             have hcz29_6 : wr.cell? ⟨gb216, 6, none⟩ = some (.int .i64 ((rd_T40 l0_4 a1).f2.f1)) := (blk_cell BK216.out 6).trans rfl
             have hcz29_7 : wr.cell? ⟨gb216, 7, none⟩ = some (.int .i64 ((rd_T40 l0_4 a1).f3)) := (blk_cell BK216.out 7).trans rfl
             have hcz29_8 : wr.cell? ⟨gb216, 8, none⟩ = some (.int .i64 ((rd_T40 l0_4 a1).f4)) := (blk_cell BK216.out 8).trans rfl
             have hcz29_9 : wr.cell? ⟨gb216, 9, none⟩ = some (.slice A215_9 ((rd_T40 l0_4 a1).f5).length c215_9) := (blk_cell BK216.out 9).trans rfl
             have hcz29_10 : wr.cell? ⟨gb216, 10, none⟩ = some (.int .i64 ((rd_T40 l0_4 a1).f6)) := (blk_cell BK216.out 10).trans rfl
             have hcz29_11 : wr.cell? ⟨gb216, 11, none⟩ = some (.int .i64 ((rd_T40 l0_4 a1).f7)) := (blk_cell BK216.out 11).trans rfl
             have hcz29_12 : wr.cell? ⟨gb216, 12, none⟩ = some (.int .i64 ((rd_T40 l0_4 a1).f8)) := (blk_cell BK216.out 12).trans rfl
             have hcz29_13 : wr.cell? ⟨gb216, 13, none⟩ = some (.int .i64 ((rd_T40 l0_4 a1).f9)) := (blk_cell BK216.out 13).trans rfl
             have hfz29_0 := blk_frozen BK216.out 0
             have hfz29_1 := blk_frozen BK216.out 1
             have hfz29_2 := blk_frozen BK216.out 2
             have hfz29_3 := blk_frozen BK216.out 3
             have hfz29_4 := blk_frozen BK216.out 4
             have hfz29_5 := blk_frozen BK216.out 5
             have hfz29_6 := blk_frozen BK216.out 6
             have hfz29_7 := blk_frozen BK216.out 7
             have hfz29_8 := blk_frozen BK216.out 8
             have hfz29_9 := blk_frozen BK216.out 9
             have hfz29_10 := blk_frozen BK216.out 10
             have hfz29_11 := blk_frozen BK216.out 11
             have hfz29_12 := blk_frozen BK216.out 12
             have hfz29_13 := blk_frozen BK216.out 13
             have hcz30_0 : wr.cell? ⟨gb214, 0, none⟩ = some (.int .u8 a0_0) := (blk_cell BK214.out 0).trans rfl
             have hcz30_1 : wr.cell? ⟨gb214, 1, none⟩ = some (.int .u8 a0_1) := (blk_cell BK214.out 1).trans rfl
             have hcz30_2 : wr.cell? ⟨gb214, 2, none⟩ = some (.int .u8 a0_2) := (blk_cell BK214.out 2).trans rfl
             have hcz30_3 : wr.cell? ⟨gb214, 3, none⟩ = some (.int .u8 a0_3) := (blk_cell BK214.out 3).trans rfl
             have hcz30_4 : wr.cell? ⟨gb214, 4, none⟩ = some (.slice (some ad215) l0_4.length c0_4) := (blk_cell BK214.out 4).trans rfl
             have hcz30_5 : wr.cell? ⟨gb214, 5, none⟩ = some (.int .i64 a0_5) := (blk_cell BK214.out 5).trans rfl
             have hcz30_6 : wr.cell? ⟨gb214, 6, none⟩ = some (.int .i64 a0_6) := (blk_cell BK214.out 6).trans rfl
             have hcz30_7 : wr.cell? ⟨gb214, 7, none⟩ = some (.int .i64 a0_7) := (blk_cell BK214.out 7).trans rfl
             have hcz30_8 : wr.cell? ⟨gb214, 8, none⟩ = some (.bool a0_8) := (blk_cell BK214.out 8).trans rfl
             have hfz30_0 := blk_frozen BK214.out 0
             have hfz30_1 := blk_frozen BK214.out 1
             have hfz30_2 := blk_frozen BK214.out 2
             have hfz30_3 := blk_frozen BK214.out 3
             have hfz30_4 := blk_frozen BK214.out 4
             have hfz30_5 := blk_frozen BK214.out 5
             have hfz30_6 := blk_frozen BK214.out 6
             have hfz30_7 := blk_frozen BK214.out 7
             have hfz30_8 := blk_frozen BK214.out 8
             have p217 : 0 ≤ (x6_2 : Int) := of_decide_eq_true (by first | (with_reducible assumption) | assumption)
             have q217 : x6_2 < (l0_4.length : Int) := of_decide_eq_true (by first | (with_reducible assumption) | assumption)
             obtain ⟨ad217, A217_9, c217_9, e217, hx217_0, hx217_1, hx217_2, hx217_3, hx217_4, hx217_5, hx217_6, hx217_7, hx217_8, hx217_9, hx217_10, hx217_11, hx217_12, hx217_13, hl217_9, hi217_9⟩ := at_T40 HR0_4.out x6_2 p217 q217
             obtain rfl : ad215 = ad217 := (by injection e217)
             replace hx217_0 := (HB.out.cell (World.block_lt_of_cell? w _ hx217_0)).trans hx217_0
             replace hx217_1 := (HB.out.cell (World.block_lt_of_cell? w _ hx217_1)).trans hx217_1
             replace hx217_2 := (HB.out.cell (World.block_lt_of_cell? w _ hx217_2)).trans hx217_2
             replace hx217_3 := (HB.out.cell (World.block_lt_of_cell? w _ hx217_3)).trans hx217_3
             replace hx217_4 := (HB.out.cell (World.block_lt_of_cell? w _ hx217_4)).trans hx217_4
             replace hx217_5 := (HB.out.cell (World.block_lt_of_cell? w _ hx217_5)).trans hx217_5
             replace hx217_6 := (HB.out.cell (World.block_lt_of_cell? w _ hx217_6)).trans hx217_6
             replace hx217_7 := (HB.out.cell (World.block_lt_of_cell? w _ hx217_7)).trans hx217_7
             replace hx217_8 := (HB.out.cell (World.block_lt_of_cell? w _ hx217_8)).trans hx217_8
             replace hx217_9 := (HB.out.cell (World.block_lt_of_cell? w _ hx217_9)).trans hx217_9
             replace hx217_10 := (HB.out.cell (World.block_lt_of_cell? w _ hx217_10)).trans hx217_10
             replace hx217_11 := (HB.out.cell (World.block_lt_of_cell? w _ hx217_11)).trans hx217_11
             replace hx217_12 := (HB.out.cell (World.block_lt_of_cell? w _ hx217_12)).trans hx217_12
             replace hx217_13 := (HB.out.cell (World.block_lt_of_cell? w _ hx217_13)).trans hx217_13
             have HR217_9 := Aside0.mk hi217_9
             have HC217_9 := Aside0.mk hl217_9
             clear hi217_9 hl217_9
             replace p217 := eq_true p217
             replace q217 := eq_true q217
             have p218 : 0 ≤ (x6_2 : Int) := of_decide_eq_true (by first | (with_reducible assumption) | assumption)
             have q218 : x6_2 < (l0_4.length : Int) := of_decide_eq_true (by first | (with_reducible assumption) | assumption)
             obtain ⟨ad218, A218_9, c218_9, e218, hx218_0, hx218_1, hx218_2, hx218_3, hx218_4, hx218_5, hx218_6, hx218_7, hx218_8, hx218_9, hx218_10, hx218_11, hx218_12, hx218_13, hl218_9, hi218_9⟩ := at_T40 HR0_4.out x6_2 p218 q218
             obtain rfl : ad215 = ad218 := (by injection e218)
             replace hx218_0 := (HB.out.cell (World.block_lt_of_cell? w _ hx218_0)).trans hx218_0
             replace hx218_1 := (HB.out.cell (World.block_lt_of_cell? w _ hx218_1)).trans hx218_1
             replace hx218_2 := (HB.out.cell (World.block_lt_of_cell? w _ hx218_2)).trans hx218_2
             replace hx218_3 := (HB.out.cell (World.block_lt_of_cell? w _ hx218_3)).trans hx218_3
             replace hx218_4 := (HB.out.cell (World.block_lt_of_cell? w _ hx218_4)).trans hx218_4
             replace hx218_5 := (HB.out.cell (World.block_lt_of_cell? w _ hx218_5)).trans hx218_5
             replace hx218_6 := (HB.out.cell (World.block_lt_of_cell? w _ hx218_6)).trans hx218_6
             replace hx218_7 := (HB.out.cell (World.block_lt_of_cell? w _ hx218_7)).trans hx218_7
             replace hx218_8 := (HB.out.cell (World.block_lt_of_cell? w _ hx218_8)).trans hx218_8
             replace hx218_9 := (HB.out.cell (World.block_lt_of_cell? w _ hx218_9)).trans hx218_9
             replace hx218_10 := (HB.out.cell (World.block_lt_of_cell? w _ hx218_10)).trans hx218_10
             replace hx218_11 := (HB.out.cell (World.block_lt_of_cell? w _ hx218_11)).trans hx218_11
             replace hx218_12 := (HB.out.cell (World.block_lt_of_cell? w _ hx218_12)).trans hx218_12
             replace hx218_13 := (HB.out.cell (World.block_lt_of_cell? w _ hx218_13)).trans hx218_13
             have HR218_9 := Aside0.mk hi218_9
             have HC218_9 := Aside0.mk hl218_9
             clear hi218_9 hl218_9
             replace p218 := eq_true p218
             replace q218 := eq_true q218
             have ea_ := Option.some.inj (hx217_9.symm.trans hx218_9)
             injection ea_ with ea_ en_ ec_
             subst ea_
             subst ec_
             clear en_
             go_wp2
             repeat (go_quiet (fail); try go_wp2)
             go_roundg k2
             case measure => have := HJ4.out; have := HK2.out; omega
             case rel => exact ⟨(wrap64 (x6_2 + 1)), (by first | rfl | (simp; done) | (simp [*]; done)), H', ⟨by have := HJ4.out; have := HK2.out; omega⟩, ⟨by (with_reducible repeat (first | refine blk_drewN ?_ _ | refine blk_drew ?_ | refine blk_alloc ?_ _)); exact BK214.out⟩, ⟨by (with_reducible repeat (first | refine blk_drewN ?_ _ | refine blk_drew ?_ | refine blk_alloc ?_ _)); exact BK216.out⟩, ⟨by repeat (first | (with_reducible first | exact HB.out | apply below_alloc | apply pw_below_drewN | apply below_drew1 | refine below_set ?_ GE214.out | refine below_set ?_ GE216.out) | exact HB.out)⟩⟩
           ·
            rw [if_neg c23] at H
            have c23b0 : decide (((rd_T40 l0_4 a1).f3) ≤ ((rd_T40 l0_4 x6_2).f4)) = false := decide_eq_false c23
            clear c23
            have H' := Aside0.mk H
            clear H
            have hnb31 := NB216_214.out
            have hnc31 := NB214_216.out
            have hcz32_0 : wr.cell? ⟨gb216, 0, none⟩ = some (.string ((rd_T40 l0_4 a1).f0)) := (blk_cell BK216.out 0).trans rfl
            have hcz32_1 : wr.cell? ⟨gb216, 1, none⟩ = some (.string ((rd_T40 l0_4 a1).f1)) := (blk_cell BK216.out 1).trans rfl
            have hcz32_2 : wr.cell? ⟨gb216, 2, none⟩ = some (.int .u8 ((rd_T40 l0_4 a1).f2.f0.f0)) := (blk_cell BK216.out 2).trans rfl
            have hcz32_3 : wr.cell? ⟨gb216, 3, none⟩ = some (.int .u8 ((rd_T40 l0_4 a1).f2.f0.f1)) := (blk_cell BK216.out 3).trans rfl
            have hcz32_4 : wr.cell? ⟨gb216, 4, none⟩ = some (.int .u8 ((rd_T40 l0_4 a1).f2.f0.f2)) := (blk_cell BK216.out 4).trans rfl
            have hcz32_5 : wr.cell? ⟨gb216, 5, none⟩ = some (.int .u8 ((rd_T40 l0_4 a1).f2.f0.f3)) := (blk_cell BK216.out 5).trans rfl
            have hcz32_6 : wr.cell? ⟨gb216, 6, none⟩ = some (.int .i64 ((rd_T40 l0_4 a1).f2.f1)) := (blk_cell BK216.out 6).trans rfl
            have hcz32_7 : wr.cell? ⟨gb216, 7, none⟩ = some (.int .i64 ((rd_T40 l0_4 a1).f3)) := (blk_cell BK216.out 7).trans rfl
            have hcz32_8 : wr.cell? ⟨gb216, 8, none⟩ = some (.int .i64 ((rd_T40 l0_4 a1).f4)) := (blk_cell BK216.out 8).trans rfl
            have hcz32_9 : wr.cell? ⟨gb216, 9, none⟩ = some (.slice A215_9 ((rd_T40 l0_4 a1).f5).length c215_9) := (blk_cell BK216.out 9).trans rfl
            have hcz32_10 : wr.cell? ⟨gb216, 10, none⟩ = some (.int .i64 ((rd_T40 l0_4 a1).f6)) := (blk_cell BK216.out 10).trans rfl
            have hcz32_11 : wr.cell? ⟨gb216, 11, none⟩ = some (.int .i64 ((rd_T40 l0_4 a1).f7)) := (blk_cell BK216.out 11).trans rfl
            have hcz32_12 : wr.cell? ⟨gb216, 12, none⟩ = some (.int .i64 ((rd_T40 l0_4 a1).f8)) := (blk_cell BK216.out 12).trans rfl
            have hcz32_13 : wr.cell? ⟨gb216, 13, none⟩ = some (.int .i64 ((rd_T40 l0_4 a1).f9)) := (blk_cell BK216.out 13).trans rfl
            have hfz32_0 := blk_frozen BK216.out 0
            have hfz32_1 := blk_frozen BK216.out 1
            have hfz32_2 := blk_frozen BK216.out 2
            have hfz32_3 := blk_frozen BK216.out 3
            have hfz32_4 := blk_frozen BK216.out 4
            have hfz32_5 := blk_frozen BK216.out 5
            have hfz32_6 := blk_frozen BK216.out 6
            have hfz32_7 := blk_frozen BK216.out 7
            have hfz32_8 := blk_frozen BK216.out 8
            have hfz32_9 := blk_frozen BK216.out 9
            have hfz32_10 := blk_frozen BK216.out 10
            have hfz32_11 := blk_frozen BK216.out 11
            have hfz32_12 := blk_frozen BK216.out 12
            have hfz32_13 := blk_frozen BK216.out 13
            have hcz33_0 : wr.cell? ⟨gb214, 0, none⟩ = some (.int .u8 a0_0) := (blk_cell BK214.out 0).trans rfl
            have hcz33_1 : wr.cell? ⟨gb214, 1, none⟩ = some (.int .u8 a0_1) := (blk_cell BK214.out 1).trans rfl
            have hcz33_2 : wr.cell? ⟨gb214, 2, none⟩ = some (.int .u8 a0_2) := (blk_cell BK214.out 2).trans rfl
            have hcz33_3 : wr.cell? ⟨gb214, 3, none⟩ = some (.int .u8 a0_3) := (blk_cell BK214.out 3).trans rfl
            have hcz33_4 : wr.cell? ⟨gb214, 4, none⟩ = some (.slice (some ad215) l0_4.length c0_4) := (blk_cell BK214.out 4).trans rfl
            have hcz33_5 : wr.cell? ⟨gb214, 5, none⟩ = some (.int .i64 a0_5) := (blk_cell BK214.out 5).trans rfl
            have hcz33_6 : wr.cell? ⟨gb214, 6, none⟩ = some (.int .i64 a0_6) := (blk_cell BK214.out 6).trans rfl
            have hcz33_7 : wr.cell? ⟨gb214, 7, none⟩ = some (.int .i64 a0_7) := (blk_cell BK214.out 7).trans rfl
            have hcz33_8 : wr.cell? ⟨gb214, 8, none⟩ = some (.bool a0_8) := (blk_cell BK214.out 8).trans rfl
            have hfz33_0 := blk_frozen BK214.out 0
            have hfz33_1 := blk_frozen BK214.out 1
            have hfz33_2 := blk_frozen BK214.out 2
            have hfz33_3 := blk_frozen BK214.out 3
            have hfz33_4 := blk_frozen BK214.out 4
            have hfz33_5 := blk_frozen BK214.out 5
            have hfz33_6 := blk_frozen BK214.out 6
            have hfz33_7 := blk_frozen BK214.out 7
            have hfz33_8 := blk_frozen BK214.out 8
            have p217 : 0 ≤ (x6_2 : Int) := of_decide_eq_true (by first | (with_reducible assumption) | assumption)
            have q217 : x6_2 < (l0_4.length : Int) := of_decide_eq_true (by first | (with_reducible assumption) | assumption)
            obtain ⟨ad217, A217_9, c217_9, e217, hx217_0, hx217_1, hx217_2, hx217_3, hx217_4, hx217_5, hx217_6, hx217_7, hx217_8, hx217_9, hx217_10, hx217_11, hx217_12, hx217_13, hl217_9, hi217_9⟩ := at_T40 HR0_4.out x6_2 p217 q217
            obtain rfl : ad215 = ad217 := (by injection e217)
            replace hx217_0 := (HB.out.cell (World.block_lt_of_cell? w _ hx217_0)).trans hx217_0
            replace hx217_1 := (HB.out.cell (World.block_lt_of_cell? w _ hx217_1)).trans hx217_1
            replace hx217_2 := (HB.out.cell (World.block_lt_of_cell? w _ hx217_2)).trans hx217_2
            replace hx217_3 := (HB.out.cell (World.block_lt_of_cell? w _ hx217_3)).trans hx217_3
            replace hx217_4 := (HB.out.cell (World.block_lt_of_cell? w _ hx217_4)).trans hx217_4
            replace hx217_5 := (HB.out.cell (World.block_lt_of_cell? w _ hx217_5)).trans hx217_5
            replace hx217_6 := (HB.out.cell (World.block_lt_of_cell? w _ hx217_6)).trans hx217_6
            replace hx217_7 := (HB.out.cell (World.block_lt_of_cell? w _ hx217_7)).trans hx217_7
            replace hx217_8 := (HB.out.cell (World.block_lt_of_cell? w _ hx217_8)).trans hx217_8
            replace hx217_9 := (HB.out.cell (World.block_lt_of_cell? w _ hx217_9)).trans hx217_9
            replace hx217_10 := (HB.out.cell (World.block_lt_of_cell? w _ hx217_10)).trans hx217_10
            replace hx217_11 := (HB.out.cell (World.block_lt_of_cell? w _ hx217_11)).trans hx217_11
            replace hx217_12 := (HB.out.cell (World.block_lt_of_cell? w _ hx217_12)).trans hx217_12
            replace hx217_13 := (HB.out.cell (World.block_lt_of_cell? w _ hx217_13)).trans hx217_13
            have HR217_9 := Aside0.mk hi217_9
            have HC217_9 := Aside0.mk hl217_9
            clear hi217_9 hl217_9
            replace p217 := eq_true p217
            replace q217 := eq_true q217
            go_wp2
            repeat (go_quiet (fail); try go_wp2)
            go_roundg k2
            case measure => have := HJ4.out; have := HK2.out; omega
            case rel => exact ⟨(wrap64 (x6_2 + 1)), (by first | rfl | (simp; done) | (simp [*]; done)), H', ⟨by have := HJ4.out; have := HK2.out; omega⟩, ⟨by (with_reducible repeat (first | refine blk_drewN ?_ _ | refine blk_drew ?_ | refine blk_alloc ?_ _)); exact BK214.out⟩, ⟨by (with_reducible repeat (first | refine blk_drewN ?_ _ | refine blk_drew ?_ | refine blk_alloc ?_ _)); exact BK216.out⟩, ⟨by repeat (first | (with_reducible first | exact HB.out | apply below_alloc | apply pw_below_drewN | apply below_drew1 | refine below_set ?_ GE214.out | refine below_set ?_ GE216.out) | exact HB.out)⟩⟩
          ·
           rw [if_neg c22] at H
           exact absurd H (by simp)
         ·
          rw [if_neg c21] at H
          exact absurd H (by simp)
        ·
         rw [if_neg c20] at H
         have c20b0 : decide (x6_2 < a1) = false := decide_eq_false c20
         clear c20
         obtain rfl := Option.some.inj H
         go_wp2
         repeat (go_quiet (fail); try go_wp2)
         go_ret
         exact ⟨by first | rfl | (simp [errW_none, errW_some] <;> rfl) | (simp [*, errW_none, errW_some] <;> rfl), by repeat (first | (with_reducible first | exact HB.out | apply below_alloc | apply pw_below_drewN | apply below_drew1 | refine below_set ?_ GE214.out | refine below_set ?_ GE216.out) | exact HB.out)⟩
  ·
   rw [if_neg c4] at H
   exact absurd H (by simp)
 ·
  rw [if_neg c3] at H
  exact absurd H (by simp)

end Go.Proofs.YtajaedebndeajaaDoor.Q

namespace Go.Proofs.YtajaedebndeajaaDoor.Q
open Go.RowKit Go.Proofs.YtajaedebndeajaaDoor.AclMet Go.Proofs.YtajaedebndeajaaDoorW.PrintWords Go.Proofs.YtajaedebndeajaaDoorW.PrintLast Go.Proofs.YtajaedebndeajaaDoorW.PrintMore
attribute [local go_sem] max2_int min2_int max_two min_two max_three min_three max_four min_four   -- for this text's walks alone
set_option linter.unusedVariables false
set_option linter.unusedSimpArgs false

/-! ### wharfingerref01_May: function 34 -/
def wharfingerref01_May.f (a0 : Int) : Option (Bool) := if a0 ≥ 0 then (some (decide (a0 ≤ 1099511627776))) else (some false)
set_option maxHeartbeats 8000000 in
set_option maxRecDepth 100000 in
theorem wharfingerref01_May.calls (a0 : Int) (r : Bool) (w : World) (h : wharfingerref01_May.f a0 = some r) :
  Calls Tryd.prog 34 #[.int .i64 a0] w fun e w' => e = .returned (.bool r) ∧ Drawn0 w w' := by
 have H : (if a0 ≥ 0 then (some (decide (a0 ≤ 1099511627776))) else (some false)) = some r := h
 clear h
 by_cases c2 : a0 ≥ 0
 ·
  rw [if_pos c2] at H
  have c2b0 : decide (0 ≤ a0) = true := decide_eq_true c2
  clear c2
  obtain rfl := Option.some.inj H
  go_enter Tryd.func34, Tryd.ntmps34
  go_wp2
  go_ret
  exact ⟨by first | rfl | (simp; done) | (simp [*]; done), by repeat (first | exact Drawn0.refl _ | apply Drawn0.step)⟩
 ·
  rw [if_neg c2] at H
  have c2b0 : decide (0 ≤ a0) = false := decide_eq_false c2
  clear c2
  obtain rfl := Option.some.inj H
  go_enter Tryd.func34, Tryd.ntmps34
  go_wp2
  go_ret
  exact ⟨by first | rfl | (simp; done) | (simp [*]; done), by repeat (first | exact Drawn0.refl _ | apply Drawn0.step)⟩

end Go.Proofs.YtajaedebndeajaaDoor.Q

namespace Go.Proofs.YtajaedebndeajaaDoor.Q
open Go.RowKit Go.Proofs.YtajaedebndeajaaDoor.AclMet Go.Proofs.YtajaedebndeajaaDoorW.PrintWords Go.Proofs.YtajaedebndeajaaDoorW.PrintLast Go.Proofs.YtajaedebndeajaaDoorW.PrintMore
attribute [local go_sem] max2_int min2_int max_two min_two max_three min_three max_four min_four   -- for this text's walks alone
set_option linter.unusedVariables false
set_option linter.unusedSimpArgs false

/-! ### wharfingerref12_Name: function 32 -/
def wharfingerref12_Name.l0 : Nat → ByteArray → Int → Option (Bool)
 | 0, _, _ => none
 | k + 1, x0, x3 => if x3 < (x0.size : Int) then (if 0 ≤ x3 then (if (bt x0 x3) ≥ 97 then (if (bt x0 x3) ≤ 122 then (wharfingerref12_Name.l0 k x0 (wrap64 (x3 + 1))) else (if (bt x0 x3) ≥ 48 then (if (bt x0 x3) ≤ 57 then (wharfingerref12_Name.l0 k x0 (wrap64 (x3 + 1))) else (if (bt x0 x3) = 46 then (wharfingerref12_Name.l0 k x0 (wrap64 (x3 + 1))) else (if ((bt x0 x3) = 45) then (wharfingerref12_Name.l0 k x0 (wrap64 (x3 + 1))) else (some false)))) else (if (bt x0 x3) = 46 then (wharfingerref12_Name.l0 k x0 (wrap64 (x3 + 1))) else (if ((bt x0 x3) = 45) then (wharfingerref12_Name.l0 k x0 (wrap64 (x3 + 1))) else (some false))))) else (if (bt x0 x3) ≥ 48 then (if (bt x0 x3) ≤ 57 then (wharfingerref12_Name.l0 k x0 (wrap64 (x3 + 1))) else (if (bt x0 x3) = 46 then (wharfingerref12_Name.l0 k x0 (wrap64 (x3 + 1))) else (if ((bt x0 x3) = 45) then (wharfingerref12_Name.l0 k x0 (wrap64 (x3 + 1))) else (some false)))) else (if (bt x0 x3) = 46 then (wharfingerref12_Name.l0 k x0 (wrap64 (x3 + 1))) else (if ((bt x0 x3) = 45) then (wharfingerref12_Name.l0 k x0 (wrap64 (x3 + 1))) else (some false))))) else (none)) else (if (x0.size : Int) ≥ 1 then (some (decide ((x0.size : Int) ≤ 60))) else (some false))
def wharfingerref12_Name.f (k : Nat) (a0 : ByteArray) : Option (Bool) := wharfingerref12_Name.l0 k a0 0
theorem wharfingerref12_Name.mono_l : ∀ k, (∀ y0 y1, LeO (wharfingerref12_Name.l0 k y0 y1) (wharfingerref12_Name.l0 (k + 1) y0 y1))
 | 0 => fun _ _ r h => by simp [wharfingerref12_Name.l0] at h
 | k + 1 => by
  have ih0 := wharfingerref12_Name.mono_l k
  ·
   intro y0 y1
   unfold wharfingerref12_Name.l0
   repeat' first
   | (with_reducible exact ih0 _ _)
   | (with_reducible exact LeO.refl _)
   | (with_reducible exact LeO.none _)
   | (with_reducible refine LeO.ite ?_ ?_)
   | (with_reducible refine LeO.bind ?_ (fun _ => ?_))
   | exact ih0 _ _
   | exact LeO.none _
   | refine LeO.ite ?_ ?_
   | refine LeO.bind ?_ (fun _ => ?_)
theorem wharfingerref12_Name.mono : ∀ a0 k, LeO (wharfingerref12_Name.f k a0) (wharfingerref12_Name.f (k + 1) a0) := by
 intro a0 k
 have ih0 := wharfingerref12_Name.mono_l k
 unfold wharfingerref12_Name.f
 repeat' first
   | (with_reducible exact ih0 _ _)
   | (with_reducible exact LeO.refl _)
   | (with_reducible exact LeO.none _)
   | (with_reducible refine LeO.ite ?_ ?_)
   | (with_reducible refine LeO.bind ?_ (fun _ => ?_))
   | exact ih0 _ _
   | exact LeO.none _
   | refine LeO.ite ?_ ?_
   | refine LeO.bind ?_ (fun _ => ?_)
set_option maxHeartbeats 8000000 in
set_option maxRecDepth 100000 in
theorem wharfingerref12_Name.calls (k : Nat) (a0 : ByteArray) (r : Bool) (w : World) (h : wharfingerref12_Name.f k a0 = some r) :
  Calls Tryd.prog 32 #[.string a0] w fun e w' => e = .returned (.bool r) ∧ Drawn0 w w' := by
 have H : (wharfingerref12_Name.l0 k a0 0) = some r := h
 clear h
 have H' := Aside0.mk H
 clear H
 go_enter Tryd.func32, Tryd.ntmps32
 go_wp2
 go_loopg [3] k (fun kq v3 w' => ∃ (x3_1 : Int), v3 = .int .i64 x3_1 ∧ Aside0 (wharfingerref12_Name.l0 kq a0 x3_1 = some r) ∧ Aside0 (kq ≤ k) ∧ Drawn0 w w')
 case atStart => exact ⟨(0), (by first | rfl | (simp; done) | (simp [*]; done)), H', ⟨Nat.le_refl _⟩, by repeat (first | exact Drawn0.refl _ | apply Drawn0.step)⟩
 case round =>
  clear H'
  obtain ⟨x3_1, rfl, HA, HK1, ⟨m1, rfl⟩⟩ := hrel
  cases gk with
  | zero => exact absurd HA.out (by simp [wharfingerref12_Name.l0])
  | succ k1 =>
   have H := HA.out
   clear HA
   simp only [wharfingerref12_Name.l0] at H
   by_cases c2 : x3_1 < (a0.size : Int)
   ·
    rw [if_pos c2] at H
    have c2b0 : decide (x3_1 < (a0.size : Int)) = true := decide_eq_true c2
    clear c2
    by_cases c3 : 0 ≤ x3_1
    ·
     rw [if_pos c3] at H
     have c3b0 : decide (0 ≤ x3_1) = true := decide_eq_true c3
     clear c3
     by_cases c5 : (bt a0 x3_1) ≥ 97
     ·
      rw [if_pos c5] at H
      have c5b0 : decide (97 ≤ (bt a0 x3_1)) = true := decide_eq_true c5
      clear c5
      by_cases c6 : (bt a0 x3_1) ≤ 122
      ·
       rw [if_pos c6] at H
       have c6b0 : decide ((bt a0 x3_1) ≤ 122) = true := decide_eq_true c6
       clear c6
       have H' := Aside0.mk H
       clear H
       have p4 : 0 ≤ (x3_1 : Int) := of_decide_eq_true (by first | (with_reducible assumption) | assumption)
       have q4 : x3_1 < (a0.size : Int) := of_decide_eq_true (by first | (with_reducible assumption) | assumption)
       have hx4 := bt_at a0 x3_1
       replace p4 := eq_true p4
       replace q4 := eq_true q4
       go_wp2
       go_roundg k1
       case measure => have := HK1.out; omega
       case rel => exact ⟨(wrap64 (x3_1 + 1)), (by first | rfl | (simp; done) | (simp [*]; done)), H', ⟨by have := HK1.out; omega⟩, by repeat (first | exact Drawn0.refl _ | apply Drawn0.step)⟩
      ·
       rw [if_neg c6] at H
       have c6b0 : decide ((bt a0 x3_1) ≤ 122) = false := decide_eq_false c6
       clear c6
       by_cases c7 : (bt a0 x3_1) ≥ 48
       ·
        rw [if_pos c7] at H
        have c7b0 : decide (48 ≤ (bt a0 x3_1)) = true := decide_eq_true c7
        clear c7
        by_cases c8 : (bt a0 x3_1) ≤ 57
        ·
         rw [if_pos c8] at H
         have c8b0 : decide ((bt a0 x3_1) ≤ 57) = true := decide_eq_true c8
         clear c8
         have H' := Aside0.mk H
         clear H
         have p4 : 0 ≤ (x3_1 : Int) := of_decide_eq_true (by first | (with_reducible assumption) | assumption)
         have q4 : x3_1 < (a0.size : Int) := of_decide_eq_true (by first | (with_reducible assumption) | assumption)
         have hx4 := bt_at a0 x3_1
         replace p4 := eq_true p4
         replace q4 := eq_true q4
         go_wp2
         go_roundg k1
         case measure => have := HK1.out; omega
         case rel => exact ⟨(wrap64 (x3_1 + 1)), (by first | rfl | (simp; done) | (simp [*]; done)), H', ⟨by have := HK1.out; omega⟩, by repeat (first | exact Drawn0.refl _ | apply Drawn0.step)⟩
        ·
         rw [if_neg c8] at H
         have c8b0 : decide ((bt a0 x3_1) ≤ 57) = false := decide_eq_false c8
         clear c8
         by_cases c9 : (bt a0 x3_1) = 46
         ·
          rw [if_pos c9] at H
          have c9b0 : ((bt a0 x3_1) == 46) = true := beq_iff_eq.mpr c9
          have c9b1 : ((bt a0 x3_1) != 46) = false := bne_eq_false_iff_eq.mpr c9
          clear c9
          have H' := Aside0.mk H
          clear H
          have p4 : 0 ≤ (x3_1 : Int) := of_decide_eq_true (by first | (with_reducible assumption) | assumption)
          have q4 : x3_1 < (a0.size : Int) := of_decide_eq_true (by first | (with_reducible assumption) | assumption)
          have hx4 := bt_at a0 x3_1
          replace p4 := eq_true p4
          replace q4 := eq_true q4
          go_wp2
          go_roundg k1
          case measure => have := HK1.out; omega
          case rel => exact ⟨(wrap64 (x3_1 + 1)), (by first | rfl | (simp; done) | (simp [*]; done)), H', ⟨by have := HK1.out; omega⟩, by repeat (first | exact Drawn0.refl _ | apply Drawn0.step)⟩
         ·
          rw [if_neg c9] at H
          have c9b0 : ((bt a0 x3_1) == 46) = false := beq_eq_false_iff_ne.mpr c9
          have c9b1 : ((bt a0 x3_1) != 46) = true := bne_iff_ne.mpr c9
          by_cases c10 : ((bt a0 x3_1) = 45)
          ·
           rw [if_pos c10] at H
           have c10b0 : ((bt a0 x3_1) == 45) = true := beq_iff_eq.mpr c10
           have c10b1 : ((bt a0 x3_1) != 45) = false := bne_eq_false_iff_eq.mpr c10
           clear c10
           have H' := Aside0.mk H
           clear H
           have p4 : 0 ≤ (x3_1 : Int) := of_decide_eq_true (by first | (with_reducible assumption) | assumption)
           have q4 : x3_1 < (a0.size : Int) := of_decide_eq_true (by first | (with_reducible assumption) | assumption)
           have hx4 := bt_at a0 x3_1
           replace p4 := eq_true p4
           replace q4 := eq_true q4
           go_wp2
           go_roundg k1
           case measure => have := HK1.out; omega
           case rel => exact ⟨(wrap64 (x3_1 + 1)), (by first | rfl | (simp; done) | (simp [*]; done)), H', ⟨by have := HK1.out; omega⟩, by repeat (first | exact Drawn0.refl _ | apply Drawn0.step)⟩
          ·
           rw [if_neg c10] at H
           have c10b0 : ((bt a0 x3_1) == 45) = false := beq_eq_false_iff_ne.mpr c10
           have c10b1 : ((bt a0 x3_1) != 45) = true := bne_iff_ne.mpr c10
           obtain rfl := Option.some.inj H
           have p4 : 0 ≤ (x3_1 : Int) := of_decide_eq_true (by first | (with_reducible assumption) | assumption)
           have q4 : x3_1 < (a0.size : Int) := of_decide_eq_true (by first | (with_reducible assumption) | assumption)
           have hx4 := bt_at a0 x3_1
           replace p4 := eq_true p4
           replace q4 := eq_true q4
           go_wp2
           go_ret
           exact ⟨by first | rfl | (simp; done) | (simp [*]; done), by repeat (first | exact Drawn0.refl _ | apply Drawn0.step)⟩
       ·
        rw [if_neg c7] at H
        have c7b0 : decide (48 ≤ (bt a0 x3_1)) = false := decide_eq_false c7
        clear c7
        by_cases c11 : (bt a0 x3_1) = 46
        ·
         rw [if_pos c11] at H
         have c11b0 : ((bt a0 x3_1) == 46) = true := beq_iff_eq.mpr c11
         have c11b1 : ((bt a0 x3_1) != 46) = false := bne_eq_false_iff_eq.mpr c11
         clear c11
         have H' := Aside0.mk H
         clear H
         have p4 : 0 ≤ (x3_1 : Int) := of_decide_eq_true (by first | (with_reducible assumption) | assumption)
         have q4 : x3_1 < (a0.size : Int) := of_decide_eq_true (by first | (with_reducible assumption) | assumption)
         have hx4 := bt_at a0 x3_1
         replace p4 := eq_true p4
         replace q4 := eq_true q4
         go_wp2
         go_roundg k1
         case measure => have := HK1.out; omega
         case rel => exact ⟨(wrap64 (x3_1 + 1)), (by first | rfl | (simp; done) | (simp [*]; done)), H', ⟨by have := HK1.out; omega⟩, by repeat (first | exact Drawn0.refl _ | apply Drawn0.step)⟩
        ·
         rw [if_neg c11] at H
         have c11b0 : ((bt a0 x3_1) == 46) = false := beq_eq_false_iff_ne.mpr c11
         have c11b1 : ((bt a0 x3_1) != 46) = true := bne_iff_ne.mpr c11
         by_cases c12 : ((bt a0 x3_1) = 45)
         ·
          rw [if_pos c12] at H
          have c12b0 : ((bt a0 x3_1) == 45) = true := beq_iff_eq.mpr c12
          have c12b1 : ((bt a0 x3_1) != 45) = false := bne_eq_false_iff_eq.mpr c12
          clear c12
          have H' := Aside0.mk H
          clear H
          have p4 : 0 ≤ (x3_1 : Int) := of_decide_eq_true (by first | (with_reducible assumption) | assumption)
          have q4 : x3_1 < (a0.size : Int) := of_decide_eq_true (by first | (with_reducible assumption) | assumption)
          have hx4 := bt_at a0 x3_1
          replace p4 := eq_true p4
          replace q4 := eq_true q4
          go_wp2
          go_roundg k1
          case measure => have := HK1.out; omega
          case rel => exact ⟨(wrap64 (x3_1 + 1)), (by first | rfl | (simp; done) | (simp [*]; done)), H', ⟨by have := HK1.out; omega⟩, by repeat (first | exact Drawn0.refl _ | apply Drawn0.step)⟩
         ·
          rw [if_neg c12] at H
          have c12b0 : ((bt a0 x3_1) == 45) = false := beq_eq_false_iff_ne.mpr c12
          have c12b1 : ((bt a0 x3_1) != 45) = true := bne_iff_ne.mpr c12
          obtain rfl := Option.some.inj H
          have p4 : 0 ≤ (x3_1 : Int) := of_decide_eq_true (by first | (with_reducible assumption) | assumption)
          have q4 : x3_1 < (a0.size : Int) := of_decide_eq_true (by first | (with_reducible assumption) | assumption)
          have hx4 := bt_at a0 x3_1
          replace p4 := eq_true p4
          replace q4 := eq_true q4
          go_wp2
          go_ret
          exact ⟨by first | rfl | (simp; done) | (simp [*]; done), by repeat (first | exact Drawn0.refl _ | apply Drawn0.step)⟩
     ·
      rw [if_neg c5] at H
      have c5b0 : decide (97 ≤ (bt a0 x3_1)) = false := decide_eq_false c5
      clear c5
      by_cases c13 : (bt a0 x3_1) ≥ 48
      ·
       rw [if_pos c13] at H
       have c13b0 : decide (48 ≤ (bt a0 x3_1)) = true := decide_eq_true c13
       clear c13
       by_cases c14 : (bt a0 x3_1) ≤ 57
       ·
        rw [if_pos c14] at H
        have c14b0 : decide ((bt a0 x3_1) ≤ 57) = true := decide_eq_true c14
        clear c14
        have H' := Aside0.mk H
        clear H
        have p4 : 0 ≤ (x3_1 : Int) := of_decide_eq_true (by first | (with_reducible assumption) | assumption)
        have q4 : x3_1 < (a0.size : Int) := of_decide_eq_true (by first | (with_reducible assumption) | assumption)
        have hx4 := bt_at a0 x3_1
        replace p4 := eq_true p4
        replace q4 := eq_true q4
        go_wp2
        go_roundg k1
        case measure => have := HK1.out; omega
        case rel => exact ⟨(wrap64 (x3_1 + 1)), (by first | rfl | (simp; done) | (simp [*]; done)), H', ⟨by have := HK1.out; omega⟩, by repeat (first | exact Drawn0.refl _ | apply Drawn0.step)⟩
       ·
        rw [if_neg c14] at H
        have c14b0 : decide ((bt a0 x3_1) ≤ 57) = false := decide_eq_false c14
        clear c14
        by_cases c15 : (bt a0 x3_1) = 46
        ·
         rw [if_pos c15] at H
         have c15b0 : ((bt a0 x3_1) == 46) = true := beq_iff_eq.mpr c15
         have c15b1 : ((bt a0 x3_1) != 46) = false := bne_eq_false_iff_eq.mpr c15
         clear c15
         have H' := Aside0.mk H
         clear H
         have p4 : 0 ≤ (x3_1 : Int) := of_decide_eq_true (by first | (with_reducible assumption) | assumption)
         have q4 : x3_1 < (a0.size : Int) := of_decide_eq_true (by first | (with_reducible assumption) | assumption)
         have hx4 := bt_at a0 x3_1
         replace p4 := eq_true p4
         replace q4 := eq_true q4
         go_wp2
         go_roundg k1
         case measure => have := HK1.out; omega
         case rel => exact ⟨(wrap64 (x3_1 + 1)), (by first | rfl | (simp; done) | (simp [*]; done)), H', ⟨by have := HK1.out; omega⟩, by repeat (first | exact Drawn0.refl _ | apply Drawn0.step)⟩
        ·
         rw [if_neg c15] at H
         have c15b0 : ((bt a0 x3_1) == 46) = false := beq_eq_false_iff_ne.mpr c15
         have c15b1 : ((bt a0 x3_1) != 46) = true := bne_iff_ne.mpr c15
         by_cases c16 : ((bt a0 x3_1) = 45)
         ·
          rw [if_pos c16] at H
          have c16b0 : ((bt a0 x3_1) == 45) = true := beq_iff_eq.mpr c16
          have c16b1 : ((bt a0 x3_1) != 45) = false := bne_eq_false_iff_eq.mpr c16
          clear c16
          have H' := Aside0.mk H
          clear H
          have p4 : 0 ≤ (x3_1 : Int) := of_decide_eq_true (by first | (with_reducible assumption) | assumption)
          have q4 : x3_1 < (a0.size : Int) := of_decide_eq_true (by first | (with_reducible assumption) | assumption)
          have hx4 := bt_at a0 x3_1
          replace p4 := eq_true p4
          replace q4 := eq_true q4
          go_wp2
          go_roundg k1
          case measure => have := HK1.out; omega
          case rel => exact ⟨(wrap64 (x3_1 + 1)), (by first | rfl | (simp; done) | (simp [*]; done)), H', ⟨by have := HK1.out; omega⟩, by repeat (first | exact Drawn0.refl _ | apply Drawn0.step)⟩
         ·
          rw [if_neg c16] at H
          have c16b0 : ((bt a0 x3_1) == 45) = false := beq_eq_false_iff_ne.mpr c16
          have c16b1 : ((bt a0 x3_1) != 45) = true := bne_iff_ne.mpr c16
          obtain rfl := Option.some.inj H
          have p4 : 0 ≤ (x3_1 : Int) := of_decide_eq_true (by first | (with_reducible assumption) | assumption)
          have q4 : x3_1 < (a0.size : Int) := of_decide_eq_true (by first | (with_reducible assumption) | assumption)
          have hx4 := bt_at a0 x3_1
          replace p4 := eq_true p4
          replace q4 := eq_true q4
          go_wp2
          go_ret
          exact ⟨by first | rfl | (simp; done) | (simp [*]; done), by repeat (first | exact Drawn0.refl _ | apply Drawn0.step)⟩
      ·
       rw [if_neg c13] at H
       have c13b0 : decide (48 ≤ (bt a0 x3_1)) = false := decide_eq_false c13
       clear c13
       by_cases c17 : (bt a0 x3_1) = 46
       ·
        rw [if_pos c17] at H
        have c17b0 : ((bt a0 x3_1) == 46) = true := beq_iff_eq.mpr c17
        have c17b1 : ((bt a0 x3_1) != 46) = false := bne_eq_false_iff_eq.mpr c17
        clear c17
        have H' := Aside0.mk H
        clear H
        have p4 : 0 ≤ (x3_1 : Int) := of_decide_eq_true (by first | (with_reducible assumption) | assumption)
        have q4 : x3_1 < (a0.size : Int) := of_decide_eq_true (by first | (with_reducible assumption) | assumption)
        have hx4 := bt_at a0 x3_1
        replace p4 := eq_true p4
        replace q4 := eq_true q4
        go_wp2
        go_roundg k1
        case measure => have := HK1.out; omega
        case rel => exact ⟨(wrap64 (x3_1 + 1)), (by first | rfl | (simp; done) | (simp [*]; done)), H', ⟨by have := HK1.out; omega⟩, by repeat (first | exact Drawn0.refl _ | apply Drawn0.step)⟩
       ·
        rw [if_neg c17] at H
        have c17b0 : ((bt a0 x3_1) == 46) = false := beq_eq_false_iff_ne.mpr c17
        have c17b1 : ((bt a0 x3_1) != 46) = true := bne_iff_ne.mpr c17
        by_cases c18 : ((bt a0 x3_1) = 45)
        ·
         rw [if_pos c18] at H
         have c18b0 : ((bt a0 x3_1) == 45) = true := beq_iff_eq.mpr c18
         have c18b1 : ((bt a0 x3_1) != 45) = false := bne_eq_false_iff_eq.mpr c18
         clear c18
         have H' := Aside0.mk H
         clear H
         have p4 : 0 ≤ (x3_1 : Int) := of_decide_eq_true (by first | (with_reducible assumption) | assumption)
         have q4 : x3_1 < (a0.size : Int) := of_decide_eq_true (by first | (with_reducible assumption) | assumption)
         have hx4 := bt_at a0 x3_1
         replace p4 := eq_true p4
         replace q4 := eq_true q4
         go_wp2
         go_roundg k1
         case measure => have := HK1.out; omega
         case rel => exact ⟨(wrap64 (x3_1 + 1)), (by first | rfl | (simp; done) | (simp [*]; done)), H', ⟨by have := HK1.out; omega⟩, by repeat (first | exact Drawn0.refl _ | apply Drawn0.step)⟩
        ·
         rw [if_neg c18] at H
         have c18b0 : ((bt a0 x3_1) == 45) = false := beq_eq_false_iff_ne.mpr c18
         have c18b1 : ((bt a0 x3_1) != 45) = true := bne_iff_ne.mpr c18
         obtain rfl := Option.some.inj H
         have p4 : 0 ≤ (x3_1 : Int) := of_decide_eq_true (by first | (with_reducible assumption) | assumption)
         have q4 : x3_1 < (a0.size : Int) := of_decide_eq_true (by first | (with_reducible assumption) | assumption)
         have hx4 := bt_at a0 x3_1
         replace p4 := eq_true p4
         replace q4 := eq_true q4
         go_wp2
         go_ret
         exact ⟨by first | rfl | (simp; done) | (simp [*]; done), by repeat (first | exact Drawn0.refl _ | apply Drawn0.step)⟩
    ·
     rw [if_neg c3] at H
     exact absurd H (by simp)
   ·
    rw [if_neg c2] at H
    have c2b0 : decide (x3_1 < (a0.size : Int)) = false := decide_eq_false c2
    clear c2
    by_cases c19 : (a0.size : Int) ≥ 1
    ·
     rw [if_pos c19] at H
     have c19b0 : decide (1 ≤ (a0.size : Int)) = true := decide_eq_true c19
     have c19b1 : decide (1 ≤ a0.size) = true := decide_eq_true (by omega)
     clear c19
     obtain rfl := Option.some.inj H
     go_wp2
     go_ret
     exact ⟨by first | rfl | (simp; done) | (simp [*]; done), by repeat (first | exact Drawn0.refl _ | apply Drawn0.step)⟩
    ·
     rw [if_neg c19] at H
     have c19b0 : decide (1 ≤ (a0.size : Int)) = false := decide_eq_false c19
     have c19b1 : decide (1 ≤ a0.size) = false := decide_eq_false (by omega)
     clear c19
     obtain rfl := Option.some.inj H
     go_wp2
     go_ret
     exact ⟨by first | rfl | (simp; done) | (simp [*]; done), by repeat (first | exact Drawn0.refl _ | apply Drawn0.step)⟩

end Go.Proofs.YtajaedebndeajaaDoor.Q

namespace Go.Proofs.YtajaedebndeajaaDoor.Q
open Go.RowKit Go.Proofs.YtajaedebndeajaaDoor.AclMet Go.Proofs.YtajaedebndeajaaDoorW.PrintWords Go.Proofs.YtajaedebndeajaaDoorW.PrintLast Go.Proofs.YtajaedebndeajaaDoorW.PrintMore
attribute [local go_sem] max2_int min2_int max_two min_two max_three min_three max_four min_four   -- for this text's walks alone
set_option linter.unusedVariables false
set_option linter.unusedSimpArgs false

/-! ### wharfingerref08_Clean: function 42 -/
def wharfingerref08_Clean.l0 : Nat → ByteArray → Int → Option (Bool)
 | 0, _, _ => none
 | k + 1, x0, x3 => if x3 < (x0.size : Int) then (if 0 ≤ x3 then (if (bt x0 x3) < 32 then (some false) else (if (bt x0 x3) > 126 then (some false) else (wharfingerref08_Clean.l0 k x0 (wrap64 (x3 + 1))))) else (none)) else (some true)
def wharfingerref08_Clean.f (k : Nat) (a0 : ByteArray) : Option (Bool) := wharfingerref08_Clean.l0 k a0 0
theorem wharfingerref08_Clean.mono_l : ∀ k, (∀ y0 y1, LeO (wharfingerref08_Clean.l0 k y0 y1) (wharfingerref08_Clean.l0 (k + 1) y0 y1))
 | 0 => fun _ _ r h => by simp [wharfingerref08_Clean.l0] at h
 | k + 1 => by
  have ih0 := wharfingerref08_Clean.mono_l k
  ·
   intro y0 y1
   unfold wharfingerref08_Clean.l0
   repeat' first
   | (with_reducible exact ih0 _ _)
   | (with_reducible exact LeO.refl _)
   | (with_reducible exact LeO.none _)
   | (with_reducible refine LeO.ite ?_ ?_)
   | (with_reducible refine LeO.bind ?_ (fun _ => ?_))
   | exact ih0 _ _
   | exact LeO.none _
   | refine LeO.ite ?_ ?_
   | refine LeO.bind ?_ (fun _ => ?_)
theorem wharfingerref08_Clean.mono : ∀ a0 k, LeO (wharfingerref08_Clean.f k a0) (wharfingerref08_Clean.f (k + 1) a0) := by
 intro a0 k
 have ih0 := wharfingerref08_Clean.mono_l k
 unfold wharfingerref08_Clean.f
 repeat' first
   | (with_reducible exact ih0 _ _)
   | (with_reducible exact LeO.refl _)
   | (with_reducible exact LeO.none _)
   | (with_reducible refine LeO.ite ?_ ?_)
   | (with_reducible refine LeO.bind ?_ (fun _ => ?_))
   | exact ih0 _ _
   | exact LeO.none _
   | refine LeO.ite ?_ ?_
   | refine LeO.bind ?_ (fun _ => ?_)
set_option maxHeartbeats 8000000 in
set_option maxRecDepth 100000 in
theorem wharfingerref08_Clean.calls (k : Nat) (a0 : ByteArray) (r : Bool) (w : World) (h : wharfingerref08_Clean.f k a0 = some r) :
  Calls Tryd.prog 42 #[.string a0] w fun e w' => e = .returned (.bool r) ∧ Drawn0 w w' := by
 have H : (wharfingerref08_Clean.l0 k a0 0) = some r := h
 clear h
 have H' := Aside0.mk H
 clear H
 go_enter Tryd.func42, Tryd.ntmps42
 go_wp2
 go_loopg [3] k (fun kq v3 w' => ∃ (x3_1 : Int), v3 = .int .i64 x3_1 ∧ Aside0 (wharfingerref08_Clean.l0 kq a0 x3_1 = some r) ∧ Aside0 (kq ≤ k) ∧ Drawn0 w w')
 case atStart => exact ⟨(0), (by first | rfl | (simp; done) | (simp [*]; done)), H', ⟨Nat.le_refl _⟩, by repeat (first | exact Drawn0.refl _ | apply Drawn0.step)⟩
 case round =>
  clear H'
  obtain ⟨x3_1, rfl, HA, HK1, ⟨m1, rfl⟩⟩ := hrel
  cases gk with
  | zero => exact absurd HA.out (by simp [wharfingerref08_Clean.l0])
  | succ k1 =>
   have H := HA.out
   clear HA
   simp only [wharfingerref08_Clean.l0] at H
   by_cases c2 : x3_1 < (a0.size : Int)
   ·
    rw [if_pos c2] at H
    have c2b0 : decide (x3_1 < (a0.size : Int)) = true := decide_eq_true c2
    clear c2
    by_cases c3 : 0 ≤ x3_1
    ·
     rw [if_pos c3] at H
     have c3b0 : decide (0 ≤ x3_1) = true := decide_eq_true c3
     clear c3
     by_cases c5 : (bt a0 x3_1) < 32
     ·
      rw [if_pos c5] at H
      have c5b0 : decide ((bt a0 x3_1) < 32) = true := decide_eq_true c5
      clear c5
      obtain rfl := Option.some.inj H
      have p4 : 0 ≤ (x3_1 : Int) := of_decide_eq_true (by first | (with_reducible assumption) | assumption)
      have q4 : x3_1 < (a0.size : Int) := of_decide_eq_true (by first | (with_reducible assumption) | assumption)
      have hx4 := bt_at a0 x3_1
      replace p4 := eq_true p4
      replace q4 := eq_true q4
      go_wp2
      go_ret
      exact ⟨by first | rfl | (simp; done) | (simp [*]; done), by repeat (first | exact Drawn0.refl _ | apply Drawn0.step)⟩
     ·
      rw [if_neg c5] at H
      have c5b0 : decide ((bt a0 x3_1) < 32) = false := decide_eq_false c5
      clear c5
      by_cases c7 : (bt a0 x3_1) > 126
      ·
       rw [if_pos c7] at H
       have c7b0 : decide (126 < (bt a0 x3_1)) = true := decide_eq_true c7
       clear c7
       obtain rfl := Option.some.inj H
       have p4 : 0 ≤ (x3_1 : Int) := of_decide_eq_true (by first | (with_reducible assumption) | assumption)
       have q4 : x3_1 < (a0.size : Int) := of_decide_eq_true (by first | (with_reducible assumption) | assumption)
       have hx4 := bt_at a0 x3_1
       replace p4 := eq_true p4
       replace q4 := eq_true q4
       have p6 : 0 ≤ (x3_1 : Int) := of_decide_eq_true (by first | (with_reducible assumption) | assumption)
       have q6 : x3_1 < (a0.size : Int) := of_decide_eq_true (by first | (with_reducible assumption) | assumption)
       have hx6 := bt_at a0 x3_1
       replace p6 := eq_true p6
       replace q6 := eq_true q6
       go_wp2
       go_ret
       exact ⟨by first | rfl | (simp; done) | (simp [*]; done), by repeat (first | exact Drawn0.refl _ | apply Drawn0.step)⟩
      ·
       rw [if_neg c7] at H
       have c7b0 : decide (126 < (bt a0 x3_1)) = false := decide_eq_false c7
       clear c7
       have H' := Aside0.mk H
       clear H
       have p4 : 0 ≤ (x3_1 : Int) := of_decide_eq_true (by first | (with_reducible assumption) | assumption)
       have q4 : x3_1 < (a0.size : Int) := of_decide_eq_true (by first | (with_reducible assumption) | assumption)
       have hx4 := bt_at a0 x3_1
       replace p4 := eq_true p4
       replace q4 := eq_true q4
       have p6 : 0 ≤ (x3_1 : Int) := of_decide_eq_true (by first | (with_reducible assumption) | assumption)
       have q6 : x3_1 < (a0.size : Int) := of_decide_eq_true (by first | (with_reducible assumption) | assumption)
       have hx6 := bt_at a0 x3_1
       replace p6 := eq_true p6
       replace q6 := eq_true q6
       go_wp2
       go_roundg k1
       case measure => have := HK1.out; omega
       case rel => exact ⟨(wrap64 (x3_1 + 1)), (by first | rfl | (simp; done) | (simp [*]; done)), H', ⟨by have := HK1.out; omega⟩, by repeat (first | exact Drawn0.refl _ | apply Drawn0.step)⟩
    ·
     rw [if_neg c3] at H
     exact absurd H (by simp)
   ·
    rw [if_neg c2] at H
    have c2b0 : decide (x3_1 < (a0.size : Int)) = false := decide_eq_false c2
    clear c2
    obtain rfl := Option.some.inj H
    go_wp2
    go_ret
    exact ⟨by first | rfl | (simp; done) | (simp [*]; done), by repeat (first | exact Drawn0.refl _ | apply Drawn0.step)⟩

end Go.Proofs.YtajaedebndeajaaDoor.Q

namespace Go.Proofs.YtajaedebndeajaaDoor.Q
open Go.RowKit Go.Proofs.YtajaedebndeajaaDoor.AclMet Go.Proofs.YtajaedebndeajaaDoorW.PrintWords Go.Proofs.YtajaedebndeajaaDoorW.PrintLast Go.Proofs.YtajaedebndeajaaDoorW.PrintMore
attribute [local go_sem] max2_int min2_int max_two min_two max_three min_three max_four min_four   -- for this text's walks alone
set_option linter.unusedVariables false
set_option linter.unusedSimpArgs false

/-! ### wharfingerref12_User: function 31 -/
def wharfingerref12_User.l0 : Nat → ByteArray → Bool → Int → Option (Bool)
 | 0, _, _, _ => none
 | k + 1, x0, x3, x4 => if x4 < (x0.size : Int) then (if 0 ≤ x4 then (if (bt x0 x4) = 32 then (some false) else (wharfingerref12_User.l0 k x0 x3 (wrap64 (x4 + 1)))) else (none)) else (if x3 = true then (if (x0.size : Int) ≥ 1 then (some (decide ((x0.size : Int) ≤ 60))) else (some false)) else (some false))
def wharfingerref12_User.f (k : Nat) (a0 : ByteArray) : Option (Bool) := (wharfingerref08_Clean.f k a0).bind fun t165 => (wharfingerref12_User.l0 k a0 t165 0)
theorem wharfingerref12_User.mono_l : ∀ k, (∀ y0 y1 y2, LeO (wharfingerref12_User.l0 k y0 y1 y2) (wharfingerref12_User.l0 (k + 1) y0 y1 y2))
 | 0 => fun _ _ _ r h => by simp [wharfingerref12_User.l0] at h
 | k + 1 => by
  have ih0 := wharfingerref12_User.mono_l k
  ·
   intro y0 y1 y2
   unfold wharfingerref12_User.l0
   repeat' first
   | (with_reducible exact ih0 _ _ _)
   | (with_reducible exact wharfingerref08_Clean.mono _ _)
   | (with_reducible exact LeO.refl _)
   | (with_reducible exact LeO.none _)
   | (with_reducible refine LeO.ite ?_ ?_)
   | (with_reducible refine LeO.bind ?_ (fun _ => ?_))
   | exact ih0 _ _ _
   | exact wharfingerref08_Clean.mono _ _
   | exact LeO.none _
   | refine LeO.ite ?_ ?_
   | refine LeO.bind ?_ (fun _ => ?_)
theorem wharfingerref12_User.mono : ∀ a0 k, LeO (wharfingerref12_User.f k a0) (wharfingerref12_User.f (k + 1) a0) := by
 intro a0 k
 have ih0 := wharfingerref12_User.mono_l k
 unfold wharfingerref12_User.f
 repeat' first
   | (with_reducible exact ih0 _ _ _)
   | (with_reducible exact wharfingerref08_Clean.mono _ _)
   | (with_reducible exact LeO.refl _)
   | (with_reducible exact LeO.none _)
   | (with_reducible refine LeO.ite ?_ ?_)
   | (with_reducible refine LeO.bind ?_ (fun _ => ?_))
   | exact ih0 _ _ _
   | exact wharfingerref08_Clean.mono _ _
   | exact LeO.none _
   | refine LeO.ite ?_ ?_
   | refine LeO.bind ?_ (fun _ => ?_)
set_option maxHeartbeats 8000000 in
set_option maxRecDepth 100000 in
theorem wharfingerref12_User.calls (k : Nat) (a0 : ByteArray) (r : Bool) (w : World) (h : wharfingerref12_User.f k a0 = some r) :
  Calls Tryd.prog 31 #[.string a0] w fun e w' => e = .returned (.bool r) ∧ Drawn0 w w' := by
 have H : ((wharfingerref08_Clean.f k a0).bind fun t165 => (wharfingerref12_User.l0 k a0 t165 0)) = some r := h
 clear h
 replace H := Option.bind_eq_some_iff.mp H
 obtain ⟨t165, A20, H⟩ := H
 replace H : (wharfingerref12_User.l0 k a0 t165 0) = some r := H
 have A2 := Aside0.mk A20
 clear A20
 have H' := Aside0.mk H
 clear H
 go_enter Tryd.func31, Tryd.ntmps31
 go_wp2_with (first | ((with_reducible refine gate_callee (f := 42) rfl ?_); refine goesL_ (some 6) rfl rfl Tryd.func42 (by kernel_rfl) rfl #[.string a0] rfl (by (try simp only [List.map_toArray, List.map_cons, List.map_nil]); first | done | rfl | (simp only [List.length_drop, List.length_take]; rfl)) ?_; (with_reducible refine (wharfingerref08_Clean.calls k a0 t165 _ A2.out).mono ?_); rintro e w' ⟨rfl, ⟨nd, rfl⟩⟩; refine ⟨_, rfl, ?_⟩))
 go_loopg [4] k (fun kq v4 w' => ∃ (x4_1 : Int), v4 = .int .i64 x4_1 ∧ Aside0 (wharfingerref12_User.l0 kq a0 t165 x4_1 = some r) ∧ Aside0 (kq ≤ k) ∧ Drawn0 w w')
 case atStart => exact ⟨(0), (by first | rfl | (simp; done) | (simp [*]; done)), H', ⟨Nat.le_refl _⟩, by repeat (first | exact Drawn0.refl _ | apply Drawn0.step)⟩
 case round =>
  clear H'
  try clear p2
  obtain ⟨x4_1, rfl, HA, HK1, ⟨m1, rfl⟩⟩ := hrel
  cases gk with
  | zero => exact absurd HA.out (by simp [wharfingerref12_User.l0])
  | succ k1 =>
   have H := HA.out
   clear HA
   simp only [wharfingerref12_User.l0] at H
   by_cases c3 : x4_1 < (a0.size : Int)
   ·
    rw [if_pos c3] at H
    have c3b0 : decide (x4_1 < (a0.size : Int)) = true := decide_eq_true c3
    clear c3
    by_cases c4 : 0 ≤ x4_1
    ·
     rw [if_pos c4] at H
     have c4b0 : decide (0 ≤ x4_1) = true := decide_eq_true c4
     clear c4
     by_cases c6 : (bt a0 x4_1) = 32
     ·
      rw [if_pos c6] at H
      have c6b0 : ((bt a0 x4_1) == 32) = true := beq_iff_eq.mpr c6
      have c6b1 : ((bt a0 x4_1) != 32) = false := bne_eq_false_iff_eq.mpr c6
      clear c6
      obtain rfl := Option.some.inj H
      have p5 : 0 ≤ (x4_1 : Int) := of_decide_eq_true (by first | (with_reducible assumption) | assumption)
      have q5 : x4_1 < (a0.size : Int) := of_decide_eq_true (by first | (with_reducible assumption) | assumption)
      have hx5 := bt_at a0 x4_1
      replace p5 := eq_true p5
      replace q5 := eq_true q5
      go_wp2
      go_ret
      exact ⟨by first | rfl | (simp; done) | (simp [*]; done), by repeat (first | exact Drawn0.refl _ | apply Drawn0.step)⟩
     ·
      rw [if_neg c6] at H
      have c6b0 : ((bt a0 x4_1) == 32) = false := beq_eq_false_iff_ne.mpr c6
      have c6b1 : ((bt a0 x4_1) != 32) = true := bne_iff_ne.mpr c6
      have H' := Aside0.mk H
      clear H
      have p5 : 0 ≤ (x4_1 : Int) := of_decide_eq_true (by first | (with_reducible assumption) | assumption)
      have q5 : x4_1 < (a0.size : Int) := of_decide_eq_true (by first | (with_reducible assumption) | assumption)
      have hx5 := bt_at a0 x4_1
      replace p5 := eq_true p5
      replace q5 := eq_true q5
      go_wp2
      go_roundg k1
      case measure => have := HK1.out; omega
      case rel => exact ⟨(wrap64 (x4_1 + 1)), (by first | rfl | (simp; done) | (simp [*]; done)), H', ⟨by have := HK1.out; omega⟩, by repeat (first | exact Drawn0.refl _ | apply Drawn0.step)⟩
    ·
     rw [if_neg c4] at H
     exact absurd H (by simp)
   ·
    rw [if_neg c3] at H
    have c3b0 : decide (x4_1 < (a0.size : Int)) = false := decide_eq_false c3
    clear c3
    by_cases c7 : t165 = true
    ·
     subst c7
     have H1 : (if (a0.size : Int) ≥ 1 then (some (decide ((a0.size : Int) ≤ 60))) else (some false)) = some r := by rw [if_pos rfl] at H; exact H
     clear H
     have H := H1
     clear H1
     by_cases c8 : (a0.size : Int) ≥ 1
     ·
      rw [if_pos c8] at H
      have c8b0 : decide (1 ≤ (a0.size : Int)) = true := decide_eq_true c8
      have c8b1 : decide (1 ≤ a0.size) = true := decide_eq_true (by omega)
      clear c8
      obtain rfl := Option.some.inj H
      go_wp2
      go_ret
      exact ⟨by first | rfl | (simp; done) | (simp [*]; done), by repeat (first | exact Drawn0.refl _ | apply Drawn0.step)⟩
     ·
      rw [if_neg c8] at H
      have c8b0 : decide (1 ≤ (a0.size : Int)) = false := decide_eq_false c8
      have c8b1 : decide (1 ≤ a0.size) = false := decide_eq_false (by omega)
      clear c8
      obtain rfl := Option.some.inj H
      go_wp2
      go_ret
      exact ⟨by first | rfl | (simp; done) | (simp [*]; done), by repeat (first | exact Drawn0.refl _ | apply Drawn0.step)⟩
    ·
     replace c7 := Bool.eq_false_iff.mpr c7
     subst c7
     have H1 : (some false) = some r := by rw [if_neg (show ¬ (false = true) by decide)] at H; exact H
     clear H
     have H := H1
     clear H1
     obtain rfl := Option.some.inj H
     go_wp2
     go_ret
     exact ⟨by first | rfl | (simp; done) | (simp [*]; done), by repeat (first | exact Drawn0.refl _ | apply Drawn0.step)⟩

end Go.Proofs.YtajaedebndeajaaDoor.Q
