/- Contracts and plain facts that the law's proof needs. -/
import Derived.Test.YtajaedebndeajaaDoorM2
import Derived.Test.YtajaedebndeajaaDoorM5
import Derived.Test.YtajaedebndeajaaDoorM3
import Derived.Test.YtajaedebndeajaaDoorM4
namespace Go.Proofs.YtajaedebndeajaaDoor.Q
open Go.RowKit Go.Proofs.YtajaedebndeajaaDoor.AclMet Go.Proofs.YtajaedebndeajaaDoorW.PrintWords Go.Proofs.YtajaedebndeajaaDoorW.PrintLast Go.Proofs.YtajaedebndeajaaDoorW.PrintMore
attribute [local go_sem] max2_int min2_int max_two min_two max_three min_three max_four min_four   -- for this text's walks alone
set_option linter.unusedVariables false
set_option linter.unusedSimpArgs false

/-! ### wharfingerref13_tenant: function 20 -/
def wharfingerref13_tenant.l0 : Nat → Int → Bool → Bool → Bool → Bool → Bool → Int → Int → Int → Int → Int → List (S40) → Int → Int → Int → Bool → ByteArray → ByteArray → Int → Int → Int → Int → Int → Int → Int → List (S44) → Int → Int → Int → Int → Option (Bool)
 | 0, _, _, _, _, _, _, _, _, _, _, _, _, _, _, _, _, _, _, _, _, _, _, _, _, _, _, _, _, _, _ => none
 | k + 1, x1, x6, x7, x8, x9, x10, x11, x203000, x203001, x203002, x203003, x203004, x203005, x203006, x203007, x203008, x205000, x205001, x205002, x205003, x205004, x205005, x205006, x205007, x205008, x205009, x205010, x205011, x205012, x205013 => if x11 < x1 then (if 0 ≤ x11 then (if x11 < (x203004.length : Int) then (if ((rd_T40 x203004 x11).f1).toList = x205001.toList then (some false) else (wharfingerref13_tenant.l0 k x1 x6 x7 x8 x9 x10 (wrap64 (x11 + 1)) x203000 x203001 x203002 x203003 x203004 x203005 x203006 x203007 x203008 x205000 x205001 x205002 x205003 x205004 x205005 x205006 x205007 x205008 x205009 x205010 x205011 x205012 x205013)) else (none)) else (none)) else ((wharfingerref13_in.f x205010 1 8).bind fun t211 => ((wharfingerref13_in.f x205011 1 8).bind fun t212 => ((wharfingerref13_in.f x205006 1 65535).bind fun t213 => (if x6 = true then (if x7 = true then (if x8 = true then (if x9 = true then (if x10 = true then (if t211 = true then (if t212 = true then (some t213) else (some false)) else (some false)) else (some false)) else (some false)) else (some false)) else (some false)) else (some false)))))
def wharfingerref13_tenant.f (k : Nat) (a0_0 : Int) (a0_1 : Int) (a0_2 : Int) (a0_3 : Int) (l0_4 : List (S40)) (a0_5 : Int) (a0_6 : Int) (a0_7 : Int) (a0_8 : Bool) (a1 : Int) : Option (Bool) := if 0 ≤ a1 then (if a1 < (l0_4.length : Int) then ((wharfingerref12_User.f k ((rd_T40 l0_4 a1).f0)).bind fun t205 => ((wharfingerref12_Name.f k ((rd_T40 l0_4 a1).f1)).bind fun t206 => ((wharfingerref11_May.f k ((rd_T40 l0_4 a1).f5)).bind fun t207 => ((wharfingerref01_May.f ((rd_T40 l0_4 a1).f8)).bind fun t208 => ((wharfingerref01_May.f ((rd_T40 l0_4 a1).f9)).bind fun t209 => (wharfingerref13_tenant.l0 k a1 t205 t206 t207 t208 t209 0 a0_0 a0_1 a0_2 a0_3 l0_4 a0_5 a0_6 a0_7 a0_8 ((rd_T40 l0_4 a1).f0) ((rd_T40 l0_4 a1).f1) ((rd_T40 l0_4 a1).f2.f0.f0) ((rd_T40 l0_4 a1).f2.f0.f1) ((rd_T40 l0_4 a1).f2.f0.f2) ((rd_T40 l0_4 a1).f2.f0.f3) ((rd_T40 l0_4 a1).f2.f1) ((rd_T40 l0_4 a1).f3) ((rd_T40 l0_4 a1).f4) ((rd_T40 l0_4 a1).f5) ((rd_T40 l0_4 a1).f6) ((rd_T40 l0_4 a1).f7) ((rd_T40 l0_4 a1).f8) ((rd_T40 l0_4 a1).f9))))))) else (none)) else (none)
theorem wharfingerref13_tenant.mono_l : ∀ k, (∀ y0 y1 y2 y3 y4 y5 y6 y7 y8 y9 y10 y11 y12 y13 y14 y15 y16 y17 y18 y19 y20 y21 y22 y23 y24 y25 y26 y27 y28 y29, LeO (wharfingerref13_tenant.l0 k y0 y1 y2 y3 y4 y5 y6 y7 y8 y9 y10 y11 y12 y13 y14 y15 y16 y17 y18 y19 y20 y21 y22 y23 y24 y25 y26 y27 y28 y29) (wharfingerref13_tenant.l0 (k + 1) y0 y1 y2 y3 y4 y5 y6 y7 y8 y9 y10 y11 y12 y13 y14 y15 y16 y17 y18 y19 y20 y21 y22 y23 y24 y25 y26 y27 y28 y29))
 | 0 => fun _ _ _ _ _ _ _ _ _ _ _ _ _ _ _ _ _ _ _ _ _ _ _ _ _ _ _ _ _ _ r h => by simp [wharfingerref13_tenant.l0] at h
 | k + 1 => by
  have ih0 := wharfingerref13_tenant.mono_l k
  ·
   intro y0 y1 y2 y3 y4 y5 y6 y7 y8 y9 y10 y11 y12 y13 y14 y15 y16 y17 y18 y19 y20 y21 y22 y23 y24 y25 y26 y27 y28 y29
   unfold wharfingerref13_tenant.l0
   repeat' first
   | (with_reducible exact ih0 _ _ _ _ _ _ _ _ _ _ _ _ _ _ _ _ _ _ _ _ _ _ _ _ _ _ _ _ _ _)
   | (with_reducible exact wharfingerref11_May.mono _ _)
   | (with_reducible exact wharfingerref12_Name.mono _ _)
   | (with_reducible exact wharfingerref12_User.mono _ _)
   | (with_reducible exact LeO.refl _)
   | (with_reducible exact LeO.none _)
   | (with_reducible refine LeO.ite ?_ ?_)
   | (with_reducible refine LeO.bind ?_ (fun _ => ?_))
   | exact ih0 _ _ _ _ _ _ _ _ _ _ _ _ _ _ _ _ _ _ _ _ _ _ _ _ _ _ _ _ _ _
   | exact wharfingerref11_May.mono _ _
   | exact wharfingerref12_Name.mono _ _
   | exact wharfingerref12_User.mono _ _
   | exact LeO.none _
   | refine LeO.ite ?_ ?_
   | refine LeO.bind ?_ (fun _ => ?_)
theorem wharfingerref13_tenant.mono : ∀ a0 a1 a2 a3 a4 a5 a6 a7 a8 a9 k, LeO (wharfingerref13_tenant.f k a0 a1 a2 a3 a4 a5 a6 a7 a8 a9) (wharfingerref13_tenant.f (k + 1) a0 a1 a2 a3 a4 a5 a6 a7 a8 a9) := by
 intro a0 a1 a2 a3 a4 a5 a6 a7 a8 a9 k
 have ih0 := wharfingerref13_tenant.mono_l k
 unfold wharfingerref13_tenant.f
 repeat' first
   | (with_reducible exact ih0 _ _ _ _ _ _ _ _ _ _ _ _ _ _ _ _ _ _ _ _ _ _ _ _ _ _ _ _ _ _)
   | (with_reducible exact wharfingerref11_May.mono _ _)
   | (with_reducible exact wharfingerref12_Name.mono _ _)
   | (with_reducible exact wharfingerref12_User.mono _ _)
   | (with_reducible exact LeO.refl _)
   | (with_reducible exact LeO.none _)
   | (with_reducible refine LeO.ite ?_ ?_)
   | (with_reducible refine LeO.bind ?_ (fun _ => ?_))
   | exact ih0 _ _ _ _ _ _ _ _ _ _ _ _ _ _ _ _ _ _ _ _ _ _ _ _ _ _ _ _ _ _
   | exact wharfingerref11_May.mono _ _
   | exact wharfingerref12_Name.mono _ _
   | exact wharfingerref12_User.mono _ _
   | exact LeO.none _
   | refine LeO.ite ?_ ?_
   | refine LeO.bind ?_ (fun _ => ?_)
set_option maxHeartbeats 8000000 in
set_option maxRecDepth 100000 in
theorem wharfingerref13_tenant.calls (k : Nat) (a0_0 : Int) (a0_1 : Int) (a0_2 : Int) (a0_3 : Int) (A0_4 : Option Addr) (c0_4 : Nat) (l0_4 : List (S40)) (a0_5 : Int) (a0_6 : Int) (a0_7 : Int) (a0_8 : Bool) (a1 : Int) (r : Bool) (w : World) (hr0_4 : Kd.C k40 w A0_4 l0_4.length l0_4) (hc0_4 : l0_4.length ≤ c0_4) (h : wharfingerref13_tenant.f k a0_0 a0_1 a0_2 a0_3 l0_4 a0_5 a0_6 a0_7 a0_8 a1 = some r) :
  Calls Tryd.prog 20 #[.agg #[.int .u8 a0_0, .int .u8 a0_1, .int .u8 a0_2, .int .u8 a0_3, .slice A0_4 l0_4.length c0_4, .int .i64 a0_5, .int .i64 a0_6, .int .i64 a0_7, .bool a0_8], .int .i64 a1] w fun e w' => e = .returned (.bool r) ∧ Below w.heap.size w w' := by
 have hu26 := Tryd.underlying26
 have hu40 := Tryd.underlying40
 have HR0_4 := Aside0.mk hr0_4
 have HC0_4 := Aside0.mk hc0_4
 clear hr0_4 hc0_4
 have HB := Aside0.mk (Below.refl w.heap.size w)
 have H : (if 0 ≤ a1 then (if a1 < (l0_4.length : Int) then ((wharfingerref12_User.f k ((rd_T40 l0_4 a1).f0)).bind fun t205 => ((wharfingerref12_Name.f k ((rd_T40 l0_4 a1).f1)).bind fun t206 => ((wharfingerref11_May.f k ((rd_T40 l0_4 a1).f5)).bind fun t207 => ((wharfingerref01_May.f ((rd_T40 l0_4 a1).f8)).bind fun t208 => ((wharfingerref01_May.f ((rd_T40 l0_4 a1).f9)).bind fun t209 => (wharfingerref13_tenant.l0 k a1 t205 t206 t207 t208 t209 0 a0_0 a0_1 a0_2 a0_3 l0_4 a0_5 a0_6 a0_7 a0_8 ((rd_T40 l0_4 a1).f0) ((rd_T40 l0_4 a1).f1) ((rd_T40 l0_4 a1).f2.f0.f0) ((rd_T40 l0_4 a1).f2.f0.f1) ((rd_T40 l0_4 a1).f2.f0.f2) ((rd_T40 l0_4 a1).f2.f0.f3) ((rd_T40 l0_4 a1).f2.f1) ((rd_T40 l0_4 a1).f3) ((rd_T40 l0_4 a1).f4) ((rd_T40 l0_4 a1).f5) ((rd_T40 l0_4 a1).f6) ((rd_T40 l0_4 a1).f7) ((rd_T40 l0_4 a1).f8) ((rd_T40 l0_4 a1).f9))))))) else (none)) else (none)) = some r := h
 clear h
 by_cases c3 : 0 ≤ a1
 ·
  rw [if_pos c3] at H
  have c3b0 : decide (0 ≤ a1) = true := decide_eq_true c3
  clear c3
  by_cases c4 : a1 < (l0_4.length : Int)
  ·
   rw [if_pos c4] at H
   have c4b0 : decide (a1 < (l0_4.length : Int)) = true := decide_eq_true c4
   clear c4
   replace H := Option.bind_eq_some_iff.mp H
   obtain ⟨t205, A50, H⟩ := H
   replace H : ((wharfingerref12_Name.f k ((rd_T40 l0_4 a1).f1)).bind fun t206 => ((wharfingerref11_May.f k ((rd_T40 l0_4 a1).f5)).bind fun t207 => ((wharfingerref01_May.f ((rd_T40 l0_4 a1).f8)).bind fun t208 => ((wharfingerref01_May.f ((rd_T40 l0_4 a1).f9)).bind fun t209 => (wharfingerref13_tenant.l0 k a1 t205 t206 t207 t208 t209 0 a0_0 a0_1 a0_2 a0_3 l0_4 a0_5 a0_6 a0_7 a0_8 ((rd_T40 l0_4 a1).f0) ((rd_T40 l0_4 a1).f1) ((rd_T40 l0_4 a1).f2.f0.f0) ((rd_T40 l0_4 a1).f2.f0.f1) ((rd_T40 l0_4 a1).f2.f0.f2) ((rd_T40 l0_4 a1).f2.f0.f3) ((rd_T40 l0_4 a1).f2.f1) ((rd_T40 l0_4 a1).f3) ((rd_T40 l0_4 a1).f4) ((rd_T40 l0_4 a1).f5) ((rd_T40 l0_4 a1).f6) ((rd_T40 l0_4 a1).f7) ((rd_T40 l0_4 a1).f8) ((rd_T40 l0_4 a1).f9)))))) = some r := H
   have A5 := Aside0.mk A50
   clear A50
   replace H := Option.bind_eq_some_iff.mp H
   obtain ⟨t206, A60, H⟩ := H
   replace H : ((wharfingerref11_May.f k ((rd_T40 l0_4 a1).f5)).bind fun t207 => ((wharfingerref01_May.f ((rd_T40 l0_4 a1).f8)).bind fun t208 => ((wharfingerref01_May.f ((rd_T40 l0_4 a1).f9)).bind fun t209 => (wharfingerref13_tenant.l0 k a1 t205 t206 t207 t208 t209 0 a0_0 a0_1 a0_2 a0_3 l0_4 a0_5 a0_6 a0_7 a0_8 ((rd_T40 l0_4 a1).f0) ((rd_T40 l0_4 a1).f1) ((rd_T40 l0_4 a1).f2.f0.f0) ((rd_T40 l0_4 a1).f2.f0.f1) ((rd_T40 l0_4 a1).f2.f0.f2) ((rd_T40 l0_4 a1).f2.f0.f3) ((rd_T40 l0_4 a1).f2.f1) ((rd_T40 l0_4 a1).f3) ((rd_T40 l0_4 a1).f4) ((rd_T40 l0_4 a1).f5) ((rd_T40 l0_4 a1).f6) ((rd_T40 l0_4 a1).f7) ((rd_T40 l0_4 a1).f8) ((rd_T40 l0_4 a1).f9))))) = some r := H
   have A6 := Aside0.mk A60
   clear A60
   replace H := Option.bind_eq_some_iff.mp H
   obtain ⟨t207, A70, H⟩ := H
   replace H : ((wharfingerref01_May.f ((rd_T40 l0_4 a1).f8)).bind fun t208 => ((wharfingerref01_May.f ((rd_T40 l0_4 a1).f9)).bind fun t209 => (wharfingerref13_tenant.l0 k a1 t205 t206 t207 t208 t209 0 a0_0 a0_1 a0_2 a0_3 l0_4 a0_5 a0_6 a0_7 a0_8 ((rd_T40 l0_4 a1).f0) ((rd_T40 l0_4 a1).f1) ((rd_T40 l0_4 a1).f2.f0.f0) ((rd_T40 l0_4 a1).f2.f0.f1) ((rd_T40 l0_4 a1).f2.f0.f2) ((rd_T40 l0_4 a1).f2.f0.f3) ((rd_T40 l0_4 a1).f2.f1) ((rd_T40 l0_4 a1).f3) ((rd_T40 l0_4 a1).f4) ((rd_T40 l0_4 a1).f5) ((rd_T40 l0_4 a1).f6) ((rd_T40 l0_4 a1).f7) ((rd_T40 l0_4 a1).f8) ((rd_T40 l0_4 a1).f9)))) = some r := H
   have A7 := Aside0.mk A70
   clear A70
   replace H := Option.bind_eq_some_iff.mp H
   obtain ⟨t208, A80, H⟩ := H
   replace H : ((wharfingerref01_May.f ((rd_T40 l0_4 a1).f9)).bind fun t209 => (wharfingerref13_tenant.l0 k a1 t205 t206 t207 t208 t209 0 a0_0 a0_1 a0_2 a0_3 l0_4 a0_5 a0_6 a0_7 a0_8 ((rd_T40 l0_4 a1).f0) ((rd_T40 l0_4 a1).f1) ((rd_T40 l0_4 a1).f2.f0.f0) ((rd_T40 l0_4 a1).f2.f0.f1) ((rd_T40 l0_4 a1).f2.f0.f2) ((rd_T40 l0_4 a1).f2.f0.f3) ((rd_T40 l0_4 a1).f2.f1) ((rd_T40 l0_4 a1).f3) ((rd_T40 l0_4 a1).f4) ((rd_T40 l0_4 a1).f5) ((rd_T40 l0_4 a1).f6) ((rd_T40 l0_4 a1).f7) ((rd_T40 l0_4 a1).f8) ((rd_T40 l0_4 a1).f9))) = some r := H
   have A8 := Aside0.mk A80
   clear A80
   replace H := Option.bind_eq_some_iff.mp H
   obtain ⟨t209, A90, H⟩ := H
   replace H : (wharfingerref13_tenant.l0 k a1 t205 t206 t207 t208 t209 0 a0_0 a0_1 a0_2 a0_3 l0_4 a0_5 a0_6 a0_7 a0_8 ((rd_T40 l0_4 a1).f0) ((rd_T40 l0_4 a1).f1) ((rd_T40 l0_4 a1).f2.f0.f0) ((rd_T40 l0_4 a1).f2.f0.f1) ((rd_T40 l0_4 a1).f2.f0.f2) ((rd_T40 l0_4 a1).f2.f0.f3) ((rd_T40 l0_4 a1).f2.f1) ((rd_T40 l0_4 a1).f3) ((rd_T40 l0_4 a1).f4) ((rd_T40 l0_4 a1).f5) ((rd_T40 l0_4 a1).f6) ((rd_T40 l0_4 a1).f7) ((rd_T40 l0_4 a1).f8) ((rd_T40 l0_4 a1).f9)) = some r := H
   have A9 := Aside0.mk A90
   clear A90
   have H' := Aside0.mk H
   clear H
   go_enter Tryd.func20, Tryd.ntmps20
   go_wp2_with (first | ((with_reducible refine gate_dst (N := 2) rfl ?_); refine box_event ?hg (N := 2) ?hd (cs := #[.int .u8 a0_0, .int .u8 a0_1, .int .u8 a0_2, .int .u8 a0_3, .slice A0_4 l0_4.length c0_4, .int .i64 a0_5, .int .i64 a0_6, .int .i64 a0_7, .bool a0_8]) (t := 26) ?hr ?_; (case hd => rfl); (case hg => rfl); (case hr => first | (go_simp; done) | (go_simp; rfl)); intro gb202 hg w10 hbox hb; have n0_ := Aside0.mk (below_step (by repeat (first | (with_reducible first | exact HB.out | apply below_alloc | apply pw_below_drewN | apply below_drew1) | exact HB.out)) hb); have n1_ := Aside0.mk (hbox); have n2_ := Aside0.mk ((by rw [hg]; exact (below_size (by repeat (first | (with_reducible first | exact HB.out | apply below_alloc | apply pw_below_drewN | apply below_drew1) | exact HB.out))) : w.heap.size ≤ gb202)); have n3_ := Aside0.mk ((by rw [hg]; exact (below_size (by repeat (first | (with_reducible first | exact HB.out | apply below_alloc | apply pw_below_drewN | apply below_drew1) | exact HB.out))) : w.heap.size ≤ gb202)); clear HB; have HB := n0_; have BK202 := n1_; have GW202 := n2_; have GE202 := n3_; clear n0_ n1_ n2_ n3_; clear hb hbox hg; obtain ⟨hcz11_0, hcz11_1, hcz11_2, hcz11_3, hcz11_4, hcz11_5, hcz11_6, hcz11_7, hcz11_8⟩ := cl_9 (.int .u8 a0_0) (.int .u8 a0_1) (.int .u8 a0_2) (.int .u8 a0_3) (.slice A0_4 l0_4.length c0_4) (.int .i64 a0_5) (.int .i64 a0_6) (.int .i64 a0_7) (.bool a0_8) BK202.out; obtain ⟨hfz11_0, hfz11_1, hfz11_2, hfz11_3, hfz11_4, hfz11_5, hfz11_6, hfz11_7, hfz11_8⟩ := fz_9 BK202.out; have p203 : 0 ≤ (a1 : Int) := of_decide_eq_true (by first | (with_reducible assumption) | assumption); have q203 : a1 < (l0_4.length : Int) := of_decide_eq_true (by first | (with_reducible assumption) | assumption); obtain ⟨ad203, A203_9, c203_9, e203, hx203_0, hx203_1, hx203_2, hx203_3, hx203_4, hx203_5, hx203_6, hx203_7, hx203_8, hx203_9, hx203_10, hx203_11, hx203_12, hx203_13, hl203_9, hi203_9⟩ := at_T40 HR0_4.out a1 p203 q203; cases e203; replace hx203_0 := (HB.out.cell (World.block_lt_of_cell? w _ hx203_0)).trans hx203_0; replace hx203_1 := (HB.out.cell (World.block_lt_of_cell? w _ hx203_1)).trans hx203_1; replace hx203_2 := (HB.out.cell (World.block_lt_of_cell? w _ hx203_2)).trans hx203_2; replace hx203_3 := (HB.out.cell (World.block_lt_of_cell? w _ hx203_3)).trans hx203_3; replace hx203_4 := (HB.out.cell (World.block_lt_of_cell? w _ hx203_4)).trans hx203_4; replace hx203_5 := (HB.out.cell (World.block_lt_of_cell? w _ hx203_5)).trans hx203_5; replace hx203_6 := (HB.out.cell (World.block_lt_of_cell? w _ hx203_6)).trans hx203_6; replace hx203_7 := (HB.out.cell (World.block_lt_of_cell? w _ hx203_7)).trans hx203_7; replace hx203_8 := (HB.out.cell (World.block_lt_of_cell? w _ hx203_8)).trans hx203_8; replace hx203_9 := (HB.out.cell (World.block_lt_of_cell? w _ hx203_9)).trans hx203_9; replace hx203_10 := (HB.out.cell (World.block_lt_of_cell? w _ hx203_10)).trans hx203_10; replace hx203_11 := (HB.out.cell (World.block_lt_of_cell? w _ hx203_11)).trans hx203_11; replace hx203_12 := (HB.out.cell (World.block_lt_of_cell? w _ hx203_12)).trans hx203_12; replace hx203_13 := (HB.out.cell (World.block_lt_of_cell? w _ hx203_13)).trans hx203_13; have HR203_9 := Aside0.mk hi203_9; have HC203_9 := Aside0.mk hl203_9; clear hi203_9 hl203_9; replace p203 := eq_true p203; replace q203 := eq_true q203) | ((with_reducible refine gate_dst (N := 5) rfl ?_); refine box_event ?hg (N := 5) ?hd (cs := #[.string (⟨#[]⟩ : ByteArray), .string (⟨#[]⟩ : ByteArray), .int .u8 0, .int .u8 0, .int .u8 0, .int .u8 0, .int .i64 0, .int .i64 0, .int .i64 0, .slice none 0 0, .int .i64 0, .int .i64 0, .int .i64 0, .int .i64 0]) (t := 40) ?hr ?_; (case hd => rfl); (case hg => rfl); (case hr => first | (go_simp; done) | (go_simp; rfl)); intro gb204 hg w12 hbox hb; have n0_ := Aside0.mk (blk_below (g := gb202) (o := .cells #[.int .u8 a0_0, .int .u8 a0_1, .int .u8 a0_2, .int .u8 a0_3, .slice (some ad203) l0_4.length c0_4, .int .i64 a0_5, .int .i64 a0_6, .int .i64 a0_7, .bool a0_8] 26 (0, 0)) (by (with_reducible repeat (first | refine blk_drewN ?_ _ | refine blk_drew ?_ | refine blk_alloc ?_ _)); exact BK202.out) hb); have n1_ := Aside0.mk (below_step (by repeat (first | (with_reducible first | exact HB.out | apply below_alloc | apply pw_below_drewN | apply below_drew1 | refine below_set ?_ GE202.out) | exact HB.out)) hb); have n2_ := Aside0.mk (hbox); have n3_ := Aside0.mk ((by rw [hg]; exact (below_size (by repeat (first | (with_reducible first | exact HB.out | apply below_alloc | apply pw_below_drewN | apply below_drew1 | refine below_set ?_ GE202.out) | exact HB.out))) : w.heap.size ≤ gb204)); have n4_ := Aside0.mk ((by rw [hg]; exact (below_size (by repeat (first | (with_reducible first | exact HB.out | apply below_alloc | apply pw_below_drewN | apply below_drew1 | refine below_set ?_ GE202.out) | exact HB.out))) : w.heap.size ≤ gb204)); have n5_ := Aside0.mk ((by rw [hg]; exact Nat.ne_of_lt (blk_lt (g := gb202) (o := .cells #[.int .u8 a0_0, .int .u8 a0_1, .int .u8 a0_2, .int .u8 a0_3, .slice (some ad203) l0_4.length c0_4, .int .i64 a0_5, .int .i64 a0_6, .int .i64 a0_7, .bool a0_8] 26 (0, 0)) (by (with_reducible repeat (first | refine blk_drewN ?_ _ | refine blk_drew ?_ | refine blk_alloc ?_ _)); exact BK202.out)) : gb202 ≠ gb204)); have n6_ := Aside0.mk ((by rw [hg]; exact Nat.ne_of_gt (blk_lt (g := gb202) (o := .cells #[.int .u8 a0_0, .int .u8 a0_1, .int .u8 a0_2, .int .u8 a0_3, .slice (some ad203) l0_4.length c0_4, .int .i64 a0_5, .int .i64 a0_6, .int .i64 a0_7, .bool a0_8] 26 (0, 0)) (by (with_reducible repeat (first | refine blk_drewN ?_ _ | refine blk_drew ?_ | refine blk_alloc ?_ _)); exact BK202.out)) : gb204 ≠ gb202)); clear BK202; clear HB; have BK202 := n0_; have HB := n1_; have BK204 := n2_; have GW204 := n3_; have GE204 := n4_; have NB202_204 := n5_; have NB204_202 := n6_; clear n0_ n1_ n2_ n3_ n4_ n5_ n6_; clear hb hbox hg; have hnb13 := NB204_202.out; have hnc13 := NB202_204.out; obtain ⟨hcz14_0, hcz14_1, hcz14_2, hcz14_3, hcz14_4, hcz14_5, hcz14_6, hcz14_7, hcz14_8, hcz14_9, hcz14_10, hcz14_11, hcz14_12, hcz14_13⟩ := cl_14 (.string (⟨#[]⟩ : ByteArray)) (.string (⟨#[]⟩ : ByteArray)) (.int .u8 0) (.int .u8 0) (.int .u8 0) (.int .u8 0) (.int .i64 0) (.int .i64 0) (.int .i64 0) (.slice none 0 0) (.int .i64 0) (.int .i64 0) (.int .i64 0) (.int .i64 0) BK204.out; obtain ⟨hfz14_0, hfz14_1, hfz14_2, hfz14_3, hfz14_4, hfz14_5, hfz14_6, hfz14_7, hfz14_8, hfz14_9, hfz14_10, hfz14_11, hfz14_12, hfz14_13⟩ := fz_14 BK204.out) | (go_at_call 31; (with_reducible refine (wharfingerref12_User.calls k ((rd_T40 l0_4 a1).f0) t205 _ A5.out).mono ?_); rintro e w' ⟨rfl, ⟨nd, rfl⟩⟩; (try first | exact ⟨rfl, _, World.drewN_drewN _ _ _⟩ | exact ⟨rfl, _, Eq.trans (World.drewN_drewN _ _ _) (congrArg (World.drewN _) (Nat.add_assoc _ _ _))⟩)) | (go_at_call 32; (with_reducible refine (wharfingerref12_Name.calls k ((rd_T40 l0_4 a1).f1) t206 _ A6.out).mono ?_); rintro e w' ⟨rfl, ⟨nd, rfl⟩⟩; (try first | exact ⟨rfl, _, World.drewN_drewN _ _ _⟩ | exact ⟨rfl, _, Eq.trans (World.drewN_drewN _ _ _) (congrArg (World.drewN _) (Nat.add_assoc _ _ _))⟩)) | (go_at_call 33; (with_reducible refine (wharfingerref11_May.calls k _ _ ((rd_T40 l0_4 a1).f5) t207 _ ?side1 ?side2 A7.out).mono ?_); (case side1 => exact Kd.C_below HR203_9.out (by repeat (first | (with_reducible first | exact HB.out | apply below_alloc | apply pw_below_drewN | apply below_drew1 | refine below_set ?_ GE202.out | refine below_set ?_ GE204.out) | exact HB.out))); (case side2 => exact HC203_9.out); rintro e w15 ⟨rfl, hb⟩; have n0_ := Aside0.mk (blk_below (g := gb202) (o := .cells #[.int .u8 a0_0, .int .u8 a0_1, .int .u8 a0_2, .int .u8 a0_3, .slice (some ad203) l0_4.length c0_4, .int .i64 a0_5, .int .i64 a0_6, .int .i64 a0_7, .bool a0_8] 26 (0, 0)) (by (iterate 14 ((with_reducible repeat (first | refine blk_drewN ?_ _ | refine blk_drew ?_ | refine blk_alloc ?_ _)); refine blk_far ?_ NB202_204.out _)); (with_reducible repeat (first | refine blk_drewN ?_ _ | refine blk_drew ?_ | refine blk_alloc ?_ _)); exact BK202.out) hb); have n1_ := Aside0.mk (blk_below (g := gb204) (o := .cells #[.string ((rd_T40 l0_4 a1).f0), .string ((rd_T40 l0_4 a1).f1), .int .u8 ((rd_T40 l0_4 a1).f2.f0.f0), .int .u8 ((rd_T40 l0_4 a1).f2.f0.f1), .int .u8 ((rd_T40 l0_4 a1).f2.f0.f2), .int .u8 ((rd_T40 l0_4 a1).f2.f0.f3), .int .i64 ((rd_T40 l0_4 a1).f2.f1), .int .i64 ((rd_T40 l0_4 a1).f3), .int .i64 ((rd_T40 l0_4 a1).f4), .slice A203_9 ((rd_T40 l0_4 a1).f5).length c203_9, .int .i64 ((rd_T40 l0_4 a1).f6), .int .i64 ((rd_T40 l0_4 a1).f7), .int .i64 ((rd_T40 l0_4 a1).f8), .int .i64 ((rd_T40 l0_4 a1).f9)] 40 (0, 0)) (by (with_reducible repeat (first | refine blk_drewN ?_ _ | refine blk_drew ?_ | refine blk_alloc ?_ _)); refine blk_put (cs := #[.string ((rd_T40 l0_4 a1).f0), .string ((rd_T40 l0_4 a1).f1), .int .u8 ((rd_T40 l0_4 a1).f2.f0.f0), .int .u8 ((rd_T40 l0_4 a1).f2.f0.f1), .int .u8 ((rd_T40 l0_4 a1).f2.f0.f2), .int .u8 ((rd_T40 l0_4 a1).f2.f0.f3), .int .i64 ((rd_T40 l0_4 a1).f2.f1), .int .i64 ((rd_T40 l0_4 a1).f3), .int .i64 ((rd_T40 l0_4 a1).f4), .slice A203_9 ((rd_T40 l0_4 a1).f5).length c203_9, .int .i64 ((rd_T40 l0_4 a1).f6), .int .i64 ((rd_T40 l0_4 a1).f7), .int .i64 ((rd_T40 l0_4 a1).f8), .int .i64 0]) ?_ 13 _ rfl; (with_reducible repeat (first | refine blk_drewN ?_ _ | refine blk_drew ?_ | refine blk_alloc ?_ _)); refine blk_put (cs := #[.string ((rd_T40 l0_4 a1).f0), .string ((rd_T40 l0_4 a1).f1), .int .u8 ((rd_T40 l0_4 a1).f2.f0.f0), .int .u8 ((rd_T40 l0_4 a1).f2.f0.f1), .int .u8 ((rd_T40 l0_4 a1).f2.f0.f2), .int .u8 ((rd_T40 l0_4 a1).f2.f0.f3), .int .i64 ((rd_T40 l0_4 a1).f2.f1), .int .i64 ((rd_T40 l0_4 a1).f3), .int .i64 ((rd_T40 l0_4 a1).f4), .slice A203_9 ((rd_T40 l0_4 a1).f5).length c203_9, .int .i64 ((rd_T40 l0_4 a1).f6), .int .i64 ((rd_T40 l0_4 a1).f7), .int .i64 0, .int .i64 0]) ?_ 12 _ rfl; (with_reducible repeat (first | refine blk_drewN ?_ _ | refine blk_drew ?_ | refine blk_alloc ?_ _)); refine blk_put (cs := #[.string ((rd_T40 l0_4 a1).f0), .string ((rd_T40 l0_4 a1).f1), .int .u8 ((rd_T40 l0_4 a1).f2.f0.f0), .int .u8 ((rd_T40 l0_4 a1).f2.f0.f1), .int .u8 ((rd_T40 l0_4 a1).f2.f0.f2), .int .u8 ((rd_T40 l0_4 a1).f2.f0.f3), .int .i64 ((rd_T40 l0_4 a1).f2.f1), .int .i64 ((rd_T40 l0_4 a1).f3), .int .i64 ((rd_T40 l0_4 a1).f4), .slice A203_9 ((rd_T40 l0_4 a1).f5).length c203_9, .int .i64 ((rd_T40 l0_4 a1).f6), .int .i64 0, .int .i64 0, .int .i64 0]) ?_ 11 _ rfl; (with_reducible repeat (first | refine blk_drewN ?_ _ | refine blk_drew ?_ | refine blk_alloc ?_ _)); refine blk_put (cs := #[.string ((rd_T40 l0_4 a1).f0), .string ((rd_T40 l0_4 a1).f1), .int .u8 ((rd_T40 l0_4 a1).f2.f0.f0), .int .u8 ((rd_T40 l0_4 a1).f2.f0.f1), .int .u8 ((rd_T40 l0_4 a1).f2.f0.f2), .int .u8 ((rd_T40 l0_4 a1).f2.f0.f3), .int .i64 ((rd_T40 l0_4 a1).f2.f1), .int .i64 ((rd_T40 l0_4 a1).f3), .int .i64 ((rd_T40 l0_4 a1).f4), .slice A203_9 ((rd_T40 l0_4 a1).f5).length c203_9, .int .i64 0, .int .i64 0, .int .i64 0, .int .i64 0]) ?_ 10 _ rfl; (with_reducible repeat (first | refine blk_drewN ?_ _ | refine blk_drew ?_ | refine blk_alloc ?_ _)); refine blk_put (cs := #[.string ((rd_T40 l0_4 a1).f0), .string ((rd_T40 l0_4 a1).f1), .int .u8 ((rd_T40 l0_4 a1).f2.f0.f0), .int .u8 ((rd_T40 l0_4 a1).f2.f0.f1), .int .u8 ((rd_T40 l0_4 a1).f2.f0.f2), .int .u8 ((rd_T40 l0_4 a1).f2.f0.f3), .int .i64 ((rd_T40 l0_4 a1).f2.f1), .int .i64 ((rd_T40 l0_4 a1).f3), .int .i64 ((rd_T40 l0_4 a1).f4), .slice none 0 0, .int .i64 0, .int .i64 0, .int .i64 0, .int .i64 0]) ?_ 9 _ rfl; (with_reducible repeat (first | refine blk_drewN ?_ _ | refine blk_drew ?_ | refine blk_alloc ?_ _)); refine blk_put (cs := #[.string ((rd_T40 l0_4 a1).f0), .string ((rd_T40 l0_4 a1).f1), .int .u8 ((rd_T40 l0_4 a1).f2.f0.f0), .int .u8 ((rd_T40 l0_4 a1).f2.f0.f1), .int .u8 ((rd_T40 l0_4 a1).f2.f0.f2), .int .u8 ((rd_T40 l0_4 a1).f2.f0.f3), .int .i64 ((rd_T40 l0_4 a1).f2.f1), .int .i64 ((rd_T40 l0_4 a1).f3), .int .i64 0, .slice none 0 0, .int .i64 0, .int .i64 0, .int .i64 0, .int .i64 0]) ?_ 8 _ rfl; (with_reducible repeat (first | refine blk_drewN ?_ _ | refine blk_drew ?_ | refine blk_alloc ?_ _)); refine blk_put (cs := #[.string ((rd_T40 l0_4 a1).f0), .string ((rd_T40 l0_4 a1).f1), .int .u8 ((rd_T40 l0_4 a1).f2.f0.f0), .int .u8 ((rd_T40 l0_4 a1).f2.f0.f1), .int .u8 ((rd_T40 l0_4 a1).f2.f0.f2), .int .u8 ((rd_T40 l0_4 a1).f2.f0.f3), .int .i64 ((rd_T40 l0_4 a1).f2.f1), .int .i64 0, .int .i64 0, .slice none 0 0, .int .i64 0, .int .i64 0, .int .i64 0, .int .i64 0]) ?_ 7 _ rfl; (with_reducible repeat (first | refine blk_drewN ?_ _ | refine blk_drew ?_ | refine blk_alloc ?_ _)); refine blk_put (cs := #[.string ((rd_T40 l0_4 a1).f0), .string ((rd_T40 l0_4 a1).f1), .int .u8 ((rd_T40 l0_4 a1).f2.f0.f0), .int .u8 ((rd_T40 l0_4 a1).f2.f0.f1), .int .u8 ((rd_T40 l0_4 a1).f2.f0.f2), .int .u8 ((rd_T40 l0_4 a1).f2.f0.f3), .int .i64 0, .int .i64 0, .int .i64 0, .slice none 0 0, .int .i64 0, .int .i64 0, .int .i64 0, .int .i64 0]) ?_ 6 _ rfl; (with_reducible repeat (first | refine blk_drewN ?_ _ | refine blk_drew ?_ | refine blk_alloc ?_ _)); refine blk_put (cs := #[.string ((rd_T40 l0_4 a1).f0), .string ((rd_T40 l0_4 a1).f1), .int .u8 ((rd_T40 l0_4 a1).f2.f0.f0), .int .u8 ((rd_T40 l0_4 a1).f2.f0.f1), .int .u8 ((rd_T40 l0_4 a1).f2.f0.f2), .int .u8 0, .int .i64 0, .int .i64 0, .int .i64 0, .slice none 0 0, .int .i64 0, .int .i64 0, .int .i64 0, .int .i64 0]) ?_ 5 _ rfl; (with_reducible repeat (first | refine blk_drewN ?_ _ | refine blk_drew ?_ | refine blk_alloc ?_ _)); refine blk_put (cs := #[.string ((rd_T40 l0_4 a1).f0), .string ((rd_T40 l0_4 a1).f1), .int .u8 ((rd_T40 l0_4 a1).f2.f0.f0), .int .u8 ((rd_T40 l0_4 a1).f2.f0.f1), .int .u8 0, .int .u8 0, .int .i64 0, .int .i64 0, .int .i64 0, .slice none 0 0, .int .i64 0, .int .i64 0, .int .i64 0, .int .i64 0]) ?_ 4 _ rfl; (with_reducible repeat (first | refine blk_drewN ?_ _ | refine blk_drew ?_ | refine blk_alloc ?_ _)); refine blk_put (cs := #[.string ((rd_T40 l0_4 a1).f0), .string ((rd_T40 l0_4 a1).f1), .int .u8 ((rd_T40 l0_4 a1).f2.f0.f0), .int .u8 0, .int .u8 0, .int .u8 0, .int .i64 0, .int .i64 0, .int .i64 0, .slice none 0 0, .int .i64 0, .int .i64 0, .int .i64 0, .int .i64 0]) ?_ 3 _ rfl; (with_reducible repeat (first | refine blk_drewN ?_ _ | refine blk_drew ?_ | refine blk_alloc ?_ _)); refine blk_put (cs := #[.string ((rd_T40 l0_4 a1).f0), .string ((rd_T40 l0_4 a1).f1), .int .u8 0, .int .u8 0, .int .u8 0, .int .u8 0, .int .i64 0, .int .i64 0, .int .i64 0, .slice none 0 0, .int .i64 0, .int .i64 0, .int .i64 0, .int .i64 0]) ?_ 2 _ rfl; (with_reducible repeat (first | refine blk_drewN ?_ _ | refine blk_drew ?_ | refine blk_alloc ?_ _)); refine blk_put (cs := #[.string ((rd_T40 l0_4 a1).f0), .string (⟨#[]⟩ : ByteArray), .int .u8 0, .int .u8 0, .int .u8 0, .int .u8 0, .int .i64 0, .int .i64 0, .int .i64 0, .slice none 0 0, .int .i64 0, .int .i64 0, .int .i64 0, .int .i64 0]) ?_ 1 _ rfl; (with_reducible repeat (first | refine blk_drewN ?_ _ | refine blk_drew ?_ | refine blk_alloc ?_ _)); refine blk_put (cs := #[.string (⟨#[]⟩ : ByteArray), .string (⟨#[]⟩ : ByteArray), .int .u8 0, .int .u8 0, .int .u8 0, .int .u8 0, .int .i64 0, .int .i64 0, .int .i64 0, .slice none 0 0, .int .i64 0, .int .i64 0, .int .i64 0, .int .i64 0]) ?_ 0 _ rfl; (with_reducible repeat (first | refine blk_drewN ?_ _ | refine blk_drew ?_ | refine blk_alloc ?_ _)); exact BK204.out) hb); have n2_ := Aside0.mk (below_step (by repeat (first | (with_reducible first | exact HB.out | apply below_alloc | apply pw_below_drewN | apply below_drew1 | refine below_set ?_ GE202.out | refine below_set ?_ GE204.out) | exact HB.out)) hb); clear BK202; clear BK204; clear HB; have BK202 := n0_; have BK204 := n1_; have HB := n2_; clear n0_ n1_ n2_; (try clear hb); (try clear hb2); (try clear hk); (try clear hi); obtain ⟨hcz16_0, hcz16_1, hcz16_2, hcz16_3, hcz16_4, hcz16_5, hcz16_6, hcz16_7, hcz16_8, hcz16_9, hcz16_10, hcz16_11, hcz16_12, hcz16_13⟩ := cl_14 (.string ((rd_T40 l0_4 a1).f0)) (.string ((rd_T40 l0_4 a1).f1)) (.int .u8 ((rd_T40 l0_4 a1).f2.f0.f0)) (.int .u8 ((rd_T40 l0_4 a1).f2.f0.f1)) (.int .u8 ((rd_T40 l0_4 a1).f2.f0.f2)) (.int .u8 ((rd_T40 l0_4 a1).f2.f0.f3)) (.int .i64 ((rd_T40 l0_4 a1).f2.f1)) (.int .i64 ((rd_T40 l0_4 a1).f3)) (.int .i64 ((rd_T40 l0_4 a1).f4)) (.slice A203_9 ((rd_T40 l0_4 a1).f5).length c203_9) (.int .i64 ((rd_T40 l0_4 a1).f6)) (.int .i64 ((rd_T40 l0_4 a1).f7)) (.int .i64 ((rd_T40 l0_4 a1).f8)) (.int .i64 ((rd_T40 l0_4 a1).f9)) BK204.out; obtain ⟨hfz16_0, hfz16_1, hfz16_2, hfz16_3, hfz16_4, hfz16_5, hfz16_6, hfz16_7, hfz16_8, hfz16_9, hfz16_10, hfz16_11, hfz16_12, hfz16_13⟩ := fz_14 BK204.out) | (go_at_call 34; (with_reducible refine (wharfingerref01_May.calls ((rd_T40 l0_4 a1).f8) t208 _ A8.out).mono ?_); rintro e w' ⟨rfl, ⟨nd, rfl⟩⟩; (try first | exact ⟨rfl, _, World.drewN_drewN _ _ _⟩ | exact ⟨rfl, _, Eq.trans (World.drewN_drewN _ _ _) (congrArg (World.drewN _) (Nat.add_assoc _ _ _))⟩)) | (go_at_call 34; (with_reducible refine (wharfingerref01_May.calls ((rd_T40 l0_4 a1).f9) t209 _ A9.out).mono ?_); rintro e w' ⟨rfl, ⟨nd, rfl⟩⟩; (try first | exact ⟨rfl, _, World.drewN_drewN _ _ _⟩ | exact ⟨rfl, _, Eq.trans (World.drewN_drewN _ _ _) (congrArg (World.drewN _) (Nat.add_assoc _ _ _))⟩)))
   repeat (go_quiet (first | ((with_reducible refine gate_dst (N := 2) rfl ?_); refine box_event ?hg (N := 2) ?hd (cs := #[.int .u8 a0_0, .int .u8 a0_1, .int .u8 a0_2, .int .u8 a0_3, .slice A0_4 l0_4.length c0_4, .int .i64 a0_5, .int .i64 a0_6, .int .i64 a0_7, .bool a0_8]) (t := 26) ?hr ?_; (case hd => rfl); (case hg => rfl); (case hr => first | (go_simp; done) | (go_simp; rfl)); intro gb202 hg w10 hbox hb; have n0_ := Aside0.mk (below_step (by repeat (first | (with_reducible first | exact HB.out | apply below_alloc | apply pw_below_drewN | apply below_drew1) | exact HB.out)) hb); have n1_ := Aside0.mk (hbox); have n2_ := Aside0.mk ((by rw [hg]; exact (below_size (by repeat (first | (with_reducible first | exact HB.out | apply below_alloc | apply pw_below_drewN | apply below_drew1) | exact HB.out))) : w.heap.size ≤ gb202)); have n3_ := Aside0.mk ((by rw [hg]; exact (below_size (by repeat (first | (with_reducible first | exact HB.out | apply below_alloc | apply pw_below_drewN | apply below_drew1) | exact HB.out))) : w.heap.size ≤ gb202)); clear HB; have HB := n0_; have BK202 := n1_; have GW202 := n2_; have GE202 := n3_; clear n0_ n1_ n2_ n3_; clear hb hbox hg; obtain ⟨hcz11_0, hcz11_1, hcz11_2, hcz11_3, hcz11_4, hcz11_5, hcz11_6, hcz11_7, hcz11_8⟩ := cl_9 (.int .u8 a0_0) (.int .u8 a0_1) (.int .u8 a0_2) (.int .u8 a0_3) (.slice A0_4 l0_4.length c0_4) (.int .i64 a0_5) (.int .i64 a0_6) (.int .i64 a0_7) (.bool a0_8) BK202.out; obtain ⟨hfz11_0, hfz11_1, hfz11_2, hfz11_3, hfz11_4, hfz11_5, hfz11_6, hfz11_7, hfz11_8⟩ := fz_9 BK202.out; have p203 : 0 ≤ (a1 : Int) := of_decide_eq_true (by first | (with_reducible assumption) | assumption); have q203 : a1 < (l0_4.length : Int) := of_decide_eq_true (by first | (with_reducible assumption) | assumption); obtain ⟨ad203, A203_9, c203_9, e203, hx203_0, hx203_1, hx203_2, hx203_3, hx203_4, hx203_5, hx203_6, hx203_7, hx203_8, hx203_9, hx203_10, hx203_11, hx203_12, hx203_13, hl203_9, hi203_9⟩ := at_T40 HR0_4.out a1 p203 q203; cases e203; replace hx203_0 := (HB.out.cell (World.block_lt_of_cell? w _ hx203_0)).trans hx203_0; replace hx203_1 := (HB.out.cell (World.block_lt_of_cell? w _ hx203_1)).trans hx203_1; replace hx203_2 := (HB.out.cell (World.block_lt_of_cell? w _ hx203_2)).trans hx203_2; replace hx203_3 := (HB.out.cell (World.block_lt_of_cell? w _ hx203_3)).trans hx203_3; replace hx203_4 := (HB.out.cell (World.block_lt_of_cell? w _ hx203_4)).trans hx203_4; replace hx203_5 := (HB.out.cell (World.block_lt_of_cell? w _ hx203_5)).trans hx203_5; replace hx203_6 := (HB.out.cell (World.block_lt_of_cell? w _ hx203_6)).trans hx203_6; replace hx203_7 := (HB.out.cell (World.block_lt_of_cell? w _ hx203_7)).trans hx203_7; replace hx203_8 := (HB.out.cell (World.block_lt_of_cell? w _ hx203_8)).trans hx203_8; replace hx203_9 := (HB.out.cell (World.block_lt_of_cell? w _ hx203_9)).trans hx203_9; replace hx203_10 := (HB.out.cell (World.block_lt_of_cell? w _ hx203_10)).trans hx203_10; replace hx203_11 := (HB.out.cell (World.block_lt_of_cell? w _ hx203_11)).trans hx203_11; replace hx203_12 := (HB.out.cell (World.block_lt_of_cell? w _ hx203_12)).trans hx203_12; replace hx203_13 := (HB.out.cell (World.block_lt_of_cell? w _ hx203_13)).trans hx203_13; have HR203_9 := Aside0.mk hi203_9; have HC203_9 := Aside0.mk hl203_9; clear hi203_9 hl203_9; replace p203 := eq_true p203; replace q203 := eq_true q203) | ((with_reducible refine gate_dst (N := 5) rfl ?_); refine box_event ?hg (N := 5) ?hd (cs := #[.string (⟨#[]⟩ : ByteArray), .string (⟨#[]⟩ : ByteArray), .int .u8 0, .int .u8 0, .int .u8 0, .int .u8 0, .int .i64 0, .int .i64 0, .int .i64 0, .slice none 0 0, .int .i64 0, .int .i64 0, .int .i64 0, .int .i64 0]) (t := 40) ?hr ?_; (case hd => rfl); (case hg => rfl); (case hr => first | (go_simp; done) | (go_simp; rfl)); intro gb204 hg w12 hbox hb; have n0_ := Aside0.mk (blk_below (g := gb202) (o := .cells #[.int .u8 a0_0, .int .u8 a0_1, .int .u8 a0_2, .int .u8 a0_3, .slice (some ad203) l0_4.length c0_4, .int .i64 a0_5, .int .i64 a0_6, .int .i64 a0_7, .bool a0_8] 26 (0, 0)) (by (with_reducible repeat (first | refine blk_drewN ?_ _ | refine blk_drew ?_ | refine blk_alloc ?_ _)); exact BK202.out) hb); have n1_ := Aside0.mk (below_step (by repeat (first | (with_reducible first | exact HB.out | apply below_alloc | apply pw_below_drewN | apply below_drew1 | refine below_set ?_ GE202.out) | exact HB.out)) hb); have n2_ := Aside0.mk (hbox); have n3_ := Aside0.mk ((by rw [hg]; exact (below_size (by repeat (first | (with_reducible first | exact HB.out | apply below_alloc | apply pw_below_drewN | apply below_drew1 | refine below_set ?_ GE202.out) | exact HB.out))) : w.heap.size ≤ gb204)); have n4_ := Aside0.mk ((by rw [hg]; exact (below_size (by repeat (first | (with_reducible first | exact HB.out | apply below_alloc | apply pw_below_drewN | apply below_drew1 | refine below_set ?_ GE202.out) | exact HB.out))) : w.heap.size ≤ gb204)); have n5_ := Aside0.mk ((by rw [hg]; exact Nat.ne_of_lt (blk_lt (g := gb202) (o := .cells #[.int .u8 a0_0, .int .u8 a0_1, .int .u8 a0_2, .int .u8 a0_3, .slice (some ad203) l0_4.length c0_4, .int .i64 a0_5, .int .i64 a0_6, .int .i64 a0_7, .bool a0_8] 26 (0, 0)) (by (with_reducible repeat (first | refine blk_drewN ?_ _ | refine blk_drew ?_ | refine blk_alloc ?_ _)); exact BK202.out)) : gb202 ≠ gb204)); have n6_ := Aside0.mk ((by rw [hg]; exact Nat.ne_of_gt (blk_lt (g := gb202) (o := .cells #[.int .u8 a0_0, .int .u8 a0_1, .int .u8 a0_2, .int .u8 a0_3, .slice (some ad203) l0_4.length c0_4, .int .i64 a0_5, .int .i64 a0_6, .int .i64 a0_7, .bool a0_8] 26 (0, 0)) (by (with_reducible repeat (first | refine blk_drewN ?_ _ | refine blk_drew ?_ | refine blk_alloc ?_ _)); exact BK202.out)) : gb204 ≠ gb202)); clear BK202; clear HB; have BK202 := n0_; have HB := n1_; have BK204 := n2_; have GW204 := n3_; have GE204 := n4_; have NB202_204 := n5_; have NB204_202 := n6_; clear n0_ n1_ n2_ n3_ n4_ n5_ n6_; clear hb hbox hg; have hnb13 := NB204_202.out; have hnc13 := NB202_204.out; obtain ⟨hcz14_0, hcz14_1, hcz14_2, hcz14_3, hcz14_4, hcz14_5, hcz14_6, hcz14_7, hcz14_8, hcz14_9, hcz14_10, hcz14_11, hcz14_12, hcz14_13⟩ := cl_14 (.string (⟨#[]⟩ : ByteArray)) (.string (⟨#[]⟩ : ByteArray)) (.int .u8 0) (.int .u8 0) (.int .u8 0) (.int .u8 0) (.int .i64 0) (.int .i64 0) (.int .i64 0) (.slice none 0 0) (.int .i64 0) (.int .i64 0) (.int .i64 0) (.int .i64 0) BK204.out; obtain ⟨hfz14_0, hfz14_1, hfz14_2, hfz14_3, hfz14_4, hfz14_5, hfz14_6, hfz14_7, hfz14_8, hfz14_9, hfz14_10, hfz14_11, hfz14_12, hfz14_13⟩ := fz_14 BK204.out) | (go_at_call 31; (with_reducible refine (wharfingerref12_User.calls k ((rd_T40 l0_4 a1).f0) t205 _ A5.out).mono ?_); rintro e w' ⟨rfl, ⟨nd, rfl⟩⟩; (try first | exact ⟨rfl, _, World.drewN_drewN _ _ _⟩ | exact ⟨rfl, _, Eq.trans (World.drewN_drewN _ _ _) (congrArg (World.drewN _) (Nat.add_assoc _ _ _))⟩)) | (go_at_call 32; (with_reducible refine (wharfingerref12_Name.calls k ((rd_T40 l0_4 a1).f1) t206 _ A6.out).mono ?_); rintro e w' ⟨rfl, ⟨nd, rfl⟩⟩; (try first | exact ⟨rfl, _, World.drewN_drewN _ _ _⟩ | exact ⟨rfl, _, Eq.trans (World.drewN_drewN _ _ _) (congrArg (World.drewN _) (Nat.add_assoc _ _ _))⟩)) | (go_at_call 33; (with_reducible refine (wharfingerref11_May.calls k _ _ ((rd_T40 l0_4 a1).f5) t207 _ ?side1 ?side2 A7.out).mono ?_); (case side1 => exact Kd.C_below HR203_9.out (by repeat (first | (with_reducible first | exact HB.out | apply below_alloc | apply pw_below_drewN | apply below_drew1 | refine below_set ?_ GE202.out | refine below_set ?_ GE204.out) | exact HB.out))); (case side2 => exact HC203_9.out); rintro e w15 ⟨rfl, hb⟩; have n0_ := Aside0.mk (blk_below (g := gb202) (o := .cells #[.int .u8 a0_0, .int .u8 a0_1, .int .u8 a0_2, .int .u8 a0_3, .slice (some ad203) l0_4.length c0_4, .int .i64 a0_5, .int .i64 a0_6, .int .i64 a0_7, .bool a0_8] 26 (0, 0)) (by (iterate 14 ((with_reducible repeat (first | refine blk_drewN ?_ _ | refine blk_drew ?_ | refine blk_alloc ?_ _)); refine blk_far ?_ NB202_204.out _)); (with_reducible repeat (first | refine blk_drewN ?_ _ | refine blk_drew ?_ | refine blk_alloc ?_ _)); exact BK202.out) hb); have n1_ := Aside0.mk (blk_below (g := gb204) (o := .cells #[.string ((rd_T40 l0_4 a1).f0), .string ((rd_T40 l0_4 a1).f1), .int .u8 ((rd_T40 l0_4 a1).f2.f0.f0), .int .u8 ((rd_T40 l0_4 a1).f2.f0.f1), .int .u8 ((rd_T40 l0_4 a1).f2.f0.f2), .int .u8 ((rd_T40 l0_4 a1).f2.f0.f3), .int .i64 ((rd_T40 l0_4 a1).f2.f1), .int .i64 ((rd_T40 l0_4 a1).f3), .int .i64 ((rd_T40 l0_4 a1).f4), .slice A203_9 ((rd_T40 l0_4 a1).f5).length c203_9, .int .i64 ((rd_T40 l0_4 a1).f6), .int .i64 ((rd_T40 l0_4 a1).f7), .int .i64 ((rd_T40 l0_4 a1).f8), .int .i64 ((rd_T40 l0_4 a1).f9)] 40 (0, 0)) (by (with_reducible repeat (first | refine blk_drewN ?_ _ | refine blk_drew ?_ | refine blk_alloc ?_ _)); refine blk_put (cs := #[.string ((rd_T40 l0_4 a1).f0), .string ((rd_T40 l0_4 a1).f1), .int .u8 ((rd_T40 l0_4 a1).f2.f0.f0), .int .u8 ((rd_T40 l0_4 a1).f2.f0.f1), .int .u8 ((rd_T40 l0_4 a1).f2.f0.f2), .int .u8 ((rd_T40 l0_4 a1).f2.f0.f3), .int .i64 ((rd_T40 l0_4 a1).f2.f1), .int .i64 ((rd_T40 l0_4 a1).f3), .int .i64 ((rd_T40 l0_4 a1).f4), .slice A203_9 ((rd_T40 l0_4 a1).f5).length c203_9, .int .i64 ((rd_T40 l0_4 a1).f6), .int .i64 ((rd_T40 l0_4 a1).f7), .int .i64 ((rd_T40 l0_4 a1).f8), .int .i64 0]) ?_ 13 _ rfl; (with_reducible repeat (first | refine blk_drewN ?_ _ | refine blk_drew ?_ | refine blk_alloc ?_ _)); refine blk_put (cs := #[.string ((rd_T40 l0_4 a1).f0), .string ((rd_T40 l0_4 a1).f1), .int .u8 ((rd_T40 l0_4 a1).f2.f0.f0), .int .u8 ((rd_T40 l0_4 a1).f2.f0.f1), .int .u8 ((rd_T40 l0_4 a1).f2.f0.f2), .int .u8 ((rd_T40 l0_4 a1).f2.f0.f3), .int .i64 ((rd_T40 l0_4 a1).f2.f1), .int .i64 ((rd_T40 l0_4 a1).f3), .int .i64 ((rd_T40 l0_4 a1).f4), .slice A203_9 ((rd_T40 l0_4 a1).f5).length c203_9, .int .i64 ((rd_T40 l0_4 a1).f6), .int .i64 ((rd_T40 l0_4 a1).f7), .int .i64 0, .int .i64 0]) ?_ 12 _ rfl; (with_reducible repeat (first | refine blk_drewN ?_ _ | refine blk_drew ?_ | refine blk_alloc ?_ _)); refine blk_put (cs := #[.string ((rd_T40 l0_4 a1).f0), .string ((rd_T40 l0_4 a1).f1), .int .u8 ((rd_T40 l0_4 a1).f2.f0.f0), .int .u8 ((rd_T40 l0_4 a1).f2.f0.f1), .int .u8 ((rd_T40 l0_4 a1).f2.f0.f2), .int .u8 ((rd_T40 l0_4 a1).f2.f0.f3), .int .i64 ((rd_T40 l0_4 a1).f2.f1), .int .i64 ((rd_T40 l0_4 a1).f3), .int .i64 ((rd_T40 l0_4 a1).f4), .slice A203_9 ((rd_T40 l0_4 a1).f5).length c203_9, .int .i64 ((rd_T40 l0_4 a1).f6), .int .i64 0, .int .i64 0, .int .i64 0]) ?_ 11 _ rfl; (with_reducible repeat (first | refine blk_drewN ?_ _ | refine blk_drew ?_ | refine blk_alloc ?_ _)); refine blk_put (cs := #[.string ((rd_T40 l0_4 a1).f0), .string ((rd_T40 l0_4 a1).f1), .int .u8 ((rd_T40 l0_4 a1).f2.f0.f0), .int .u8 ((rd_T40 l0_4 a1).f2.f0.f1), .int .u8 ((rd_T40 l0_4 a1).f2.f0.f2), .int .u8 ((rd_T40 l0_4 a1).f2.f0.f3), .int .i64 ((rd_T40 l0_4 a1).f2.f1), .int .i64 ((rd_T40 l0_4 a1).f3), .int .i64 ((rd_T40 l0_4 a1).f4), .slice A203_9 ((rd_T40 l0_4 a1).f5).length c203_9, .int .i64 0, .int .i64 0, .int .i64 0, .int .i64 0]) ?_ 10 _ rfl; (with_reducible repeat (first | refine blk_drewN ?_ _ | refine blk_drew ?_ | refine blk_alloc ?_ _)); refine blk_put (cs := #[.string ((rd_T40 l0_4 a1).f0), .string ((rd_T40 l0_4 a1).f1), .int .u8 ((rd_T40 l0_4 a1).f2.f0.f0), .int .u8 ((rd_T40 l0_4 a1).f2.f0.f1), .int .u8 ((rd_T40 l0_4 a1).f2.f0.f2), .int .u8 ((rd_T40 l0_4 a1).f2.f0.f3), .int .i64 ((rd_T40 l0_4 a1).f2.f1), .int .i64 ((rd_T40 l0_4 a1).f3), .int .i64 ((rd_T40 l0_4 a1).f4), .slice none 0 0, .int .i64 0, .int .i64 0, .int .i64 0, .int .i64 0]) ?_ 9 _ rfl; (with_reducible repeat (first | refine blk_drewN ?_ _ | refine blk_drew ?_ | refine blk_alloc ?_ _)); refine blk_put (cs := #[.string ((rd_T40 l0_4 a1).f0), .string ((rd_T40 l0_4 a1).f1), .int .u8 ((rd_T40 l0_4 a1).f2.f0.f0), .int .u8 ((rd_T40 l0_4 a1).f2.f0.f1), .int .u8 ((rd_T40 l0_4 a1).f2.f0.f2), .int .u8 ((rd_T40 l0_4 a1).f2.f0.f3), .int .i64 ((rd_T40 l0_4 a1).f2.f1), .int .i64 ((rd_T40 l0_4 a1).f3), .int .i64 0, .slice none 0 0, .int .i64 0, .int .i64 0, .int .i64 0, .int .i64 0]) ?_ 8 _ rfl; (with_reducible repeat (first | refine blk_drewN ?_ _ | refine blk_drew ?_ | refine blk_alloc ?_ _)); refine blk_put (cs := #[.string ((rd_T40 l0_4 a1).f0), .string ((rd_T40 l0_4 a1).f1), .int .u8 ((rd_T40 l0_4 a1).f2.f0.f0), .int .u8 ((rd_T40 l0_4 a1).f2.f0.f1), .int .u8 ((rd_T40 l0_4 a1).f2.f0.f2), .int .u8 ((rd_T40 l0_4 a1).f2.f0.f3), .int .i64 ((rd_T40 l0_4 a1).f2.f1), .int .i64 0, .int .i64 0, .slice none 0 0, .int .i64 0, .int .i64 0, .int .i64 0, .int .i64 0]) ?_ 7 _ rfl; (with_reducible repeat (first | refine blk_drewN ?_ _ | refine blk_drew ?_ | refine blk_alloc ?_ _)); refine blk_put (cs := #[.string ((rd_T40 l0_4 a1).f0), .string ((rd_T40 l0_4 a1).f1), .int .u8 ((rd_T40 l0_4 a1).f2.f0.f0), .int .u8 ((rd_T40 l0_4 a1).f2.f0.f1), .int .u8 ((rd_T40 l0_4 a1).f2.f0.f2), .int .u8 ((rd_T40 l0_4 a1).f2.f0.f3), .int .i64 0, .int .i64 0, .int .i64 0, .slice none 0 0, .int .i64 0, .int .i64 0, .int .i64 0, .int .i64 0]) ?_ 6 _ rfl; (with_reducible repeat (first | refine blk_drewN ?_ _ | refine blk_drew ?_ | refine blk_alloc ?_ _)); refine blk_put (cs := #[.string ((rd_T40 l0_4 a1).f0), .string ((rd_T40 l0_4 a1).f1), .int .u8 ((rd_T40 l0_4 a1).f2.f0.f0), .int .u8 ((rd_T40 l0_4 a1).f2.f0.f1), .int .u8 ((rd_T40 l0_4 a1).f2.f0.f2), .int .u8 0, .int .i64 0, .int .i64 0, .int .i64 0, .slice none 0 0, .int .i64 0, .int .i64 0, .int .i64 0, .int .i64 0]) ?_ 5 _ rfl; (with_reducible repeat (first | refine blk_drewN ?_ _ | refine blk_drew ?_ | refine blk_alloc ?_ _)); refine blk_put (cs := #[.string ((rd_T40 l0_4 a1).f0), .string ((rd_T40 l0_4 a1).f1), .int .u8 ((rd_T40 l0_4 a1).f2.f0.f0), .int .u8 ((rd_T40 l0_4 a1).f2.f0.f1), .int .u8 0, .int .u8 0, .int .i64 0, .int .i64 0, .int .i64 0, .slice none 0 0, .int .i64 0, .int .i64 0, .int .i64 0, .int .i64 0]) ?_ 4 _ rfl; (with_reducible repeat (first | refine blk_drewN ?_ _ | refine blk_drew ?_ | refine blk_alloc ?_ _)); refine blk_put (cs := #[.string ((rd_T40 l0_4 a1).f0), .string ((rd_T40 l0_4 a1).f1), .int .u8 ((rd_T40 l0_4 a1).f2.f0.f0), .int .u8 0, .int .u8 0, .int .u8 0, .int .i64 0, .int .i64 0, .int .i64 0, .slice none 0 0, .int .i64 0, .int .i64 0, .int .i64 0, .int .i64 0]) ?_ 3 _ rfl; (with_reducible repeat (first | refine blk_drewN ?_ _ | refine blk_drew ?_ | refine blk_alloc ?_ _)); refine blk_put (cs := #[.string ((rd_T40 l0_4 a1).f0), .string ((rd_T40 l0_4 a1).f1), .int .u8 0, .int .u8 0, .int .u8 0, .int .u8 0, .int .i64 0, .int .i64 0, .int .i64 0, .slice none 0 0, .int .i64 0, .int .i64 0, .int .i64 0, .int .i64 0]) ?_ 2 _ rfl; (with_reducible repeat (first | refine blk_drewN ?_ _ | refine blk_drew ?_ | refine blk_alloc ?_ _)); refine blk_put (cs := #[.string ((rd_T40 l0_4 a1).f0), .string (⟨#[]⟩ : ByteArray), .int .u8 0, .int .u8 0, .int .u8 0, .int .u8 0, .int .i64 0, .int .i64 0, .int .i64 0, .slice none 0 0, .int .i64 0, .int .i64 0, .int .i64 0, .int .i64 0]) ?_ 1 _ rfl; (with_reducible repeat (first | refine blk_drewN ?_ _ | refine blk_drew ?_ | refine blk_alloc ?_ _)); refine blk_put (cs := #[.string (⟨#[]⟩ : ByteArray), .string (⟨#[]⟩ : ByteArray), .int .u8 0, .int .u8 0, .int .u8 0, .int .u8 0, .int .i64 0, .int .i64 0, .int .i64 0, .slice none 0 0, .int .i64 0, .int .i64 0, .int .i64 0, .int .i64 0]) ?_ 0 _ rfl; (with_reducible repeat (first | refine blk_drewN ?_ _ | refine blk_drew ?_ | refine blk_alloc ?_ _)); exact BK204.out) hb); have n2_ := Aside0.mk (below_step (by repeat (first | (with_reducible first | exact HB.out | apply below_alloc | apply pw_below_drewN | apply below_drew1 | refine below_set ?_ GE202.out | refine below_set ?_ GE204.out) | exact HB.out)) hb); clear BK202; clear BK204; clear HB; have BK202 := n0_; have BK204 := n1_; have HB := n2_; clear n0_ n1_ n2_; (try clear hb); (try clear hb2); (try clear hk); (try clear hi); obtain ⟨hcz16_0, hcz16_1, hcz16_2, hcz16_3, hcz16_4, hcz16_5, hcz16_6, hcz16_7, hcz16_8, hcz16_9, hcz16_10, hcz16_11, hcz16_12, hcz16_13⟩ := cl_14 (.string ((rd_T40 l0_4 a1).f0)) (.string ((rd_T40 l0_4 a1).f1)) (.int .u8 ((rd_T40 l0_4 a1).f2.f0.f0)) (.int .u8 ((rd_T40 l0_4 a1).f2.f0.f1)) (.int .u8 ((rd_T40 l0_4 a1).f2.f0.f2)) (.int .u8 ((rd_T40 l0_4 a1).f2.f0.f3)) (.int .i64 ((rd_T40 l0_4 a1).f2.f1)) (.int .i64 ((rd_T40 l0_4 a1).f3)) (.int .i64 ((rd_T40 l0_4 a1).f4)) (.slice A203_9 ((rd_T40 l0_4 a1).f5).length c203_9) (.int .i64 ((rd_T40 l0_4 a1).f6)) (.int .i64 ((rd_T40 l0_4 a1).f7)) (.int .i64 ((rd_T40 l0_4 a1).f8)) (.int .i64 ((rd_T40 l0_4 a1).f9)) BK204.out; obtain ⟨hfz16_0, hfz16_1, hfz16_2, hfz16_3, hfz16_4, hfz16_5, hfz16_6, hfz16_7, hfz16_8, hfz16_9, hfz16_10, hfz16_11, hfz16_12, hfz16_13⟩ := fz_14 BK204.out) | (go_at_call 34; (with_reducible refine (wharfingerref01_May.calls ((rd_T40 l0_4 a1).f8) t208 _ A8.out).mono ?_); rintro e w' ⟨rfl, ⟨nd, rfl⟩⟩; (try first | exact ⟨rfl, _, World.drewN_drewN _ _ _⟩ | exact ⟨rfl, _, Eq.trans (World.drewN_drewN _ _ _) (congrArg (World.drewN _) (Nat.add_assoc _ _ _))⟩)) | (go_at_call 34; (with_reducible refine (wharfingerref01_May.calls ((rd_T40 l0_4 a1).f9) t209 _ A9.out).mono ?_); rintro e w' ⟨rfl, ⟨nd, rfl⟩⟩; (try first | exact ⟨rfl, _, World.drewN_drewN _ _ _⟩ | exact ⟨rfl, _, Eq.trans (World.drewN_drewN _ _ _) (congrArg (World.drewN _) (Nat.add_assoc _ _ _))⟩))); try go_wp2_with (first | ((with_reducible refine gate_dst (N := 2) rfl ?_); refine box_event ?hg (N := 2) ?hd (cs := #[.int .u8 a0_0, .int .u8 a0_1, .int .u8 a0_2, .int .u8 a0_3, .slice A0_4 l0_4.length c0_4, .int .i64 a0_5, .int .i64 a0_6, .int .i64 a0_7, .bool a0_8]) (t := 26) ?hr ?_; (case hd => rfl); (case hg => rfl); (case hr => first | (go_simp; done) | (go_simp; rfl)); intro gb202 hg w10 hbox hb; have n0_ := Aside0.mk (below_step (by repeat (first | (with_reducible first | exact HB.out | apply below_alloc | apply pw_below_drewN | apply below_drew1) | exact HB.out)) hb); have n1_ := Aside0.mk (hbox); have n2_ := Aside0.mk ((by rw [hg]; exact (below_size (by repeat (first | (with_reducible first | exact HB.out | apply below_alloc | apply pw_below_drewN | apply below_drew1) | exact HB.out))) : w.heap.size ≤ gb202)); have n3_ := Aside0.mk ((by rw [hg]; exact (below_size (by repeat (first | (with_reducible first | exact HB.out | apply below_alloc | apply pw_below_drewN | apply below_drew1) | exact HB.out))) : w.heap.size ≤ gb202)); clear HB; have HB := n0_; have BK202 := n1_; have GW202 := n2_; have GE202 := n3_; clear n0_ n1_ n2_ n3_; clear hb hbox hg; obtain ⟨hcz11_0, hcz11_1, hcz11_2, hcz11_3, hcz11_4, hcz11_5, hcz11_6, hcz11_7, hcz11_8⟩ := cl_9 (.int .u8 a0_0) (.int .u8 a0_1) (.int .u8 a0_2) (.int .u8 a0_3) (.slice A0_4 l0_4.length c0_4) (.int .i64 a0_5) (.int .i64 a0_6) (.int .i64 a0_7) (.bool a0_8) BK202.out; obtain ⟨hfz11_0, hfz11_1, hfz11_2, hfz11_3, hfz11_4, hfz11_5, hfz11_6, hfz11_7, hfz11_8⟩ := fz_9 BK202.out; have p203 : 0 ≤ (a1 : Int) := of_decide_eq_true (by first | (with_reducible assumption) | assumption); have q203 : a1 < (l0_4.length : Int) := of_decide_eq_true (by first | (with_reducible assumption) | assumption); obtain ⟨ad203, A203_9, c203_9, e203, hx203_0, hx203_1, hx203_2, hx203_3, hx203_4, hx203_5, hx203_6, hx203_7, hx203_8, hx203_9, hx203_10, hx203_11, hx203_12, hx203_13, hl203_9, hi203_9⟩ := at_T40 HR0_4.out a1 p203 q203; cases e203; replace hx203_0 := (HB.out.cell (World.block_lt_of_cell? w _ hx203_0)).trans hx203_0; replace hx203_1 := (HB.out.cell (World.block_lt_of_cell? w _ hx203_1)).trans hx203_1; replace hx203_2 := (HB.out.cell (World.block_lt_of_cell? w _ hx203_2)).trans hx203_2; replace hx203_3 := (HB.out.cell (World.block_lt_of_cell? w _ hx203_3)).trans hx203_3; replace hx203_4 := (HB.out.cell (World.block_lt_of_cell? w _ hx203_4)).trans hx203_4; replace hx203_5 := (HB.out.cell (World.block_lt_of_cell? w _ hx203_5)).trans hx203_5; replace hx203_6 := (HB.out.cell (World.block_lt_of_cell? w _ hx203_6)).trans hx203_6; replace hx203_7 := (HB.out.cell (World.block_lt_of_cell? w _ hx203_7)).trans hx203_7; replace hx203_8 := (HB.out.cell (World.block_lt_of_cell? w _ hx203_8)).trans hx203_8; replace hx203_9 := (HB.out.cell (World.block_lt_of_cell? w _ hx203_9)).trans hx203_9; replace hx203_10 := (HB.out.cell (World.block_lt_of_cell? w _ hx203_10)).trans hx203_10; replace hx203_11 := (HB.out.cell (World.block_lt_of_cell? w _ hx203_11)).trans hx203_11; replace hx203_12 := (HB.out.cell (World.block_lt_of_cell? w _ hx203_12)).trans hx203_12; replace hx203_13 := (HB.out.cell (World.block_lt_of_cell? w _ hx203_13)).trans hx203_13; have HR203_9 := Aside0.mk hi203_9; have HC203_9 := Aside0.mk hl203_9; clear hi203_9 hl203_9; replace p203 := eq_true p203; replace q203 := eq_true q203) | ((with_reducible refine gate_dst (N := 5) rfl ?_); refine box_event ?hg (N := 5) ?hd (cs := #[.string (⟨#[]⟩ : ByteArray), .string (⟨#[]⟩ : ByteArray), .int .u8 0, .int .u8 0, .int .u8 0, .int .u8 0, .int .i64 0, .int .i64 0, .int .i64 0, .slice none 0 0, .int .i64 0, .int .i64 0, .int .i64 0, .int .i64 0]) (t := 40) ?hr ?_; (case hd => rfl); (case hg => rfl); (case hr => first | (go_simp; done) | (go_simp; rfl)); intro gb204 hg w12 hbox hb; have n0_ := Aside0.mk (blk_below (g := gb202) (o := .cells #[.int .u8 a0_0, .int .u8 a0_1, .int .u8 a0_2, .int .u8 a0_3, .slice (some ad203) l0_4.length c0_4, .int .i64 a0_5, .int .i64 a0_6, .int .i64 a0_7, .bool a0_8] 26 (0, 0)) (by (with_reducible repeat (first | refine blk_drewN ?_ _ | refine blk_drew ?_ | refine blk_alloc ?_ _)); exact BK202.out) hb); have n1_ := Aside0.mk (below_step (by repeat (first | (with_reducible first | exact HB.out | apply below_alloc | apply pw_below_drewN | apply below_drew1 | refine below_set ?_ GE202.out) | exact HB.out)) hb); have n2_ := Aside0.mk (hbox); have n3_ := Aside0.mk ((by rw [hg]; exact (below_size (by repeat (first | (with_reducible first | exact HB.out | apply below_alloc | apply pw_below_drewN | apply below_drew1 | refine below_set ?_ GE202.out) | exact HB.out))) : w.heap.size ≤ gb204)); have n4_ := Aside0.mk ((by rw [hg]; exact (below_size (by repeat (first | (with_reducible first | exact HB.out | apply below_alloc | apply pw_below_drewN | apply below_drew1 | refine below_set ?_ GE202.out) | exact HB.out))) : w.heap.size ≤ gb204)); have n5_ := Aside0.mk ((by rw [hg]; exact Nat.ne_of_lt (blk_lt (g := gb202) (o := .cells #[.int .u8 a0_0, .int .u8 a0_1, .int .u8 a0_2, .int .u8 a0_3, .slice (some ad203) l0_4.length c0_4, .int .i64 a0_5, .int .i64 a0_6, .int .i64 a0_7, .bool a0_8] 26 (0, 0)) (by (with_reducible repeat (first | refine blk_drewN ?_ _ | refine blk_drew ?_ | refine blk_alloc ?_ _)); exact BK202.out)) : gb202 ≠ gb204)); have n6_ := Aside0.mk ((by rw [hg]; exact Nat.ne_of_gt (blk_lt (g := gb202) (o := .cells #[.int .u8 a0_0, .int .u8 a0_1, .int .u8 a0_2, .int .u8 a0_3, .slice (some ad203) l0_4.length c0_4, .int .i64 a0_5, .int .i64 a0_6, .int .i64 a0_7, .bool a0_8] 26 (0, 0)) (by (with_reducible repeat (first | refine blk_drewN ?_ _ | refine blk_drew ?_ | refine blk_alloc ?_ _)); exact BK202.out)) : gb204 ≠ gb202)); clear BK202; clear HB; have BK202 := n0_; have HB := n1_; have BK204 := n2_; have GW204 := n3_; have GE204 := n4_; have NB202_204 := n5_; have NB204_202 := n6_; clear n0_ n1_ n2_ n3_ n4_ n5_ n6_; clear hb hbox hg; have hnb13 := NB204_202.out; have hnc13 := NB202_204.out; obtain ⟨hcz14_0, hcz14_1, hcz14_2, hcz14_3, hcz14_4, hcz14_5, hcz14_6, hcz14_7, hcz14_8, hcz14_9, hcz14_10, hcz14_11, hcz14_12, hcz14_13⟩ := cl_14 (.string (⟨#[]⟩ : ByteArray)) (.string (⟨#[]⟩ : ByteArray)) (.int .u8 0) (.int .u8 0) (.int .u8 0) (.int .u8 0) (.int .i64 0) (.int .i64 0) (.int .i64 0) (.slice none 0 0) (.int .i64 0) (.int .i64 0) (.int .i64 0) (.int .i64 0) BK204.out; obtain ⟨hfz14_0, hfz14_1, hfz14_2, hfz14_3, hfz14_4, hfz14_5, hfz14_6, hfz14_7, hfz14_8, hfz14_9, hfz14_10, hfz14_11, hfz14_12, hfz14_13⟩ := fz_14 BK204.out) | (go_at_call 31; (with_reducible refine (wharfingerref12_User.calls k ((rd_T40 l0_4 a1).f0) t205 _ A5.out).mono ?_); rintro e w' ⟨rfl, ⟨nd, rfl⟩⟩; (try first | exact ⟨rfl, _, World.drewN_drewN _ _ _⟩ | exact ⟨rfl, _, Eq.trans (World.drewN_drewN _ _ _) (congrArg (World.drewN _) (Nat.add_assoc _ _ _))⟩)) | (go_at_call 32; (with_reducible refine (wharfingerref12_Name.calls k ((rd_T40 l0_4 a1).f1) t206 _ A6.out).mono ?_); rintro e w' ⟨rfl, ⟨nd, rfl⟩⟩; (try first | exact ⟨rfl, _, World.drewN_drewN _ _ _⟩ | exact ⟨rfl, _, Eq.trans (World.drewN_drewN _ _ _) (congrArg (World.drewN _) (Nat.add_assoc _ _ _))⟩)) | (go_at_call 33; (with_reducible refine (wharfingerref11_May.calls k _ _ ((rd_T40 l0_4 a1).f5) t207 _ ?side1 ?side2 A7.out).mono ?_); (case side1 => exact Kd.C_below HR203_9.out (by repeat (first | (with_reducible first | exact HB.out | apply below_alloc | apply pw_below_drewN | apply below_drew1 | refine below_set ?_ GE202.out | refine below_set ?_ GE204.out) | exact HB.out))); (case side2 => exact HC203_9.out); rintro e w15 ⟨rfl, hb⟩; have n0_ := Aside0.mk (blk_below (g := gb202) (o := .cells #[.int .u8 a0_0, .int .u8 a0_1, .int .u8 a0_2, .int .u8 a0_3, .slice (some ad203) l0_4.length c0_4, .int .i64 a0_5, .int .i64 a0_6, .int .i64 a0_7, .bool a0_8] 26 (0, 0)) (by (iterate 14 ((with_reducible repeat (first | refine blk_drewN ?_ _ | refine blk_drew ?_ | refine blk_alloc ?_ _)); refine blk_far ?_ NB202_204.out _)); (with_reducible repeat (first | refine blk_drewN ?_ _ | refine blk_drew ?_ | refine blk_alloc ?_ _)); exact BK202.out) hb); have n1_ := Aside0.mk (blk_below (g := gb204) (o := .cells #[.string ((rd_T40 l0_4 a1).f0), .string ((rd_T40 l0_4 a1).f1), .int .u8 ((rd_T40 l0_4 a1).f2.f0.f0), .int .u8 ((rd_T40 l0_4 a1).f2.f0.f1), .int .u8 ((rd_T40 l0_4 a1).f2.f0.f2), .int .u8 ((rd_T40 l0_4 a1).f2.f0.f3), .int .i64 ((rd_T40 l0_4 a1).f2.f1), .int .i64 ((rd_T40 l0_4 a1).f3), .int .i64 ((rd_T40 l0_4 a1).f4), .slice A203_9 ((rd_T40 l0_4 a1).f5).length c203_9, .int .i64 ((rd_T40 l0_4 a1).f6), .int .i64 ((rd_T40 l0_4 a1).f7), .int .i64 ((rd_T40 l0_4 a1).f8), .int .i64 ((rd_T40 l0_4 a1).f9)] 40 (0, 0)) (by (with_reducible repeat (first | refine blk_drewN ?_ _ | refine blk_drew ?_ | refine blk_alloc ?_ _)); refine blk_put (cs := #[.string ((rd_T40 l0_4 a1).f0), .string ((rd_T40 l0_4 a1).f1), .int .u8 ((rd_T40 l0_4 a1).f2.f0.f0), .int .u8 ((rd_T40 l0_4 a1).f2.f0.f1), .int .u8 ((rd_T40 l0_4 a1).f2.f0.f2), .int .u8 ((rd_T40 l0_4 a1).f2.f0.f3), .int .i64 ((rd_T40 l0_4 a1).f2.f1), .int .i64 ((rd_T40 l0_4 a1).f3), .int .i64 ((rd_T40 l0_4 a1).f4), .slice A203_9 ((rd_T40 l0_4 a1).f5).length c203_9, .int .i64 ((rd_T40 l0_4 a1).f6), .int .i64 ((rd_T40 l0_4 a1).f7), .int .i64 ((rd_T40 l0_4 a1).f8), .int .i64 0]) ?_ 13 _ rfl; (with_reducible repeat (first | refine blk_drewN ?_ _ | refine blk_drew ?_ | refine blk_alloc ?_ _)); refine blk_put (cs := #[.string ((rd_T40 l0_4 a1).f0), .string ((rd_T40 l0_4 a1).f1), .int .u8 ((rd_T40 l0_4 a1).f2.f0.f0), .int .u8 ((rd_T40 l0_4 a1).f2.f0.f1), .int .u8 ((rd_T40 l0_4 a1).f2.f0.f2), .int .u8 ((rd_T40 l0_4 a1).f2.f0.f3), .int .i64 ((rd_T40 l0_4 a1).f2.f1), .int .i64 ((rd_T40 l0_4 a1).f3), .int .i64 ((rd_T40 l0_4 a1).f4), .slice A203_9 ((rd_T40 l0_4 a1).f5).length c203_9, .int .i64 ((rd_T40 l0_4 a1).f6), .int .i64 ((rd_T40 l0_4 a1).f7), .int .i64 0, .int .i64 0]) ?_ 12 _ rfl; (with_reducible repeat (first | refine blk_drewN ?_ _ | refine blk_drew ?_ | refine blk_alloc ?_ _)); refine blk_put (cs := #[.string ((rd_T40 l0_4 a1).f0), .string ((rd_T40 l0_4 a1).f1), .int .u8 ((rd_T40 l0_4 a1).f2.f0.f0), .int .u8 ((rd_T40 l0_4 a1).f2.f0.f1), .int .u8 ((rd_T40 l0_4 a1).f2.f0.f2), .int .u8 ((rd_T40 l0_4 a1).f2.f0.f3), .int .i64 ((rd_T40 l0_4 a1).f2.f1), .int .i64 ((rd_T40 l0_4 a1).f3), .int .i64 ((rd_T40 l0_4 a1).f4), .slice A203_9 ((rd_T40 l0_4 a1).f5).length c203_9, .int .i64 ((rd_T40 l0_4 a1).f6), .int .i64 0, .int .i64 0, .int .i64 0]) ?_ 11 _ rfl; (with_reducible repeat (first | refine blk_drewN ?_ _ | refine blk_drew ?_ | refine blk_alloc ?_ _)); refine blk_put (cs := #[.string ((rd_T40 l0_4 a1).f0), .string ((rd_T40 l0_4 a1).f1), .int .u8 ((rd_T40 l0_4 a1).f2.f0.f0), .int .u8 ((rd_T40 l0_4 a1).f2.f0.f1), .int .u8 ((rd_T40 l0_4 a1).f2.f0.f2), .int .u8 ((rd_T40 l0_4 a1).f2.f0.f3), .int .i64 ((rd_T40 l0_4 a1).f2.f1), .int .i64 ((rd_T40 l0_4 a1).f3), .int .i64 ((rd_T40 l0_4 a1).f4), .slice A203_9 ((rd_T40 l0_4 a1).f5).length c203_9, .int .i64 0, .int .i64 0, .int .i64 0, .int .i64 0]) ?_ 10 _ rfl; (with_reducible repeat (first | refine blk_drewN ?_ _ | refine blk_drew ?_ | refine blk_alloc ?_ _)); refine blk_put (cs := #[.string ((rd_T40 l0_4 a1).f0), .string ((rd_T40 l0_4 a1).f1), .int .u8 ((rd_T40 l0_4 a1).f2.f0.f0), .int .u8 ((rd_T40 l0_4 a1).f2.f0.f1), .int .u8 ((rd_T40 l0_4 a1).f2.f0.f2), .int .u8 ((rd_T40 l0_4 a1).f2.f0.f3), .int .i64 ((rd_T40 l0_4 a1).f2.f1), .int .i64 ((rd_T40 l0_4 a1).f3), .int .i64 ((rd_T40 l0_4 a1).f4), .slice none 0 0, .int .i64 0, .int .i64 0, .int .i64 0, .int .i64 0]) ?_ 9 _ rfl; (with_reducible repeat (first | refine blk_drewN ?_ _ | refine blk_drew ?_ | refine blk_alloc ?_ _)); refine blk_put (cs := #[.string ((rd_T40 l0_4 a1).f0), .string ((rd_T40 l0_4 a1).f1), .int .u8 ((rd_T40 l0_4 a1).f2.f0.f0), .int .u8 ((rd_T40 l0_4 a1).f2.f0.f1), .int .u8 ((rd_T40 l0_4 a1).f2.f0.f2), .int .u8 ((rd_T40 l0_4 a1).f2.f0.f3), .int .i64 ((rd_T40 l0_4 a1).f2.f1), .int .i64 ((rd_T40 l0_4 a1).f3), .int .i64 0, .slice none 0 0, .int .i64 0, .int .i64 0, .int .i64 0, .int .i64 0]) ?_ 8 _ rfl; (with_reducible repeat (first | refine blk_drewN ?_ _ | refine blk_drew ?_ | refine blk_alloc ?_ _)); refine blk_put (cs := #[.string ((rd_T40 l0_4 a1).f0), .string ((rd_T40 l0_4 a1).f1), .int .u8 ((rd_T40 l0_4 a1).f2.f0.f0), .int .u8 ((rd_T40 l0_4 a1).f2.f0.f1), .int .u8 ((rd_T40 l0_4 a1).f2.f0.f2), .int .u8 ((rd_T40 l0_4 a1).f2.f0.f3), .int .i64 ((rd_T40 l0_4 a1).f2.f1), .int .i64 0, .int .i64 0, .slice none 0 0, .int .i64 0, .int .i64 0, .int .i64 0, .int .i64 0]) ?_ 7 _ rfl; (with_reducible repeat (first | refine blk_drewN ?_ _ | refine blk_drew ?_ | refine blk_alloc ?_ _)); refine blk_put (cs := #[.string ((rd_T40 l0_4 a1).f0), .string ((rd_T40 l0_4 a1).f1), .int .u8 ((rd_T40 l0_4 a1).f2.f0.f0), .int .u8 ((rd_T40 l0_4 a1).f2.f0.f1), .int .u8 ((rd_T40 l0_4 a1).f2.f0.f2), .int .u8 ((rd_T40 l0_4 a1).f2.f0.f3), .int .i64 0, .int .i64 0, .int .i64 0, .slice none 0 0, .int .i64 0, .int .i64 0, .int .i64 0, .int .i64 0]) ?_ 6 _ rfl; (with_reducible repeat (first | refine blk_drewN ?_ _ | refine blk_drew ?_ | refine blk_alloc ?_ _)); refine blk_put (cs := #[.string ((rd_T40 l0_4 a1).f0), .string ((rd_T40 l0_4 a1).f1), .int .u8 ((rd_T40 l0_4 a1).f2.f0.f0), .int .u8 ((rd_T40 l0_4 a1).f2.f0.f1), .int .u8 ((rd_T40 l0_4 a1).f2.f0.f2), .int .u8 0, .int .i64 0, .int .i64 0, .int .i64 0, .slice none 0 0, .int .i64 0, .int .i64 0, .int .i64 0, .int .i64 0]) ?_ 5 _ rfl; (with_reducible repeat (first | refine blk_drewN ?_ _ | refine blk_drew ?_ | refine blk_alloc ?_ _)); refine blk_put (cs := #[.string ((rd_T40 l0_4 a1).f0), .string ((rd_T40 l0_4 a1).f1), .int .u8 ((rd_T40 l0_4 a1).f2.f0.f0), .int .u8 ((rd_T40 l0_4 a1).f2.f0.f1), .int .u8 0, .int .u8 0, .int .i64 0, .int .i64 0, .int .i64 0, .slice none 0 0, .int .i64 0, .int .i64 0, .int .i64 0, .int .i64 0]) ?_ 4 _ rfl; (with_reducible repeat (first | refine blk_drewN ?_ _ | refine blk_drew ?_ | refine blk_alloc ?_ _)); refine blk_put (cs := #[.string ((rd_T40 l0_4 a1).f0), .string ((rd_T40 l0_4 a1).f1), .int .u8 ((rd_T40 l0_4 a1).f2.f0.f0), .int .u8 0, .int .u8 0, .int .u8 0, .int .i64 0, .int .i64 0, .int .i64 0, .slice none 0 0, .int .i64 0, .int .i64 0, .int .i64 0, .int .i64 0]) ?_ 3 _ rfl; (with_reducible repeat (first | refine blk_drewN ?_ _ | refine blk_drew ?_ | refine blk_alloc ?_ _)); refine blk_put (cs := #[.string ((rd_T40 l0_4 a1).f0), .string ((rd_T40 l0_4 a1).f1), .int .u8 0, .int .u8 0, .int .u8 0, .int .u8 0, .int .i64 0, .int .i64 0, .int .i64 0, .slice none 0 0, .int .i64 0, .int .i64 0, .int .i64 0, .int .i64 0]) ?_ 2 _ rfl; (with_reducible repeat (first | refine blk_drewN ?_ _ | refine blk_drew ?_ | refine blk_alloc ?_ _)); refine blk_put (cs := #[.string ((rd_T40 l0_4 a1).f0), .string (⟨#[]⟩ : ByteArray), .int .u8 0, .int .u8 0, .int .u8 0, .int .u8 0, .int .i64 0, .int .i64 0, .int .i64 0, .slice none 0 0, .int .i64 0, .int .i64 0, .int .i64 0, .int .i64 0]) ?_ 1 _ rfl; (with_reducible repeat (first | refine blk_drewN ?_ _ | refine blk_drew ?_ | refine blk_alloc ?_ _)); refine blk_put (cs := #[.string (⟨#[]⟩ : ByteArray), .string (⟨#[]⟩ : ByteArray), .int .u8 0, .int .u8 0, .int .u8 0, .int .u8 0, .int .i64 0, .int .i64 0, .int .i64 0, .slice none 0 0, .int .i64 0, .int .i64 0, .int .i64 0, .int .i64 0]) ?_ 0 _ rfl; (with_reducible repeat (first | refine blk_drewN ?_ _ | refine blk_drew ?_ | refine blk_alloc ?_ _)); exact BK204.out) hb); have n2_ := Aside0.mk (below_step (by repeat (first | (with_reducible first | exact HB.out | apply below_alloc | apply pw_below_drewN | apply below_drew1 | refine below_set ?_ GE202.out | refine below_set ?_ GE204.out) | exact HB.out)) hb); clear BK202; clear BK204; clear HB; have BK202 := n0_; have BK204 := n1_; have HB := n2_; clear n0_ n1_ n2_; (try clear hb); (try clear hb2); (try clear hk); (try clear hi); obtain ⟨hcz16_0, hcz16_1, hcz16_2, hcz16_3, hcz16_4, hcz16_5, hcz16_6, hcz16_7, hcz16_8, hcz16_9, hcz16_10, hcz16_11, hcz16_12, hcz16_13⟩ := cl_14 (.string ((rd_T40 l0_4 a1).f0)) (.string ((rd_T40 l0_4 a1).f1)) (.int .u8 ((rd_T40 l0_4 a1).f2.f0.f0)) (.int .u8 ((rd_T40 l0_4 a1).f2.f0.f1)) (.int .u8 ((rd_T40 l0_4 a1).f2.f0.f2)) (.int .u8 ((rd_T40 l0_4 a1).f2.f0.f3)) (.int .i64 ((rd_T40 l0_4 a1).f2.f1)) (.int .i64 ((rd_T40 l0_4 a1).f3)) (.int .i64 ((rd_T40 l0_4 a1).f4)) (.slice A203_9 ((rd_T40 l0_4 a1).f5).length c203_9) (.int .i64 ((rd_T40 l0_4 a1).f6)) (.int .i64 ((rd_T40 l0_4 a1).f7)) (.int .i64 ((rd_T40 l0_4 a1).f8)) (.int .i64 ((rd_T40 l0_4 a1).f9)) BK204.out; obtain ⟨hfz16_0, hfz16_1, hfz16_2, hfz16_3, hfz16_4, hfz16_5, hfz16_6, hfz16_7, hfz16_8, hfz16_9, hfz16_10, hfz16_11, hfz16_12, hfz16_13⟩ := fz_14 BK204.out) | (go_at_call 34; (with_reducible refine (wharfingerref01_May.calls ((rd_T40 l0_4 a1).f8) t208 _ A8.out).mono ?_); rintro e w' ⟨rfl, ⟨nd, rfl⟩⟩; (try first | exact ⟨rfl, _, World.drewN_drewN _ _ _⟩ | exact ⟨rfl, _, Eq.trans (World.drewN_drewN _ _ _) (congrArg (World.drewN _) (Nat.add_assoc _ _ _))⟩)) | (go_at_call 34; (with_reducible refine (wharfingerref01_May.calls ((rd_T40 l0_4 a1).f9) t209 _ A9.out).mono ?_); rintro e w' ⟨rfl, ⟨nd, rfl⟩⟩; (try first | exact ⟨rfl, _, World.drewN_drewN _ _ _⟩ | exact ⟨rfl, _, Eq.trans (World.drewN_drewN _ _ _) (congrArg (World.drewN _) (Nat.add_assoc _ _ _))⟩))))
   go_loopg [11] k (fun kq v11 w' => ∃ (x11_1 : Int), v11 = .int .i64 x11_1 ∧ Aside0 (wharfingerref13_tenant.l0 kq a1 t205 t206 t207 t208 t209 x11_1 a0_0 a0_1 a0_2 a0_3 l0_4 a0_5 a0_6 a0_7 a0_8 ((rd_T40 l0_4 a1).f0) ((rd_T40 l0_4 a1).f1) ((rd_T40 l0_4 a1).f2.f0.f0) ((rd_T40 l0_4 a1).f2.f0.f1) ((rd_T40 l0_4 a1).f2.f0.f2) ((rd_T40 l0_4 a1).f2.f0.f3) ((rd_T40 l0_4 a1).f2.f1) ((rd_T40 l0_4 a1).f3) ((rd_T40 l0_4 a1).f4) ((rd_T40 l0_4 a1).f5) ((rd_T40 l0_4 a1).f6) ((rd_T40 l0_4 a1).f7) ((rd_T40 l0_4 a1).f8) ((rd_T40 l0_4 a1).f9) = some r) ∧ Aside0 (kq ≤ k) ∧ Aside0 (w'.heap[gb202]? = some (.cells #[.int .u8 a0_0, .int .u8 a0_1, .int .u8 a0_2, .int .u8 a0_3, (.slice (some ad203) l0_4.length c0_4), .int .i64 a0_5, .int .i64 a0_6, .int .i64 a0_7, .bool a0_8] 26 (0, 0))) ∧ Aside0 (w'.heap[gb204]? = some (.cells #[.string ((rd_T40 l0_4 a1).f0), .string ((rd_T40 l0_4 a1).f1), .int .u8 ((rd_T40 l0_4 a1).f2.f0.f0), .int .u8 ((rd_T40 l0_4 a1).f2.f0.f1), .int .u8 ((rd_T40 l0_4 a1).f2.f0.f2), .int .u8 ((rd_T40 l0_4 a1).f2.f0.f3), .int .i64 ((rd_T40 l0_4 a1).f2.f1), .int .i64 ((rd_T40 l0_4 a1).f3), .int .i64 ((rd_T40 l0_4 a1).f4), (.slice A203_9 ((rd_T40 l0_4 a1).f5).length c203_9), .int .i64 ((rd_T40 l0_4 a1).f6), .int .i64 ((rd_T40 l0_4 a1).f7), .int .i64 ((rd_T40 l0_4 a1).f8), .int .i64 ((rd_T40 l0_4 a1).f9)] 40 (0, 0))) ∧ Aside0 (Below w.heap.size w w'))
   case atStart => exact ⟨(0), (by first | rfl | (simp; done) | (simp [*]; done)), H', ⟨Nat.le_refl _⟩, ⟨by (with_reducible repeat (first | refine blk_drewN ?_ _ | refine blk_drew ?_ | refine blk_alloc ?_ _)); exact BK202.out⟩, ⟨by (with_reducible repeat (first | refine blk_drewN ?_ _ | refine blk_drew ?_ | refine blk_alloc ?_ _)); exact BK204.out⟩, ⟨by repeat (first | (with_reducible first | exact HB.out | apply below_alloc | apply pw_below_drewN | apply below_drew1 | refine below_set ?_ GE202.out | refine below_set ?_ GE204.out) | exact HB.out)⟩⟩
   case round =>
    clear H'
    try clear c1
    try clear c2
    try clear p2
    try clear q2
    try clear hx2
    try clear c3
    try clear c3b0
    try clear c4
    try clear c4b0
    try clear c13
    try clear hcz11_0
    try clear hcz11_1
    try clear hcz11_2
    try clear hcz11_3
    try clear hcz11_4
    try clear hcz11_5
    try clear hcz11_6
    try clear hcz11_7
    try clear hcz11_8
    try clear hcz14_0
    try clear hcz14_1
    try clear hcz14_10
    try clear hcz14_11
    try clear hcz14_12
    try clear hcz14_13
    try clear hcz14_2
    try clear hcz14_3
    try clear hcz14_4
    try clear hcz14_5
    try clear hcz14_6
    try clear hcz14_7
    try clear hcz14_8
    try clear hcz14_9
    try clear hcz16_0
    try clear hcz16_1
    try clear hcz16_10
    try clear hcz16_11
    try clear hcz16_12
    try clear hcz16_13
    try clear hcz16_2
    try clear hcz16_3
    try clear hcz16_4
    try clear hcz16_5
    try clear hcz16_6
    try clear hcz16_7
    try clear hcz16_8
    try clear hcz16_9
    try clear hfz11_0
    try clear hfz11_1
    try clear hfz11_2
    try clear hfz11_3
    try clear hfz11_4
    try clear hfz11_5
    try clear hfz11_6
    try clear hfz11_7
    try clear hfz11_8
    try clear hfz14_0
    try clear hfz14_1
    try clear hfz14_10
    try clear hfz14_11
    try clear hfz14_12
    try clear hfz14_13
    try clear hfz14_2
    try clear hfz14_3
    try clear hfz14_4
    try clear hfz14_5
    try clear hfz14_6
    try clear hfz14_7
    try clear hfz14_8
    try clear hfz14_9
    try clear hfz16_0
    try clear hfz16_1
    try clear hfz16_10
    try clear hfz16_11
    try clear hfz16_12
    try clear hfz16_13
    try clear hfz16_2
    try clear hfz16_3
    try clear hfz16_4
    try clear hfz16_5
    try clear hfz16_6
    try clear hfz16_7
    try clear hfz16_8
    try clear hfz16_9
    try clear hx203_0
    try clear hx203_1
    try clear hx203_10
    try clear hx203_11
    try clear hx203_12
    try clear hx203_13
    try clear hx203_2
    try clear hx203_3
    try clear hx203_4
    try clear hx203_5
    try clear hx203_6
    try clear hx203_7
    try clear hx203_8
    try clear hx203_9
    try clear p203
    try clear q203
    obtain ⟨x11_1, rfl, HA, HK1, BK202, BK204, HB⟩ := hrel
    cases gk with
    | zero => exact absurd HA.out (by simp [wharfingerref13_tenant.l0])
    | succ k1 =>
     have H := HA.out
     clear HA
     simp only [wharfingerref13_tenant.l0] at H
     by_cases c17 : x11_1 < a1
     ·
      rw [if_pos c17] at H
      have c17b0 : decide (x11_1 < a1) = true := decide_eq_true c17
      clear c17
      by_cases c18 : 0 ≤ x11_1
      ·
       rw [if_pos c18] at H
       have c18b0 : decide (0 ≤ x11_1) = true := decide_eq_true c18
       clear c18
       by_cases c19 : x11_1 < (l0_4.length : Int)
       ·
        rw [if_pos c19] at H
        have c19b0 : decide (x11_1 < (l0_4.length : Int)) = true := decide_eq_true c19
        clear c19
        by_cases c20 : ((rd_T40 l0_4 x11_1).f1).toList = ((rd_T40 l0_4 a1).f1).toList
        ·
         rw [if_pos c20] at H
         have c20b0 : (((rd_T40 l0_4 x11_1).f1).toList == ((rd_T40 l0_4 a1).f1).toList) = true := beq_iff_eq.mpr c20
         have c20b1 : (((rd_T40 l0_4 x11_1).f1).toList != ((rd_T40 l0_4 a1).f1).toList) = false := bne_eq_false_iff_eq.mpr c20
         clear c20
         obtain rfl := Option.some.inj H
         have hnb21 := NB202_204.out
         have hnc21 := NB204_202.out
         have hcz22_0 : wr.cell? ⟨gb202, 0, none⟩ = some (.int .u8 a0_0) := (blk_cell BK202.out 0).trans rfl
         have hcz22_1 : wr.cell? ⟨gb202, 1, none⟩ = some (.int .u8 a0_1) := (blk_cell BK202.out 1).trans rfl
         have hcz22_2 : wr.cell? ⟨gb202, 2, none⟩ = some (.int .u8 a0_2) := (blk_cell BK202.out 2).trans rfl
         have hcz22_3 : wr.cell? ⟨gb202, 3, none⟩ = some (.int .u8 a0_3) := (blk_cell BK202.out 3).trans rfl
         have hcz22_4 : wr.cell? ⟨gb202, 4, none⟩ = some (.slice (some ad203) l0_4.length c0_4) := (blk_cell BK202.out 4).trans rfl
         have hcz22_5 : wr.cell? ⟨gb202, 5, none⟩ = some (.int .i64 a0_5) := (blk_cell BK202.out 5).trans rfl
         have hcz22_6 : wr.cell? ⟨gb202, 6, none⟩ = some (.int .i64 a0_6) := (blk_cell BK202.out 6).trans rfl
         have hcz22_7 : wr.cell? ⟨gb202, 7, none⟩ = some (.int .i64 a0_7) := (blk_cell BK202.out 7).trans rfl
         have hcz22_8 : wr.cell? ⟨gb202, 8, none⟩ = some (.bool a0_8) := (blk_cell BK202.out 8).trans rfl
         have hfz22_0 := blk_frozen BK202.out 0
         have hfz22_1 := blk_frozen BK202.out 1
         have hfz22_2 := blk_frozen BK202.out 2
         have hfz22_3 := blk_frozen BK202.out 3
         have hfz22_4 := blk_frozen BK202.out 4
         have hfz22_5 := blk_frozen BK202.out 5
         have hfz22_6 := blk_frozen BK202.out 6
         have hfz22_7 := blk_frozen BK202.out 7
         have hfz22_8 := blk_frozen BK202.out 8
         have p210 : 0 ≤ (x11_1 : Int) := of_decide_eq_true (by first | (with_reducible assumption) | assumption)
         have q210 : x11_1 < (l0_4.length : Int) := of_decide_eq_true (by first | (with_reducible assumption) | assumption)
         obtain ⟨ad210, A210_9, c210_9, e210, hx210_0, hx210_1, hx210_2, hx210_3, hx210_4, hx210_5, hx210_6, hx210_7, hx210_8, hx210_9, hx210_10, hx210_11, hx210_12, hx210_13, hl210_9, hi210_9⟩ := at_T40 HR0_4.out x11_1 p210 q210
         obtain rfl : ad203 = ad210 := (by injection e210)
         replace hx210_0 := (HB.out.cell (World.block_lt_of_cell? w _ hx210_0)).trans hx210_0
         replace hx210_1 := (HB.out.cell (World.block_lt_of_cell? w _ hx210_1)).trans hx210_1
         replace hx210_2 := (HB.out.cell (World.block_lt_of_cell? w _ hx210_2)).trans hx210_2
         replace hx210_3 := (HB.out.cell (World.block_lt_of_cell? w _ hx210_3)).trans hx210_3
         replace hx210_4 := (HB.out.cell (World.block_lt_of_cell? w _ hx210_4)).trans hx210_4
         replace hx210_5 := (HB.out.cell (World.block_lt_of_cell? w _ hx210_5)).trans hx210_5
         replace hx210_6 := (HB.out.cell (World.block_lt_of_cell? w _ hx210_6)).trans hx210_6
         replace hx210_7 := (HB.out.cell (World.block_lt_of_cell? w _ hx210_7)).trans hx210_7
         replace hx210_8 := (HB.out.cell (World.block_lt_of_cell? w _ hx210_8)).trans hx210_8
         replace hx210_9 := (HB.out.cell (World.block_lt_of_cell? w _ hx210_9)).trans hx210_9
         replace hx210_10 := (HB.out.cell (World.block_lt_of_cell? w _ hx210_10)).trans hx210_10
         replace hx210_11 := (HB.out.cell (World.block_lt_of_cell? w _ hx210_11)).trans hx210_11
         replace hx210_12 := (HB.out.cell (World.block_lt_of_cell? w _ hx210_12)).trans hx210_12
         replace hx210_13 := (HB.out.cell (World.block_lt_of_cell? w _ hx210_13)).trans hx210_13
         have HR210_9 := Aside0.mk hi210_9
         have HC210_9 := Aside0.mk hl210_9
         clear hi210_9 hl210_9
         replace p210 := eq_true p210
         replace q210 := eq_true q210
         have hcz23_0 : wr.cell? ⟨gb204, 0, none⟩ = some (.string ((rd_T40 l0_4 a1).f0)) := (blk_cell BK204.out 0).trans rfl
         have hcz23_1 : wr.cell? ⟨gb204, 1, none⟩ = some (.string ((rd_T40 l0_4 a1).f1)) := (blk_cell BK204.out 1).trans rfl
         have hcz23_2 : wr.cell? ⟨gb204, 2, none⟩ = some (.int .u8 ((rd_T40 l0_4 a1).f2.f0.f0)) := (blk_cell BK204.out 2).trans rfl
         have hcz23_3 : wr.cell? ⟨gb204, 3, none⟩ = some (.int .u8 ((rd_T40 l0_4 a1).f2.f0.f1)) := (blk_cell BK204.out 3).trans rfl
         have hcz23_4 : wr.cell? ⟨gb204, 4, none⟩ = some (.int .u8 ((rd_T40 l0_4 a1).f2.f0.f2)) := (blk_cell BK204.out 4).trans rfl
         have hcz23_5 : wr.cell? ⟨gb204, 5, none⟩ = some (.int .u8 ((rd_T40 l0_4 a1).f2.f0.f3)) := (blk_cell BK204.out 5).trans rfl
         have hcz23_6 : wr.cell? ⟨gb204, 6, none⟩ = some (.int .i64 ((rd_T40 l0_4 a1).f2.f1)) := (blk_cell BK204.out 6).trans rfl
         have hcz23_7 : wr.cell? ⟨gb204, 7, none⟩ = some (.int .i64 ((rd_T40 l0_4 a1).f3)) := (blk_cell BK204.out 7).trans rfl
         have hcz23_8 : wr.cell? ⟨gb204, 8, none⟩ = some (.int .i64 ((rd_T40 l0_4 a1).f4)) := (blk_cell BK204.out 8).trans rfl
         have hcz23_9 : wr.cell? ⟨gb204, 9, none⟩ = some (.slice A203_9 ((rd_T40 l0_4 a1).f5).length c203_9) := (blk_cell BK204.out 9).trans rfl
         have hcz23_10 : wr.cell? ⟨gb204, 10, none⟩ = some (.int .i64 ((rd_T40 l0_4 a1).f6)) := (blk_cell BK204.out 10).trans rfl
         have hcz23_11 : wr.cell? ⟨gb204, 11, none⟩ = some (.int .i64 ((rd_T40 l0_4 a1).f7)) := (blk_cell BK204.out 11).trans rfl
         have hcz23_12 : wr.cell? ⟨gb204, 12, none⟩ = some (.int .i64 ((rd_T40 l0_4 a1).f8)) := (blk_cell BK204.out 12).trans rfl
         have hcz23_13 : wr.cell? ⟨gb204, 13, none⟩ = some (.int .i64 ((rd_T40 l0_4 a1).f9)) := (blk_cell BK204.out 13).trans rfl
         have hfz23_0 := blk_frozen BK204.out 0
         have hfz23_1 := blk_frozen BK204.out 1
         have hfz23_2 := blk_frozen BK204.out 2
         have hfz23_3 := blk_frozen BK204.out 3
         have hfz23_4 := blk_frozen BK204.out 4
         have hfz23_5 := blk_frozen BK204.out 5
         have hfz23_6 := blk_frozen BK204.out 6
         have hfz23_7 := blk_frozen BK204.out 7
         have hfz23_8 := blk_frozen BK204.out 8
         have hfz23_9 := blk_frozen BK204.out 9
         have hfz23_10 := blk_frozen BK204.out 10
         have hfz23_11 := blk_frozen BK204.out 11
         have hfz23_12 := blk_frozen BK204.out 12
         have hfz23_13 := blk_frozen BK204.out 13
         go_wp2
         repeat (go_quiet (fail); try go_wp2)
         go_ret
         exact ⟨by first | rfl | (simp [errW_none, errW_some] <;> rfl) | (simp [*, errW_none, errW_some] <;> rfl), by repeat (first | (with_reducible first | exact HB.out | apply below_alloc | apply pw_below_drewN | apply below_drew1 | refine below_set ?_ GE202.out | refine below_set ?_ GE204.out) | exact HB.out)⟩
        ·
         rw [if_neg c20] at H
         have c20b0 : (((rd_T40 l0_4 x11_1).f1).toList == ((rd_T40 l0_4 a1).f1).toList) = false := beq_eq_false_iff_ne.mpr c20
         have c20b1 : (((rd_T40 l0_4 x11_1).f1).toList != ((rd_T40 l0_4 a1).f1).toList) = true := bne_iff_ne.mpr c20
         have H' := Aside0.mk H
         clear H
         have hnb24 := NB202_204.out
         have hnc24 := NB204_202.out
         have hcz25_0 : wr.cell? ⟨gb202, 0, none⟩ = some (.int .u8 a0_0) := (blk_cell BK202.out 0).trans rfl
         have hcz25_1 : wr.cell? ⟨gb202, 1, none⟩ = some (.int .u8 a0_1) := (blk_cell BK202.out 1).trans rfl
         have hcz25_2 : wr.cell? ⟨gb202, 2, none⟩ = some (.int .u8 a0_2) := (blk_cell BK202.out 2).trans rfl
         have hcz25_3 : wr.cell? ⟨gb202, 3, none⟩ = some (.int .u8 a0_3) := (blk_cell BK202.out 3).trans rfl
         have hcz25_4 : wr.cell? ⟨gb202, 4, none⟩ = some (.slice (some ad203) l0_4.length c0_4) := (blk_cell BK202.out 4).trans rfl
         have hcz25_5 : wr.cell? ⟨gb202, 5, none⟩ = some (.int .i64 a0_5) := (blk_cell BK202.out 5).trans rfl
         have hcz25_6 : wr.cell? ⟨gb202, 6, none⟩ = some (.int .i64 a0_6) := (blk_cell BK202.out 6).trans rfl
         have hcz25_7 : wr.cell? ⟨gb202, 7, none⟩ = some (.int .i64 a0_7) := (blk_cell BK202.out 7).trans rfl
         have hcz25_8 : wr.cell? ⟨gb202, 8, none⟩ = some (.bool a0_8) := (blk_cell BK202.out 8).trans rfl
         have hfz25_0 := blk_frozen BK202.out 0
         have hfz25_1 := blk_frozen BK202.out 1
         have hfz25_2 := blk_frozen BK202.out 2
         have hfz25_3 := blk_frozen BK202.out 3
         have hfz25_4 := blk_frozen BK202.out 4
         have hfz25_5 := blk_frozen BK202.out 5
         have hfz25_6 := blk_frozen BK202.out 6
         have hfz25_7 := blk_frozen BK202.out 7
         have hfz25_8 := blk_frozen BK202.out 8
         have p210 : 0 ≤ (x11_1 : Int) := of_decide_eq_true (by first | (with_reducible assumption) | assumption)
         have q210 : x11_1 < (l0_4.length : Int) := of_decide_eq_true (by first | (with_reducible assumption) | assumption)
         obtain ⟨ad210, A210_9, c210_9, e210, hx210_0, hx210_1, hx210_2, hx210_3, hx210_4, hx210_5, hx210_6, hx210_7, hx210_8, hx210_9, hx210_10, hx210_11, hx210_12, hx210_13, hl210_9, hi210_9⟩ := at_T40 HR0_4.out x11_1 p210 q210
         obtain rfl : ad203 = ad210 := (by injection e210)
         replace hx210_0 := (HB.out.cell (World.block_lt_of_cell? w _ hx210_0)).trans hx210_0
         replace hx210_1 := (HB.out.cell (World.block_lt_of_cell? w _ hx210_1)).trans hx210_1
         replace hx210_2 := (HB.out.cell (World.block_lt_of_cell? w _ hx210_2)).trans hx210_2
         replace hx210_3 := (HB.out.cell (World.block_lt_of_cell? w _ hx210_3)).trans hx210_3
         replace hx210_4 := (HB.out.cell (World.block_lt_of_cell? w _ hx210_4)).trans hx210_4
         replace hx210_5 := (HB.out.cell (World.block_lt_of_cell? w _ hx210_5)).trans hx210_5
         replace hx210_6 := (HB.out.cell (World.block_lt_of_cell? w _ hx210_6)).trans hx210_6
         replace hx210_7 := (HB.out.cell (World.block_lt_of_cell? w _ hx210_7)).trans hx210_7
         replace hx210_8 := (HB.out.cell (World.block_lt_of_cell? w _ hx210_8)).trans hx210_8
         replace hx210_9 := (HB.out.cell (World.block_lt_of_cell? w _ hx210_9)).trans hx210_9
         replace hx210_10 := (HB.out.cell (World.block_lt_of_cell? w _ hx210_10)).trans hx210_10
         replace hx210_11 := (HB.out.cell (World.block_lt_of_cell? w _ hx210_11)).trans hx210_11
         replace hx210_12 := (HB.out.cell (World.block_lt_of_cell? w _ hx210_12)).trans hx210_12
         replace hx210_13 := (HB.out.cell (World.block_lt_of_cell? w _ hx210_13)).trans hx210_13
         have HR210_9 := Aside0.mk hi210_9
         have HC210_9 := Aside0.mk hl210_9
         clear hi210_9 hl210_9
         replace p210 := eq_true p210
         replace q210 := eq_true q210
         have hcz26_0 : wr.cell? ⟨gb204, 0, none⟩ = some (.string ((rd_T40 l0_4 a1).f0)) := (blk_cell BK204.out 0).trans rfl
         have hcz26_1 : wr.cell? ⟨gb204, 1, none⟩ = some (.string ((rd_T40 l0_4 a1).f1)) := (blk_cell BK204.out 1).trans rfl
         have hcz26_2 : wr.cell? ⟨gb204, 2, none⟩ = some (.int .u8 ((rd_T40 l0_4 a1).f2.f0.f0)) := (blk_cell BK204.out 2).trans rfl
         have hcz26_3 : wr.cell? ⟨gb204, 3, none⟩ = some (.int .u8 ((rd_T40 l0_4 a1).f2.f0.f1)) := (blk_cell BK204.out 3).trans rfl
         have hcz26_4 : wr.cell? ⟨gb204, 4, none⟩ = some (.int .u8 ((rd_T40 l0_4 a1).f2.f0.f2)) := (blk_cell BK204.out 4).trans rfl
         have hcz26_5 : wr.cell? ⟨gb204, 5, none⟩ = some (.int .u8 ((rd_T40 l0_4 a1).f2.f0.f3)) := (blk_cell BK204.out 5).trans rfl
         have hcz26_6 : wr.cell? ⟨gb204, 6, none⟩ = some (.int .i64 ((rd_T40 l0_4 a1).f2.f1)) := (blk_cell BK204.out 6).trans rfl
         have hcz26_7 : wr.cell? ⟨gb204, 7, none⟩ = some (.int .i64 ((rd_T40 l0_4 a1).f3)) := (blk_cell BK204.out 7).trans rfl
         have hcz26_8 : wr.cell? ⟨gb204, 8, none⟩ = some (.int .i64 ((rd_T40 l0_4 a1).f4)) := (blk_cell BK204.out 8).trans rfl
         have hcz26_9 : wr.cell? ⟨gb204, 9, none⟩ = some (.slice A203_9 ((rd_T40 l0_4 a1).f5).length c203_9) := (blk_cell BK204.out 9).trans rfl
         have hcz26_10 : wr.cell? ⟨gb204, 10, none⟩ = some (.int .i64 ((rd_T40 l0_4 a1).f6)) := (blk_cell BK204.out 10).trans rfl
         have hcz26_11 : wr.cell? ⟨gb204, 11, none⟩ = some (.int .i64 ((rd_T40 l0_4 a1).f7)) := (blk_cell BK204.out 11).trans rfl
         have hcz26_12 : wr.cell? ⟨gb204, 12, none⟩ = some (.int .i64 ((rd_T40 l0_4 a1).f8)) := (blk_cell BK204.out 12).trans rfl
         have hcz26_13 : wr.cell? ⟨gb204, 13, none⟩ = some (.int .i64 ((rd_T40 l0_4 a1).f9)) := (blk_cell BK204.out 13).trans rfl
         have hfz26_0 := blk_frozen BK204.out 0
         have hfz26_1 := blk_frozen BK204.out 1
         have hfz26_2 := blk_frozen BK204.out 2
         have hfz26_3 := blk_frozen BK204.out 3
         have hfz26_4 := blk_frozen BK204.out 4
         have hfz26_5 := blk_frozen BK204.out 5
         have hfz26_6 := blk_frozen BK204.out 6
         have hfz26_7 := blk_frozen BK204.out 7
         have hfz26_8 := blk_frozen BK204.out 8
         have hfz26_9 := blk_frozen BK204.out 9
         have hfz26_10 := blk_frozen BK204.out 10
         have hfz26_11 := blk_frozen BK204.out 11
         have hfz26_12 := blk_frozen BK204.out 12
         have hfz26_13 := blk_frozen BK204.out 13
         go_wp2
         repeat (go_quiet (fail); try go_wp2)
         go_roundg k1
         case measure => have := HK1.out; omega
         case rel => exact ⟨(wrap64 (x11_1 + 1)), (by first | rfl | (simp; done) | (simp [*]; done)), H', ⟨by have := HK1.out; omega⟩, ⟨by (with_reducible repeat (first | refine blk_drewN ?_ _ | refine blk_drew ?_ | refine blk_alloc ?_ _)); exact BK202.out⟩, ⟨by (with_reducible repeat (first | refine blk_drewN ?_ _ | refine blk_drew ?_ | refine blk_alloc ?_ _)); exact BK204.out⟩, ⟨by repeat (first | (with_reducible first | exact HB.out | apply below_alloc | apply pw_below_drewN | apply below_drew1 | refine below_set ?_ GE202.out | refine below_set ?_ GE204.out) | exact HB.out)⟩⟩
       ·
        rw [if_neg c19] at H
        exact absurd H (by simp)
      ·
       rw [if_neg c18] at H
       exact absurd H (by simp)
     ·
      rw [if_neg c17] at H
      have c17b0 : decide (x11_1 < a1) = false := decide_eq_false c17
      clear c17
      replace H := Option.bind_eq_some_iff.mp H
      obtain ⟨t211, A270, H⟩ := H
      replace H : ((wharfingerref13_in.f ((rd_T40 l0_4 a1).f7) 1 8).bind fun t212 => ((wharfingerref13_in.f ((rd_T40 l0_4 a1).f2.f1) 1 65535).bind fun t213 => (if t205 = true then (if t206 = true then (if t207 = true then (if t208 = true then (if t209 = true then (if t211 = true then (if t212 = true then (some t213) else (some false)) else (some false)) else (some false)) else (some false)) else (some false)) else (some false)) else (some false)))) = some r := H
      have A27 := Aside0.mk A270
      clear A270
      replace H := Option.bind_eq_some_iff.mp H
      obtain ⟨t212, A280, H⟩ := H
      replace H : ((wharfingerref13_in.f ((rd_T40 l0_4 a1).f2.f1) 1 65535).bind fun t213 => (if t205 = true then (if t206 = true then (if t207 = true then (if t208 = true then (if t209 = true then (if t211 = true then (if t212 = true then (some t213) else (some false)) else (some false)) else (some false)) else (some false)) else (some false)) else (some false)) else (some false))) = some r := H
      have A28 := Aside0.mk A280
      clear A280
      replace H := Option.bind_eq_some_iff.mp H
      obtain ⟨t213, A290, H⟩ := H
      replace H : (if t205 = true then (if t206 = true then (if t207 = true then (if t208 = true then (if t209 = true then (if t211 = true then (if t212 = true then (some t213) else (some false)) else (some false)) else (some false)) else (some false)) else (some false)) else (some false)) else (some false)) = some r := H
      have A29 := Aside0.mk A290
      clear A290
      by_cases c30 : t205 = true
      ·
       subst c30
       have H1 : (if t206 = true then (if t207 = true then (if t208 = true then (if t209 = true then (if t211 = true then (if t212 = true then (some t213) else (some false)) else (some false)) else (some false)) else (some false)) else (some false)) else (some false)) = some r := by rw [if_pos rfl] at H; exact H
       clear H
       have H := H1
       clear H1
       by_cases c31 : t206 = true
       ·
        subst c31
        have H1 : (if t207 = true then (if t208 = true then (if t209 = true then (if t211 = true then (if t212 = true then (some t213) else (some false)) else (some false)) else (some false)) else (some false)) else (some false)) = some r := by rw [if_pos rfl] at H; exact H
        clear H
        have H := H1
        clear H1
        by_cases c32 : t207 = true
        ·
         subst c32
         have H1 : (if t208 = true then (if t209 = true then (if t211 = true then (if t212 = true then (some t213) else (some false)) else (some false)) else (some false)) else (some false)) = some r := by rw [if_pos rfl] at H; exact H
         clear H
         have H := H1
         clear H1
         by_cases c33 : t208 = true
         ·
          subst c33
          have H1 : (if t209 = true then (if t211 = true then (if t212 = true then (some t213) else (some false)) else (some false)) else (some false)) = some r := by rw [if_pos rfl] at H; exact H
          clear H
          have H := H1
          clear H1
          by_cases c34 : t209 = true
          ·
           subst c34
           have H1 : (if t211 = true then (if t212 = true then (some t213) else (some false)) else (some false)) = some r := by rw [if_pos rfl] at H; exact H
           clear H
           have H := H1
           clear H1
           by_cases c35 : t211 = true
           ·
            subst c35
            have H1 : (if t212 = true then (some t213) else (some false)) = some r := by rw [if_pos rfl] at H; exact H
            clear H
            have H := H1
            clear H1
            by_cases c36 : t212 = true
            ·
             subst c36
             have H1 : (some t213) = some r := by rw [if_pos rfl] at H; exact H
             clear H
             have H := H1
             clear H1
             obtain rfl := Option.some.inj H
             have hnb37 := NB204_202.out
             have hnc37 := NB202_204.out
             have hcz38_0 : wr.cell? ⟨gb204, 0, none⟩ = some (.string ((rd_T40 l0_4 a1).f0)) := (blk_cell BK204.out 0).trans rfl
             have hcz38_1 : wr.cell? ⟨gb204, 1, none⟩ = some (.string ((rd_T40 l0_4 a1).f1)) := (blk_cell BK204.out 1).trans rfl
             have hcz38_2 : wr.cell? ⟨gb204, 2, none⟩ = some (.int .u8 ((rd_T40 l0_4 a1).f2.f0.f0)) := (blk_cell BK204.out 2).trans rfl
             have hcz38_3 : wr.cell? ⟨gb204, 3, none⟩ = some (.int .u8 ((rd_T40 l0_4 a1).f2.f0.f1)) := (blk_cell BK204.out 3).trans rfl
             have hcz38_4 : wr.cell? ⟨gb204, 4, none⟩ = some (.int .u8 ((rd_T40 l0_4 a1).f2.f0.f2)) := (blk_cell BK204.out 4).trans rfl
             have hcz38_5 : wr.cell? ⟨gb204, 5, none⟩ = some (.int .u8 ((rd_T40 l0_4 a1).f2.f0.f3)) := (blk_cell BK204.out 5).trans rfl
             have hcz38_6 : wr.cell? ⟨gb204, 6, none⟩ = some (.int .i64 ((rd_T40 l0_4 a1).f2.f1)) := (blk_cell BK204.out 6).trans rfl
             have hcz38_7 : wr.cell? ⟨gb204, 7, none⟩ = some (.int .i64 ((rd_T40 l0_4 a1).f3)) := (blk_cell BK204.out 7).trans rfl
             have hcz38_8 : wr.cell? ⟨gb204, 8, none⟩ = some (.int .i64 ((rd_T40 l0_4 a1).f4)) := (blk_cell BK204.out 8).trans rfl
             have hcz38_9 : wr.cell? ⟨gb204, 9, none⟩ = some (.slice A203_9 ((rd_T40 l0_4 a1).f5).length c203_9) := (blk_cell BK204.out 9).trans rfl
             have hcz38_10 : wr.cell? ⟨gb204, 10, none⟩ = some (.int .i64 ((rd_T40 l0_4 a1).f6)) := (blk_cell BK204.out 10).trans rfl
             have hcz38_11 : wr.cell? ⟨gb204, 11, none⟩ = some (.int .i64 ((rd_T40 l0_4 a1).f7)) := (blk_cell BK204.out 11).trans rfl
             have hcz38_12 : wr.cell? ⟨gb204, 12, none⟩ = some (.int .i64 ((rd_T40 l0_4 a1).f8)) := (blk_cell BK204.out 12).trans rfl
             have hcz38_13 : wr.cell? ⟨gb204, 13, none⟩ = some (.int .i64 ((rd_T40 l0_4 a1).f9)) := (blk_cell BK204.out 13).trans rfl
             have hfz38_0 := blk_frozen BK204.out 0
             have hfz38_1 := blk_frozen BK204.out 1
             have hfz38_2 := blk_frozen BK204.out 2
             have hfz38_3 := blk_frozen BK204.out 3
             have hfz38_4 := blk_frozen BK204.out 4
             have hfz38_5 := blk_frozen BK204.out 5
             have hfz38_6 := blk_frozen BK204.out 6
             have hfz38_7 := blk_frozen BK204.out 7
             have hfz38_8 := blk_frozen BK204.out 8
             have hfz38_9 := blk_frozen BK204.out 9
             have hfz38_10 := blk_frozen BK204.out 10
             have hfz38_11 := blk_frozen BK204.out 11
             have hfz38_12 := blk_frozen BK204.out 12
             have hfz38_13 := blk_frozen BK204.out 13
             go_wp2_with (first | (go_at_call 19; (with_reducible refine (wharfingerref13_in.calls ((rd_T40 l0_4 a1).f6) 1 8 true _ A27.out).mono ?_); rintro e w' ⟨rfl, ⟨nd, rfl⟩⟩; (try first | exact ⟨rfl, _, World.drewN_drewN _ _ _⟩ | exact ⟨rfl, _, Eq.trans (World.drewN_drewN _ _ _) (congrArg (World.drewN _) (Nat.add_assoc _ _ _))⟩)) | (go_at_call 19; (with_reducible refine (wharfingerref13_in.calls ((rd_T40 l0_4 a1).f7) 1 8 true _ A28.out).mono ?_); rintro e w' ⟨rfl, ⟨nd, rfl⟩⟩; (try first | exact ⟨rfl, _, World.drewN_drewN _ _ _⟩ | exact ⟨rfl, _, Eq.trans (World.drewN_drewN _ _ _) (congrArg (World.drewN _) (Nat.add_assoc _ _ _))⟩)) | (go_at_call 19; (with_reducible refine (wharfingerref13_in.calls ((rd_T40 l0_4 a1).f2.f1) 1 65535 t213 _ A29.out).mono ?_); rintro e w' ⟨rfl, ⟨nd, rfl⟩⟩; (try first | exact ⟨rfl, _, World.drewN_drewN _ _ _⟩ | exact ⟨rfl, _, Eq.trans (World.drewN_drewN _ _ _) (congrArg (World.drewN _) (Nat.add_assoc _ _ _))⟩)))
             repeat (go_quiet (first | (go_at_call 19; (with_reducible refine (wharfingerref13_in.calls ((rd_T40 l0_4 a1).f6) 1 8 true _ A27.out).mono ?_); rintro e w' ⟨rfl, ⟨nd, rfl⟩⟩; (try first | exact ⟨rfl, _, World.drewN_drewN _ _ _⟩ | exact ⟨rfl, _, Eq.trans (World.drewN_drewN _ _ _) (congrArg (World.drewN _) (Nat.add_assoc _ _ _))⟩)) | (go_at_call 19; (with_reducible refine (wharfingerref13_in.calls ((rd_T40 l0_4 a1).f7) 1 8 true _ A28.out).mono ?_); rintro e w' ⟨rfl, ⟨nd, rfl⟩⟩; (try first | exact ⟨rfl, _, World.drewN_drewN _ _ _⟩ | exact ⟨rfl, _, Eq.trans (World.drewN_drewN _ _ _) (congrArg (World.drewN _) (Nat.add_assoc _ _ _))⟩)) | (go_at_call 19; (with_reducible refine (wharfingerref13_in.calls ((rd_T40 l0_4 a1).f2.f1) 1 65535 t213 _ A29.out).mono ?_); rintro e w' ⟨rfl, ⟨nd, rfl⟩⟩; (try first | exact ⟨rfl, _, World.drewN_drewN _ _ _⟩ | exact ⟨rfl, _, Eq.trans (World.drewN_drewN _ _ _) (congrArg (World.drewN _) (Nat.add_assoc _ _ _))⟩))); try go_wp2_with (first | (go_at_call 19; (with_reducible refine (wharfingerref13_in.calls ((rd_T40 l0_4 a1).f6) 1 8 true _ A27.out).mono ?_); rintro e w' ⟨rfl, ⟨nd, rfl⟩⟩; (try first | exact ⟨rfl, _, World.drewN_drewN _ _ _⟩ | exact ⟨rfl, _, Eq.trans (World.drewN_drewN _ _ _) (congrArg (World.drewN _) (Nat.add_assoc _ _ _))⟩)) | (go_at_call 19; (with_reducible refine (wharfingerref13_in.calls ((rd_T40 l0_4 a1).f7) 1 8 true _ A28.out).mono ?_); rintro e w' ⟨rfl, ⟨nd, rfl⟩⟩; (try first | exact ⟨rfl, _, World.drewN_drewN _ _ _⟩ | exact ⟨rfl, _, Eq.trans (World.drewN_drewN _ _ _) (congrArg (World.drewN _) (Nat.add_assoc _ _ _))⟩)) | (go_at_call 19; (with_reducible refine (wharfingerref13_in.calls ((rd_T40 l0_4 a1).f2.f1) 1 65535 t213 _ A29.out).mono ?_); rintro e w' ⟨rfl, ⟨nd, rfl⟩⟩; (try first | exact ⟨rfl, _, World.drewN_drewN _ _ _⟩ | exact ⟨rfl, _, Eq.trans (World.drewN_drewN _ _ _) (congrArg (World.drewN _) (Nat.add_assoc _ _ _))⟩))))
             go_ret
             exact ⟨by first | rfl | (simp [errW_none, errW_some] <;> rfl) | (simp [*, errW_none, errW_some] <;> rfl), by repeat (first | (with_reducible first | exact HB.out | apply below_alloc | apply pw_below_drewN | apply below_drew1 | refine below_set ?_ GE202.out | refine below_set ?_ GE204.out) | exact HB.out)⟩
            ·
             replace c36 := Bool.eq_false_iff.mpr c36
             subst c36
             have H1 : (some false) = some r := by rw [if_neg (show ¬ (false = true) by decide)] at H; exact H
             clear H
             have H := H1
             clear H1
             obtain rfl := Option.some.inj H
             have hnb39 := NB204_202.out
             have hnc39 := NB202_204.out
             have hcz40_0 : wr.cell? ⟨gb204, 0, none⟩ = some (.string ((rd_T40 l0_4 a1).f0)) := (blk_cell BK204.out 0).trans rfl
             have hcz40_1 : wr.cell? ⟨gb204, 1, none⟩ = some (.string ((rd_T40 l0_4 a1).f1)) := (blk_cell BK204.out 1).trans rfl
             have hcz40_2 : wr.cell? ⟨gb204, 2, none⟩ = some (.int .u8 ((rd_T40 l0_4 a1).f2.f0.f0)) := (blk_cell BK204.out 2).trans rfl
             have hcz40_3 : wr.cell? ⟨gb204, 3, none⟩ = some (.int .u8 ((rd_T40 l0_4 a1).f2.f0.f1)) := (blk_cell BK204.out 3).trans rfl
             have hcz40_4 : wr.cell? ⟨gb204, 4, none⟩ = some (.int .u8 ((rd_T40 l0_4 a1).f2.f0.f2)) := (blk_cell BK204.out 4).trans rfl
             have hcz40_5 : wr.cell? ⟨gb204, 5, none⟩ = some (.int .u8 ((rd_T40 l0_4 a1).f2.f0.f3)) := (blk_cell BK204.out 5).trans rfl
             have hcz40_6 : wr.cell? ⟨gb204, 6, none⟩ = some (.int .i64 ((rd_T40 l0_4 a1).f2.f1)) := (blk_cell BK204.out 6).trans rfl
             have hcz40_7 : wr.cell? ⟨gb204, 7, none⟩ = some (.int .i64 ((rd_T40 l0_4 a1).f3)) := (blk_cell BK204.out 7).trans rfl
             have hcz40_8 : wr.cell? ⟨gb204, 8, none⟩ = some (.int .i64 ((rd_T40 l0_4 a1).f4)) := (blk_cell BK204.out 8).trans rfl
             have hcz40_9 : wr.cell? ⟨gb204, 9, none⟩ = some (.slice A203_9 ((rd_T40 l0_4 a1).f5).length c203_9) := (blk_cell BK204.out 9).trans rfl
             have hcz40_10 : wr.cell? ⟨gb204, 10, none⟩ = some (.int .i64 ((rd_T40 l0_4 a1).f6)) := (blk_cell BK204.out 10).trans rfl
             have hcz40_11 : wr.cell? ⟨gb204, 11, none⟩ = some (.int .i64 ((rd_T40 l0_4 a1).f7)) := (blk_cell BK204.out 11).trans rfl
             have hcz40_12 : wr.cell? ⟨gb204, 12, none⟩ = some (.int .i64 ((rd_T40 l0_4 a1).f8)) := (blk_cell BK204.out 12).trans rfl
             have hcz40_13 : wr.cell? ⟨gb204, 13, none⟩ = some (.int .i64 ((rd_T40 l0_4 a1).f9)) := (blk_cell BK204.out 13).trans rfl
             have hfz40_0 := blk_frozen BK204.out 0
             have hfz40_1 := blk_frozen BK204.out 1
             have hfz40_2 := blk_frozen BK204.out 2
             have hfz40_3 := blk_frozen BK204.out 3
             have hfz40_4 := blk_frozen BK204.out 4
             have hfz40_5 := blk_frozen BK204.out 5
             have hfz40_6 := blk_frozen BK204.out 6
             have hfz40_7 := blk_frozen BK204.out 7
             have hfz40_8 := blk_frozen BK204.out 8
             have hfz40_9 := blk_frozen BK204.out 9
             have hfz40_10 := blk_frozen BK204.out 10
             have hfz40_11 := blk_frozen BK204.out 11
             have hfz40_12 := blk_frozen BK204.out 12
             have hfz40_13 := blk_frozen BK204.out 13
             go_wp2_with (first | (go_at_call 19; (with_reducible refine (wharfingerref13_in.calls ((rd_T40 l0_4 a1).f6) 1 8 true _ A27.out).mono ?_); rintro e w' ⟨rfl, ⟨nd, rfl⟩⟩; (try first | exact ⟨rfl, _, World.drewN_drewN _ _ _⟩ | exact ⟨rfl, _, Eq.trans (World.drewN_drewN _ _ _) (congrArg (World.drewN _) (Nat.add_assoc _ _ _))⟩)) | (go_at_call 19; (with_reducible refine (wharfingerref13_in.calls ((rd_T40 l0_4 a1).f7) 1 8 false _ A28.out).mono ?_); rintro e w' ⟨rfl, ⟨nd, rfl⟩⟩; (try first | exact ⟨rfl, _, World.drewN_drewN _ _ _⟩ | exact ⟨rfl, _, Eq.trans (World.drewN_drewN _ _ _) (congrArg (World.drewN _) (Nat.add_assoc _ _ _))⟩)) | (go_at_call 19; (with_reducible refine (wharfingerref13_in.calls ((rd_T40 l0_4 a1).f2.f1) 1 65535 t213 _ A29.out).mono ?_); rintro e w' ⟨rfl, ⟨nd, rfl⟩⟩; (try first | exact ⟨rfl, _, World.drewN_drewN _ _ _⟩ | exact ⟨rfl, _, Eq.trans (World.drewN_drewN _ _ _) (congrArg (World.drewN _) (Nat.add_assoc _ _ _))⟩)))
             repeat (go_quiet (first | (go_at_call 19; (with_reducible refine (wharfingerref13_in.calls ((rd_T40 l0_4 a1).f6) 1 8 true _ A27.out).mono ?_); rintro e w' ⟨rfl, ⟨nd, rfl⟩⟩; (try first | exact ⟨rfl, _, World.drewN_drewN _ _ _⟩ | exact ⟨rfl, _, Eq.trans (World.drewN_drewN _ _ _) (congrArg (World.drewN _) (Nat.add_assoc _ _ _))⟩)) | (go_at_call 19; (with_reducible refine (wharfingerref13_in.calls ((rd_T40 l0_4 a1).f7) 1 8 false _ A28.out).mono ?_); rintro e w' ⟨rfl, ⟨nd, rfl⟩⟩; (try first | exact ⟨rfl, _, World.drewN_drewN _ _ _⟩ | exact ⟨rfl, _, Eq.trans (World.drewN_drewN _ _ _) (congrArg (World.drewN _) (Nat.add_assoc _ _ _))⟩)) | (go_at_call 19; (with_reducible refine (wharfingerref13_in.calls ((rd_T40 l0_4 a1).f2.f1) 1 65535 t213 _ A29.out).mono ?_); rintro e w' ⟨rfl, ⟨nd, rfl⟩⟩; (try first | exact ⟨rfl, _, World.drewN_drewN _ _ _⟩ | exact ⟨rfl, _, Eq.trans (World.drewN_drewN _ _ _) (congrArg (World.drewN _) (Nat.add_assoc _ _ _))⟩))); try go_wp2_with (first | (go_at_call 19; (with_reducible refine (wharfingerref13_in.calls ((rd_T40 l0_4 a1).f6) 1 8 true _ A27.out).mono ?_); rintro e w' ⟨rfl, ⟨nd, rfl⟩⟩; (try first | exact ⟨rfl, _, World.drewN_drewN _ _ _⟩ | exact ⟨rfl, _, Eq.trans (World.drewN_drewN _ _ _) (congrArg (World.drewN _) (Nat.add_assoc _ _ _))⟩)) | (go_at_call 19; (with_reducible refine (wharfingerref13_in.calls ((rd_T40 l0_4 a1).f7) 1 8 false _ A28.out).mono ?_); rintro e w' ⟨rfl, ⟨nd, rfl⟩⟩; (try first | exact ⟨rfl, _, World.drewN_drewN _ _ _⟩ | exact ⟨rfl, _, Eq.trans (World.drewN_drewN _ _ _) (congrArg (World.drewN _) (Nat.add_assoc _ _ _))⟩)) | (go_at_call 19; (with_reducible refine (wharfingerref13_in.calls ((rd_T40 l0_4 a1).f2.f1) 1 65535 t213 _ A29.out).mono ?_); rintro e w' ⟨rfl, ⟨nd, rfl⟩⟩; (try first | exact ⟨rfl, _, World.drewN_drewN _ _ _⟩ | exact ⟨rfl, _, Eq.trans (World.drewN_drewN _ _ _) (congrArg (World.drewN _) (Nat.add_assoc _ _ _))⟩))))
             go_ret
             exact ⟨by first | rfl | (simp [errW_none, errW_some] <;> rfl) | (simp [*, errW_none, errW_some] <;> rfl), by repeat (first | (with_reducible first | exact HB.out | apply below_alloc | apply pw_below_drewN | apply below_drew1 | refine below_set ?_ GE202.out | refine below_set ?_ GE204.out) | exact HB.out)⟩
           ·
            replace c35 := Bool.eq_false_iff.mpr c35
            subst c35
            have H1 : (some false) = some r := by rw [if_neg (show ¬ (false = true) by decide)] at H; exact H
            clear H
            have H := H1
            clear H1
            obtain rfl := Option.some.inj H
            have hnb41 := NB204_202.out
            have hnc41 := NB202_204.out
            have hcz42_0 : wr.cell? ⟨gb204, 0, none⟩ = some (.string ((rd_T40 l0_4 a1).f0)) := (blk_cell BK204.out 0).trans rfl
            have hcz42_1 : wr.cell? ⟨gb204, 1, none⟩ = some (.string ((rd_T40 l0_4 a1).f1)) := (blk_cell BK204.out 1).trans rfl
            have hcz42_2 : wr.cell? ⟨gb204, 2, none⟩ = some (.int .u8 ((rd_T40 l0_4 a1).f2.f0.f0)) := (blk_cell BK204.out 2).trans rfl
            have hcz42_3 : wr.cell? ⟨gb204, 3, none⟩ = some (.int .u8 ((rd_T40 l0_4 a1).f2.f0.f1)) := (blk_cell BK204.out 3).trans rfl
            have hcz42_4 : wr.cell? ⟨gb204, 4, none⟩ = some (.int .u8 ((rd_T40 l0_4 a1).f2.f0.f2)) := (blk_cell BK204.out 4).trans rfl
            have hcz42_5 : wr.cell? ⟨gb204, 5, none⟩ = some (.int .u8 ((rd_T40 l0_4 a1).f2.f0.f3)) := (blk_cell BK204.out 5).trans rfl
            have hcz42_6 : wr.cell? ⟨gb204, 6, none⟩ = some (.int .i64 ((rd_T40 l0_4 a1).f2.f1)) := (blk_cell BK204.out 6).trans rfl
            have hcz42_7 : wr.cell? ⟨gb204, 7, none⟩ = some (.int .i64 ((rd_T40 l0_4 a1).f3)) := (blk_cell BK204.out 7).trans rfl
            have hcz42_8 : wr.cell? ⟨gb204, 8, none⟩ = some (.int .i64 ((rd_T40 l0_4 a1).f4)) := (blk_cell BK204.out 8).trans rfl
            have hcz42_9 : wr.cell? ⟨gb204, 9, none⟩ = some (.slice A203_9 ((rd_T40 l0_4 a1).f5).length c203_9) := (blk_cell BK204.out 9).trans rfl
            have hcz42_10 : wr.cell? ⟨gb204, 10, none⟩ = some (.int .i64 ((rd_T40 l0_4 a1).f6)) := (blk_cell BK204.out 10).trans rfl
            have hcz42_11 : wr.cell? ⟨gb204, 11, none⟩ = some (.int .i64 ((rd_T40 l0_4 a1).f7)) := (blk_cell BK204.out 11).trans rfl
            have hcz42_12 : wr.cell? ⟨gb204, 12, none⟩ = some (.int .i64 ((rd_T40 l0_4 a1).f8)) := (blk_cell BK204.out 12).trans rfl
            have hcz42_13 : wr.cell? ⟨gb204, 13, none⟩ = some (.int .i64 ((rd_T40 l0_4 a1).f9)) := (blk_cell BK204.out 13).trans rfl
            have hfz42_0 := blk_frozen BK204.out 0
            have hfz42_1 := blk_frozen BK204.out 1
            have hfz42_2 := blk_frozen BK204.out 2
            have hfz42_3 := blk_frozen BK204.out 3
            have hfz42_4 := blk_frozen BK204.out 4
            have hfz42_5 := blk_frozen BK204.out 5
            have hfz42_6 := blk_frozen BK204.out 6
            have hfz42_7 := blk_frozen BK204.out 7
            have hfz42_8 := blk_frozen BK204.out 8
            have hfz42_9 := blk_frozen BK204.out 9
            have hfz42_10 := blk_frozen BK204.out 10
            have hfz42_11 := blk_frozen BK204.out 11
            have hfz42_12 := blk_frozen BK204.out 12
            have hfz42_13 := blk_frozen BK204.out 13
            go_wp2_with (first | (go_at_call 19; (with_reducible refine (wharfingerref13_in.calls ((rd_T40 l0_4 a1).f6) 1 8 false _ A27.out).mono ?_); rintro e w' ⟨rfl, ⟨nd, rfl⟩⟩; (try first | exact ⟨rfl, _, World.drewN_drewN _ _ _⟩ | exact ⟨rfl, _, Eq.trans (World.drewN_drewN _ _ _) (congrArg (World.drewN _) (Nat.add_assoc _ _ _))⟩)) | (go_at_call 19; (with_reducible refine (wharfingerref13_in.calls ((rd_T40 l0_4 a1).f7) 1 8 t212 _ A28.out).mono ?_); rintro e w' ⟨rfl, ⟨nd, rfl⟩⟩; (try first | exact ⟨rfl, _, World.drewN_drewN _ _ _⟩ | exact ⟨rfl, _, Eq.trans (World.drewN_drewN _ _ _) (congrArg (World.drewN _) (Nat.add_assoc _ _ _))⟩)) | (go_at_call 19; (with_reducible refine (wharfingerref13_in.calls ((rd_T40 l0_4 a1).f2.f1) 1 65535 t213 _ A29.out).mono ?_); rintro e w' ⟨rfl, ⟨nd, rfl⟩⟩; (try first | exact ⟨rfl, _, World.drewN_drewN _ _ _⟩ | exact ⟨rfl, _, Eq.trans (World.drewN_drewN _ _ _) (congrArg (World.drewN _) (Nat.add_assoc _ _ _))⟩)))
            repeat (go_quiet (first | (go_at_call 19; (with_reducible refine (wharfingerref13_in.calls ((rd_T40 l0_4 a1).f6) 1 8 false _ A27.out).mono ?_); rintro e w' ⟨rfl, ⟨nd, rfl⟩⟩; (try first | exact ⟨rfl, _, World.drewN_drewN _ _ _⟩ | exact ⟨rfl, _, Eq.trans (World.drewN_drewN _ _ _) (congrArg (World.drewN _) (Nat.add_assoc _ _ _))⟩)) | (go_at_call 19; (with_reducible refine (wharfingerref13_in.calls ((rd_T40 l0_4 a1).f7) 1 8 t212 _ A28.out).mono ?_); rintro e w' ⟨rfl, ⟨nd, rfl⟩⟩; (try first | exact ⟨rfl, _, World.drewN_drewN _ _ _⟩ | exact ⟨rfl, _, Eq.trans (World.drewN_drewN _ _ _) (congrArg (World.drewN _) (Nat.add_assoc _ _ _))⟩)) | (go_at_call 19; (with_reducible refine (wharfingerref13_in.calls ((rd_T40 l0_4 a1).f2.f1) 1 65535 t213 _ A29.out).mono ?_); rintro e w' ⟨rfl, ⟨nd, rfl⟩⟩; (try first | exact ⟨rfl, _, World.drewN_drewN _ _ _⟩ | exact ⟨rfl, _, Eq.trans (World.drewN_drewN _ _ _) (congrArg (World.drewN _) (Nat.add_assoc _ _ _))⟩))); try go_wp2_with (first | (go_at_call 19; (with_reducible refine (wharfingerref13_in.calls ((rd_T40 l0_4 a1).f6) 1 8 false _ A27.out).mono ?_); rintro e w' ⟨rfl, ⟨nd, rfl⟩⟩; (try first | exact ⟨rfl, _, World.drewN_drewN _ _ _⟩ | exact ⟨rfl, _, Eq.trans (World.drewN_drewN _ _ _) (congrArg (World.drewN _) (Nat.add_assoc _ _ _))⟩)) | (go_at_call 19; (with_reducible refine (wharfingerref13_in.calls ((rd_T40 l0_4 a1).f7) 1 8 t212 _ A28.out).mono ?_); rintro e w' ⟨rfl, ⟨nd, rfl⟩⟩; (try first | exact ⟨rfl, _, World.drewN_drewN _ _ _⟩ | exact ⟨rfl, _, Eq.trans (World.drewN_drewN _ _ _) (congrArg (World.drewN _) (Nat.add_assoc _ _ _))⟩)) | (go_at_call 19; (with_reducible refine (wharfingerref13_in.calls ((rd_T40 l0_4 a1).f2.f1) 1 65535 t213 _ A29.out).mono ?_); rintro e w' ⟨rfl, ⟨nd, rfl⟩⟩; (try first | exact ⟨rfl, _, World.drewN_drewN _ _ _⟩ | exact ⟨rfl, _, Eq.trans (World.drewN_drewN _ _ _) (congrArg (World.drewN _) (Nat.add_assoc _ _ _))⟩))))
            go_ret
            exact ⟨by first | rfl | (simp [errW_none, errW_some] <;> rfl) | (simp [*, errW_none, errW_some] <;> rfl), by repeat (first | (with_reducible first | exact HB.out | apply below_alloc | apply pw_below_drewN | apply below_drew1 | refine below_set ?_ GE202.out | refine below_set ?_ GE204.out) | exact HB.out)⟩
          ·
           replace c34 := Bool.eq_false_iff.mpr c34
           subst c34
           have H1 : (some false) = some r := by rw [if_neg (show ¬ (false = true) by decide)] at H; exact H
           clear H
           have H := H1
           clear H1
           obtain rfl := Option.some.inj H
           have hnb43 := NB204_202.out
           have hnc43 := NB202_204.out
           have hcz44_0 : wr.cell? ⟨gb204, 0, none⟩ = some (.string ((rd_T40 l0_4 a1).f0)) := (blk_cell BK204.out 0).trans rfl
           have hcz44_1 : wr.cell? ⟨gb204, 1, none⟩ = some (.string ((rd_T40 l0_4 a1).f1)) := (blk_cell BK204.out 1).trans rfl
           have hcz44_2 : wr.cell? ⟨gb204, 2, none⟩ = some (.int .u8 ((rd_T40 l0_4 a1).f2.f0.f0)) := (blk_cell BK204.out 2).trans rfl
           have hcz44_3 : wr.cell? ⟨gb204, 3, none⟩ = some (.int .u8 ((rd_T40 l0_4 a1).f2.f0.f1)) := (blk_cell BK204.out 3).trans rfl
           have hcz44_4 : wr.cell? ⟨gb204, 4, none⟩ = some (.int .u8 ((rd_T40 l0_4 a1).f2.f0.f2)) := (blk_cell BK204.out 4).trans rfl
           have hcz44_5 : wr.cell? ⟨gb204, 5, none⟩ = some (.int .u8 ((rd_T40 l0_4 a1).f2.f0.f3)) := (blk_cell BK204.out 5).trans rfl
           have hcz44_6 : wr.cell? ⟨gb204, 6, none⟩ = some (.int .i64 ((rd_T40 l0_4 a1).f2.f1)) := (blk_cell BK204.out 6).trans rfl
           have hcz44_7 : wr.cell? ⟨gb204, 7, none⟩ = some (.int .i64 ((rd_T40 l0_4 a1).f3)) := (blk_cell BK204.out 7).trans rfl
           have hcz44_8 : wr.cell? ⟨gb204, 8, none⟩ = some (.int .i64 ((rd_T40 l0_4 a1).f4)) := (blk_cell BK204.out 8).trans rfl
           have hcz44_9 : wr.cell? ⟨gb204, 9, none⟩ = some (.slice A203_9 ((rd_T40 l0_4 a1).f5).length c203_9) := (blk_cell BK204.out 9).trans rfl
           have hcz44_10 : wr.cell? ⟨gb204, 10, none⟩ = some (.int .i64 ((rd_T40 l0_4 a1).f6)) := (blk_cell BK204.out 10).trans rfl
           have hcz44_11 : wr.cell? ⟨gb204, 11, none⟩ = some (.int .i64 ((rd_T40 l0_4 a1).f7)) := (blk_cell BK204.out 11).trans rfl
           have hcz44_12 : wr.cell? ⟨gb204, 12, none⟩ = some (.int .i64 ((rd_T40 l0_4 a1).f8)) := (blk_cell BK204.out 12).trans rfl
           have hcz44_13 : wr.cell? ⟨gb204, 13, none⟩ = some (.int .i64 ((rd_T40 l0_4 a1).f9)) := (blk_cell BK204.out 13).trans rfl
           have hfz44_0 := blk_frozen BK204.out 0
           have hfz44_1 := blk_frozen BK204.out 1
           have hfz44_2 := blk_frozen BK204.out 2
           have hfz44_3 := blk_frozen BK204.out 3
           have hfz44_4 := blk_frozen BK204.out 4
           have hfz44_5 := blk_frozen BK204.out 5
           have hfz44_6 := blk_frozen BK204.out 6
           have hfz44_7 := blk_frozen BK204.out 7
           have hfz44_8 := blk_frozen BK204.out 8
           have hfz44_9 := blk_frozen BK204.out 9
           have hfz44_10 := blk_frozen BK204.out 10
           have hfz44_11 := blk_frozen BK204.out 11
           have hfz44_12 := blk_frozen BK204.out 12
           have hfz44_13 := blk_frozen BK204.out 13
           go_wp2_with (first | (go_at_call 19; (with_reducible refine (wharfingerref13_in.calls ((rd_T40 l0_4 a1).f6) 1 8 t211 _ A27.out).mono ?_); rintro e w' ⟨rfl, ⟨nd, rfl⟩⟩; (try first | exact ⟨rfl, _, World.drewN_drewN _ _ _⟩ | exact ⟨rfl, _, Eq.trans (World.drewN_drewN _ _ _) (congrArg (World.drewN _) (Nat.add_assoc _ _ _))⟩)) | (go_at_call 19; (with_reducible refine (wharfingerref13_in.calls ((rd_T40 l0_4 a1).f7) 1 8 t212 _ A28.out).mono ?_); rintro e w' ⟨rfl, ⟨nd, rfl⟩⟩; (try first | exact ⟨rfl, _, World.drewN_drewN _ _ _⟩ | exact ⟨rfl, _, Eq.trans (World.drewN_drewN _ _ _) (congrArg (World.drewN _) (Nat.add_assoc _ _ _))⟩)) | (go_at_call 19; (with_reducible refine (wharfingerref13_in.calls ((rd_T40 l0_4 a1).f2.f1) 1 65535 t213 _ A29.out).mono ?_); rintro e w' ⟨rfl, ⟨nd, rfl⟩⟩; (try first | exact ⟨rfl, _, World.drewN_drewN _ _ _⟩ | exact ⟨rfl, _, Eq.trans (World.drewN_drewN _ _ _) (congrArg (World.drewN _) (Nat.add_assoc _ _ _))⟩)))
           repeat (go_quiet (first | (go_at_call 19; (with_reducible refine (wharfingerref13_in.calls ((rd_T40 l0_4 a1).f6) 1 8 t211 _ A27.out).mono ?_); rintro e w' ⟨rfl, ⟨nd, rfl⟩⟩; (try first | exact ⟨rfl, _, World.drewN_drewN _ _ _⟩ | exact ⟨rfl, _, Eq.trans (World.drewN_drewN _ _ _) (congrArg (World.drewN _) (Nat.add_assoc _ _ _))⟩)) | (go_at_call 19; (with_reducible refine (wharfingerref13_in.calls ((rd_T40 l0_4 a1).f7) 1 8 t212 _ A28.out).mono ?_); rintro e w' ⟨rfl, ⟨nd, rfl⟩⟩; (try first | exact ⟨rfl, _, World.drewN_drewN _ _ _⟩ | exact ⟨rfl, _, Eq.trans (World.drewN_drewN _ _ _) (congrArg (World.drewN _) (Nat.add_assoc _ _ _))⟩)) | (go_at_call 19; (with_reducible refine (wharfingerref13_in.calls ((rd_T40 l0_4 a1).f2.f1) 1 65535 t213 _ A29.out).mono ?_); rintro e w' ⟨rfl, ⟨nd, rfl⟩⟩; (try first | exact ⟨rfl, _, World.drewN_drewN _ _ _⟩ | exact ⟨rfl, _, Eq.trans (World.drewN_drewN _ _ _) (congrArg (World.drewN _) (Nat.add_assoc _ _ _))⟩))); try go_wp2_with (first | (go_at_call 19; (with_reducible refine (wharfingerref13_in.calls ((rd_T40 l0_4 a1).f6) 1 8 t211 _ A27.out).mono ?_); rintro e w' ⟨rfl, ⟨nd, rfl⟩⟩; (try first | exact ⟨rfl, _, World.drewN_drewN _ _ _⟩ | exact ⟨rfl, _, Eq.trans (World.drewN_drewN _ _ _) (congrArg (World.drewN _) (Nat.add_assoc _ _ _))⟩)) | (go_at_call 19; (with_reducible refine (wharfingerref13_in.calls ((rd_T40 l0_4 a1).f7) 1 8 t212 _ A28.out).mono ?_); rintro e w' ⟨rfl, ⟨nd, rfl⟩⟩; (try first | exact ⟨rfl, _, World.drewN_drewN _ _ _⟩ | exact ⟨rfl, _, Eq.trans (World.drewN_drewN _ _ _) (congrArg (World.drewN _) (Nat.add_assoc _ _ _))⟩)) | (go_at_call 19; (with_reducible refine (wharfingerref13_in.calls ((rd_T40 l0_4 a1).f2.f1) 1 65535 t213 _ A29.out).mono ?_); rintro e w' ⟨rfl, ⟨nd, rfl⟩⟩; (try first | exact ⟨rfl, _, World.drewN_drewN _ _ _⟩ | exact ⟨rfl, _, Eq.trans (World.drewN_drewN _ _ _) (congrArg (World.drewN _) (Nat.add_assoc _ _ _))⟩))))
           go_ret
           exact ⟨by first | rfl | (simp [errW_none, errW_some] <;> rfl) | (simp [*, errW_none, errW_some] <;> rfl), by repeat (first | (with_reducible first | exact HB.out | apply below_alloc | apply pw_below_drewN | apply below_drew1 | refine below_set ?_ GE202.out | refine below_set ?_ GE204.out) | exact HB.out)⟩
         ·
          replace c33 := Bool.eq_false_iff.mpr c33
          subst c33
          have H1 : (some false) = some r := by rw [if_neg (show ¬ (false = true) by decide)] at H; exact H
          clear H
          have H := H1
          clear H1
          obtain rfl := Option.some.inj H
          have hnb45 := NB204_202.out
          have hnc45 := NB202_204.out
          have hcz46_0 : wr.cell? ⟨gb204, 0, none⟩ = some (.string ((rd_T40 l0_4 a1).f0)) := (blk_cell BK204.out 0).trans rfl
          have hcz46_1 : wr.cell? ⟨gb204, 1, none⟩ = some (.string ((rd_T40 l0_4 a1).f1)) := (blk_cell BK204.out 1).trans rfl
          have hcz46_2 : wr.cell? ⟨gb204, 2, none⟩ = some (.int .u8 ((rd_T40 l0_4 a1).f2.f0.f0)) := (blk_cell BK204.out 2).trans rfl
          have hcz46_3 : wr.cell? ⟨gb204, 3, none⟩ = some (.int .u8 ((rd_T40 l0_4 a1).f2.f0.f1)) := (blk_cell BK204.out 3).trans rfl
          have hcz46_4 : wr.cell? ⟨gb204, 4, none⟩ = some (.int .u8 ((rd_T40 l0_4 a1).f2.f0.f2)) := (blk_cell BK204.out 4).trans rfl
          have hcz46_5 : wr.cell? ⟨gb204, 5, none⟩ = some (.int .u8 ((rd_T40 l0_4 a1).f2.f0.f3)) := (blk_cell BK204.out 5).trans rfl
          have hcz46_6 : wr.cell? ⟨gb204, 6, none⟩ = some (.int .i64 ((rd_T40 l0_4 a1).f2.f1)) := (blk_cell BK204.out 6).trans rfl
          have hcz46_7 : wr.cell? ⟨gb204, 7, none⟩ = some (.int .i64 ((rd_T40 l0_4 a1).f3)) := (blk_cell BK204.out 7).trans rfl
          have hcz46_8 : wr.cell? ⟨gb204, 8, none⟩ = some (.int .i64 ((rd_T40 l0_4 a1).f4)) := (blk_cell BK204.out 8).trans rfl
          have hcz46_9 : wr.cell? ⟨gb204, 9, none⟩ = some (.slice A203_9 ((rd_T40 l0_4 a1).f5).length c203_9) := (blk_cell BK204.out 9).trans rfl
          have hcz46_10 : wr.cell? ⟨gb204, 10, none⟩ = some (.int .i64 ((rd_T40 l0_4 a1).f6)) := (blk_cell BK204.out 10).trans rfl
          have hcz46_11 : wr.cell? ⟨gb204, 11, none⟩ = some (.int .i64 ((rd_T40 l0_4 a1).f7)) := (blk_cell BK204.out 11).trans rfl
          have hcz46_12 : wr.cell? ⟨gb204, 12, none⟩ = some (.int .i64 ((rd_T40 l0_4 a1).f8)) := (blk_cell BK204.out 12).trans rfl
          have hcz46_13 : wr.cell? ⟨gb204, 13, none⟩ = some (.int .i64 ((rd_T40 l0_4 a1).f9)) := (blk_cell BK204.out 13).trans rfl
          have hfz46_0 := blk_frozen BK204.out 0
          have hfz46_1 := blk_frozen BK204.out 1
          have hfz46_2 := blk_frozen BK204.out 2
          have hfz46_3 := blk_frozen BK204.out 3
          have hfz46_4 := blk_frozen BK204.out 4
          have hfz46_5 := blk_frozen BK204.out 5
          have hfz46_6 := blk_frozen BK204.out 6
          have hfz46_7 := blk_frozen BK204.out 7
          have hfz46_8 := blk_frozen BK204.out 8
          have hfz46_9 := blk_frozen BK204.out 9
          have hfz46_10 := blk_frozen BK204.out 10
          have hfz46_11 := blk_frozen BK204.out 11
          have hfz46_12 := blk_frozen BK204.out 12
          have hfz46_13 := blk_frozen BK204.out 13
          go_wp2_with (first | (go_at_call 19; (with_reducible refine (wharfingerref13_in.calls ((rd_T40 l0_4 a1).f6) 1 8 t211 _ A27.out).mono ?_); rintro e w' ⟨rfl, ⟨nd, rfl⟩⟩; (try first | exact ⟨rfl, _, World.drewN_drewN _ _ _⟩ | exact ⟨rfl, _, Eq.trans (World.drewN_drewN _ _ _) (congrArg (World.drewN _) (Nat.add_assoc _ _ _))⟩)) | (go_at_call 19; (with_reducible refine (wharfingerref13_in.calls ((rd_T40 l0_4 a1).f7) 1 8 t212 _ A28.out).mono ?_); rintro e w' ⟨rfl, ⟨nd, rfl⟩⟩; (try first | exact ⟨rfl, _, World.drewN_drewN _ _ _⟩ | exact ⟨rfl, _, Eq.trans (World.drewN_drewN _ _ _) (congrArg (World.drewN _) (Nat.add_assoc _ _ _))⟩)) | (go_at_call 19; (with_reducible refine (wharfingerref13_in.calls ((rd_T40 l0_4 a1).f2.f1) 1 65535 t213 _ A29.out).mono ?_); rintro e w' ⟨rfl, ⟨nd, rfl⟩⟩; (try first | exact ⟨rfl, _, World.drewN_drewN _ _ _⟩ | exact ⟨rfl, _, Eq.trans (World.drewN_drewN _ _ _) (congrArg (World.drewN _) (Nat.add_assoc _ _ _))⟩)))
          repeat (go_quiet (first | (go_at_call 19; (with_reducible refine (wharfingerref13_in.calls ((rd_T40 l0_4 a1).f6) 1 8 t211 _ A27.out).mono ?_); rintro e w' ⟨rfl, ⟨nd, rfl⟩⟩; (try first | exact ⟨rfl, _, World.drewN_drewN _ _ _⟩ | exact ⟨rfl, _, Eq.trans (World.drewN_drewN _ _ _) (congrArg (World.drewN _) (Nat.add_assoc _ _ _))⟩)) | (go_at_call 19; (with_reducible refine (wharfingerref13_in.calls ((rd_T40 l0_4 a1).f7) 1 8 t212 _ A28.out).mono ?_); rintro e w' ⟨rfl, ⟨nd, rfl⟩⟩; (try first | exact ⟨rfl, _, World.drewN_drewN _ _ _⟩ | exact ⟨rfl, _, Eq.trans (World.drewN_drewN _ _ _) (congrArg (World.drewN _) (Nat.add_assoc _ _ _))⟩)) | (go_at_call 19; (with_reducible refine (wharfingerref13_in.calls ((rd_T40 l0_4 a1).f2.f1) 1 65535 t213 _ A29.out).mono ?_); rintro e w' ⟨rfl, ⟨nd, rfl⟩⟩; (try first | exact ⟨rfl, _, World.drewN_drewN _ _ _⟩ | exact ⟨rfl, _, Eq.trans (World.drewN_drewN _ _ _) (congrArg (World.drewN _) (Nat.add_assoc _ _ _))⟩))); try go_wp2_with (first | (go_at_call 19; (with_reducible refine (wharfingerref13_in.calls ((rd_T40 l0_4 a1).f6) 1 8 t211 _ A27.out).mono ?_); rintro e w' ⟨rfl, ⟨nd, rfl⟩⟩; (try first | exact ⟨rfl, _, World.drewN_drewN _ _ _⟩ | exact ⟨rfl, _, Eq.trans (World.drewN_drewN _ _ _) (congrArg (World.drewN _) (Nat.add_assoc _ _ _))⟩)) | (go_at_call 19; (with_reducible refine (wharfingerref13_in.calls ((rd_T40 l0_4 a1).f7) 1 8 t212 _ A28.out).mono ?_); rintro e w' ⟨rfl, ⟨nd, rfl⟩⟩; (try first | exact ⟨rfl, _, World.drewN_drewN _ _ _⟩ | exact ⟨rfl, _, Eq.trans (World.drewN_drewN _ _ _) (congrArg (World.drewN _) (Nat.add_assoc _ _ _))⟩)) | (go_at_call 19; (with_reducible refine (wharfingerref13_in.calls ((rd_T40 l0_4 a1).f2.f1) 1 65535 t213 _ A29.out).mono ?_); rintro e w' ⟨rfl, ⟨nd, rfl⟩⟩; (try first | exact ⟨rfl, _, World.drewN_drewN _ _ _⟩ | exact ⟨rfl, _, Eq.trans (World.drewN_drewN _ _ _) (congrArg (World.drewN _) (Nat.add_assoc _ _ _))⟩))))
          go_ret
          exact ⟨by first | rfl | (simp [errW_none, errW_some] <;> rfl) | (simp [*, errW_none, errW_some] <;> rfl), by repeat (first | (with_reducible first | exact HB.out | apply below_alloc | apply pw_below_drewN | apply below_drew1 | refine below_set ?_ GE202.out | refine below_set ?_ GE204.out) | exact HB.out)⟩
        ·
         replace c32 := Bool.eq_false_iff.mpr c32
         subst c32
         have H1 : (some false) = some r := by rw [if_neg (show ¬ (false = true) by decide)] at H; exact H
         clear H
         have H := H1
         clear H1
         obtain rfl := Option.some.inj H
         have hnb47 := NB204_202.out
         have hnc47 := NB202_204.out
         have hcz48_0 : wr.cell? ⟨gb204, 0, none⟩ = some (.string ((rd_T40 l0_4 a1).f0)) := (blk_cell BK204.out 0).trans rfl
         have hcz48_1 : wr.cell? ⟨gb204, 1, none⟩ = some (.string ((rd_T40 l0_4 a1).f1)) := (blk_cell BK204.out 1).trans rfl
         have hcz48_2 : wr.cell? ⟨gb204, 2, none⟩ = some (.int .u8 ((rd_T40 l0_4 a1).f2.f0.f0)) := (blk_cell BK204.out 2).trans rfl
         have hcz48_3 : wr.cell? ⟨gb204, 3, none⟩ = some (.int .u8 ((rd_T40 l0_4 a1).f2.f0.f1)) := (blk_cell BK204.out 3).trans rfl
         have hcz48_4 : wr.cell? ⟨gb204, 4, none⟩ = some (.int .u8 ((rd_T40 l0_4 a1).f2.f0.f2)) := (blk_cell BK204.out 4).trans rfl
         have hcz48_5 : wr.cell? ⟨gb204, 5, none⟩ = some (.int .u8 ((rd_T40 l0_4 a1).f2.f0.f3)) := (blk_cell BK204.out 5).trans rfl
         have hcz48_6 : wr.cell? ⟨gb204, 6, none⟩ = some (.int .i64 ((rd_T40 l0_4 a1).f2.f1)) := (blk_cell BK204.out 6).trans rfl
         have hcz48_7 : wr.cell? ⟨gb204, 7, none⟩ = some (.int .i64 ((rd_T40 l0_4 a1).f3)) := (blk_cell BK204.out 7).trans rfl
         have hcz48_8 : wr.cell? ⟨gb204, 8, none⟩ = some (.int .i64 ((rd_T40 l0_4 a1).f4)) := (blk_cell BK204.out 8).trans rfl
         have hcz48_9 : wr.cell? ⟨gb204, 9, none⟩ = some (.slice A203_9 ((rd_T40 l0_4 a1).f5).length c203_9) := (blk_cell BK204.out 9).trans rfl
         have hcz48_10 : wr.cell? ⟨gb204, 10, none⟩ = some (.int .i64 ((rd_T40 l0_4 a1).f6)) := (blk_cell BK204.out 10).trans rfl
         have hcz48_11 : wr.cell? ⟨gb204, 11, none⟩ = some (.int .i64 ((rd_T40 l0_4 a1).f7)) := (blk_cell BK204.out 11).trans rfl
         have hcz48_12 : wr.cell? ⟨gb204, 12, none⟩ = some (.int .i64 ((rd_T40 l0_4 a1).f8)) := (blk_cell BK204.out 12).trans rfl
         have hcz48_13 : wr.cell? ⟨gb204, 13, none⟩ = some (.int .i64 ((rd_T40 l0_4 a1).f9)) := (blk_cell BK204.out 13).trans rfl
         have hfz48_0 := blk_frozen BK204.out 0
         have hfz48_1 := blk_frozen BK204.out 1
         have hfz48_2 := blk_frozen BK204.out 2
         have hfz48_3 := blk_frozen BK204.out 3
         have hfz48_4 := blk_frozen BK204.out 4
         have hfz48_5 := blk_frozen BK204.out 5
         have hfz48_6 := blk_frozen BK204.out 6
         have hfz48_7 := blk_frozen BK204.out 7
         have hfz48_8 := blk_frozen BK204.out 8
         have hfz48_9 := blk_frozen BK204.out 9
         have hfz48_10 := blk_frozen BK204.out 10
         have hfz48_11 := blk_frozen BK204.out 11
         have hfz48_12 := blk_frozen BK204.out 12
         have hfz48_13 := blk_frozen BK204.out 13
         go_wp2_with (first | (go_at_call 19; (with_reducible refine (wharfingerref13_in.calls ((rd_T40 l0_4 a1).f6) 1 8 t211 _ A27.out).mono ?_); rintro e w' ⟨rfl, ⟨nd, rfl⟩⟩; (try first | exact ⟨rfl, _, World.drewN_drewN _ _ _⟩ | exact ⟨rfl, _, Eq.trans (World.drewN_drewN _ _ _) (congrArg (World.drewN _) (Nat.add_assoc _ _ _))⟩)) | (go_at_call 19; (with_reducible refine (wharfingerref13_in.calls ((rd_T40 l0_4 a1).f7) 1 8 t212 _ A28.out).mono ?_); rintro e w' ⟨rfl, ⟨nd, rfl⟩⟩; (try first | exact ⟨rfl, _, World.drewN_drewN _ _ _⟩ | exact ⟨rfl, _, Eq.trans (World.drewN_drewN _ _ _) (congrArg (World.drewN _) (Nat.add_assoc _ _ _))⟩)) | (go_at_call 19; (with_reducible refine (wharfingerref13_in.calls ((rd_T40 l0_4 a1).f2.f1) 1 65535 t213 _ A29.out).mono ?_); rintro e w' ⟨rfl, ⟨nd, rfl⟩⟩; (try first | exact ⟨rfl, _, World.drewN_drewN _ _ _⟩ | exact ⟨rfl, _, Eq.trans (World.drewN_drewN _ _ _) (congrArg (World.drewN _) (Nat.add_assoc _ _ _))⟩)))
         repeat (go_quiet (first | (go_at_call 19; (with_reducible refine (wharfingerref13_in.calls ((rd_T40 l0_4 a1).f6) 1 8 t211 _ A27.out).mono ?_); rintro e w' ⟨rfl, ⟨nd, rfl⟩⟩; (try first | exact ⟨rfl, _, World.drewN_drewN _ _ _⟩ | exact ⟨rfl, _, Eq.trans (World.drewN_drewN _ _ _) (congrArg (World.drewN _) (Nat.add_assoc _ _ _))⟩)) | (go_at_call 19; (with_reducible refine (wharfingerref13_in.calls ((rd_T40 l0_4 a1).f7) 1 8 t212 _ A28.out).mono ?_); rintro e w' ⟨rfl, ⟨nd, rfl⟩⟩; (try first | exact ⟨rfl, _, World.drewN_drewN _ _ _⟩ | exact ⟨rfl, _, Eq.trans (World.drewN_drewN _ _ _) (congrArg (World.drewN _) (Nat.add_assoc _ _ _))⟩)) | (go_at_call 19; (with_reducible refine (wharfingerref13_in.calls ((rd_T40 l0_4 a1).f2.f1) 1 65535 t213 _ A29.out).mono ?_); rintro e w' ⟨rfl, ⟨nd, rfl⟩⟩; (try first | exact ⟨rfl, _, World.drewN_drewN _ _ _⟩ | exact ⟨rfl, _, Eq.trans (World.drewN_drewN _ _ _) (congrArg (World.drewN _) (Nat.add_assoc _ _ _))⟩))); try go_wp2_with (first | (go_at_call 19; (with_reducible refine (wharfingerref13_in.calls ((rd_T40 l0_4 a1).f6) 1 8 t211 _ A27.out).mono ?_); rintro e w' ⟨rfl, ⟨nd, rfl⟩⟩; (try first | exact ⟨rfl, _, World.drewN_drewN _ _ _⟩ | exact ⟨rfl, _, Eq.trans (World.drewN_drewN _ _ _) (congrArg (World.drewN _) (Nat.add_assoc _ _ _))⟩)) | (go_at_call 19; (with_reducible refine (wharfingerref13_in.calls ((rd_T40 l0_4 a1).f7) 1 8 t212 _ A28.out).mono ?_); rintro e w' ⟨rfl, ⟨nd, rfl⟩⟩; (try first | exact ⟨rfl, _, World.drewN_drewN _ _ _⟩ | exact ⟨rfl, _, Eq.trans (World.drewN_drewN _ _ _) (congrArg (World.drewN _) (Nat.add_assoc _ _ _))⟩)) | (go_at_call 19; (with_reducible refine (wharfingerref13_in.calls ((rd_T40 l0_4 a1).f2.f1) 1 65535 t213 _ A29.out).mono ?_); rintro e w' ⟨rfl, ⟨nd, rfl⟩⟩; (try first | exact ⟨rfl, _, World.drewN_drewN _ _ _⟩ | exact ⟨rfl, _, Eq.trans (World.drewN_drewN _ _ _) (congrArg (World.drewN _) (Nat.add_assoc _ _ _))⟩))))
         go_ret
         exact ⟨by first | rfl | (simp [errW_none, errW_some] <;> rfl) | (simp [*, errW_none, errW_some] <;> rfl), by repeat (first | (with_reducible first | exact HB.out | apply below_alloc | apply pw_below_drewN | apply below_drew1 | refine below_set ?_ GE202.out | refine below_set ?_ GE204.out) | exact HB.out)⟩
       ·
        replace c31 := Bool.eq_false_iff.mpr c31
        subst c31
        have H1 : (some false) = some r := by rw [if_neg (show ¬ (false = true) by decide)] at H; exact H
        clear H
        have H := H1
        clear H1
        obtain rfl := Option.some.inj H
        have hnb49 := NB204_202.out
        have hnc49 := NB202_204.out
        have hcz50_0 : wr.cell? ⟨gb204, 0, none⟩ = some (.string ((rd_T40 l0_4 a1).f0)) := (blk_cell BK204.out 0).trans rfl
        have hcz50_1 : wr.cell? ⟨gb204, 1, none⟩ = some (.string ((rd_T40 l0_4 a1).f1)) := (blk_cell BK204.out 1).trans rfl
        have hcz50_2 : wr.cell? ⟨gb204, 2, none⟩ = some (.int .u8 ((rd_T40 l0_4 a1).f2.f0.f0)) := (blk_cell BK204.out 2).trans rfl
        have hcz50_3 : wr.cell? ⟨gb204, 3, none⟩ = some (.int .u8 ((rd_T40 l0_4 a1).f2.f0.f1)) := (blk_cell BK204.out 3).trans rfl
        have hcz50_4 : wr.cell? ⟨gb204, 4, none⟩ = some (.int .u8 ((rd_T40 l0_4 a1).f2.f0.f2)) := (blk_cell BK204.out 4).trans rfl
        have hcz50_5 : wr.cell? ⟨gb204, 5, none⟩ = some (.int .u8 ((rd_T40 l0_4 a1).f2.f0.f3)) := (blk_cell BK204.out 5).trans rfl
        have hcz50_6 : wr.cell? ⟨gb204, 6, none⟩ = some (.int .i64 ((rd_T40 l0_4 a1).f2.f1)) := (blk_cell BK204.out 6).trans rfl
        have hcz50_7 : wr.cell? ⟨gb204, 7, none⟩ = some (.int .i64 ((rd_T40 l0_4 a1).f3)) := (blk_cell BK204.out 7).trans rfl
        have hcz50_8 : wr.cell? ⟨gb204, 8, none⟩ = some (.int .i64 ((rd_T40 l0_4 a1).f4)) := (blk_cell BK204.out 8).trans rfl
        have hcz50_9 : wr.cell? ⟨gb204, 9, none⟩ = some (.slice A203_9 ((rd_T40 l0_4 a1).f5).length c203_9) := (blk_cell BK204.out 9).trans rfl
        have hcz50_10 : wr.cell? ⟨gb204, 10, none⟩ = some (.int .i64 ((rd_T40 l0_4 a1).f6)) := (blk_cell BK204.out 10).trans rfl
        have hcz50_11 : wr.cell? ⟨gb204, 11, none⟩ = some (.int .i64 ((rd_T40 l0_4 a1).f7)) := (blk_cell BK204.out 11).trans rfl
        have hcz50_12 : wr.cell? ⟨gb204, 12, none⟩ = some (.int .i64 ((rd_T40 l0_4 a1).f8)) := (blk_cell BK204.out 12).trans rfl
        have hcz50_13 : wr.cell? ⟨gb204, 13, none⟩ = some (.int .i64 ((rd_T40 l0_4 a1).f9)) := (blk_cell BK204.out 13).trans rfl
        have hfz50_0 := blk_frozen BK204.out 0
        have hfz50_1 := blk_frozen BK204.out 1
        have hfz50_2 := blk_frozen BK204.out 2
        have hfz50_3 := blk_frozen BK204.out 3
        have hfz50_4 := blk_frozen BK204.out 4
        have hfz50_5 := blk_frozen BK204.out 5
        have hfz50_6 := blk_frozen BK204.out 6
        have hfz50_7 := blk_frozen BK204.out 7
        have hfz50_8 := blk_frozen BK204.out 8
        have hfz50_9 := blk_frozen BK204.out 9
        have hfz50_10 := blk_frozen BK204.out 10
        have hfz50_11 := blk_frozen BK204.out 11
        have hfz50_12 := blk_frozen BK204.out 12
        have hfz50_13 := blk_frozen BK204.out 13
        go_wp2_with (first | (go_at_call 19; (with_reducible refine (wharfingerref13_in.calls ((rd_T40 l0_4 a1).f6) 1 8 t211 _ A27.out).mono ?_); rintro e w' ⟨rfl, ⟨nd, rfl⟩⟩; (try first | exact ⟨rfl, _, World.drewN_drewN _ _ _⟩ | exact ⟨rfl, _, Eq.trans (World.drewN_drewN _ _ _) (congrArg (World.drewN _) (Nat.add_assoc _ _ _))⟩)) | (go_at_call 19; (with_reducible refine (wharfingerref13_in.calls ((rd_T40 l0_4 a1).f7) 1 8 t212 _ A28.out).mono ?_); rintro e w' ⟨rfl, ⟨nd, rfl⟩⟩; (try first | exact ⟨rfl, _, World.drewN_drewN _ _ _⟩ | exact ⟨rfl, _, Eq.trans (World.drewN_drewN _ _ _) (congrArg (World.drewN _) (Nat.add_assoc _ _ _))⟩)) | (go_at_call 19; (with_reducible refine (wharfingerref13_in.calls ((rd_T40 l0_4 a1).f2.f1) 1 65535 t213 _ A29.out).mono ?_); rintro e w' ⟨rfl, ⟨nd, rfl⟩⟩; (try first | exact ⟨rfl, _, World.drewN_drewN _ _ _⟩ | exact ⟨rfl, _, Eq.trans (World.drewN_drewN _ _ _) (congrArg (World.drewN _) (Nat.add_assoc _ _ _))⟩)))
        repeat (go_quiet (first | (go_at_call 19; (with_reducible refine (wharfingerref13_in.calls ((rd_T40 l0_4 a1).f6) 1 8 t211 _ A27.out).mono ?_); rintro e w' ⟨rfl, ⟨nd, rfl⟩⟩; (try first | exact ⟨rfl, _, World.drewN_drewN _ _ _⟩ | exact ⟨rfl, _, Eq.trans (World.drewN_drewN _ _ _) (congrArg (World.drewN _) (Nat.add_assoc _ _ _))⟩)) | (go_at_call 19; (with_reducible refine (wharfingerref13_in.calls ((rd_T40 l0_4 a1).f7) 1 8 t212 _ A28.out).mono ?_); rintro e w' ⟨rfl, ⟨nd, rfl⟩⟩; (try first | exact ⟨rfl, _, World.drewN_drewN _ _ _⟩ | exact ⟨rfl, _, Eq.trans (World.drewN_drewN _ _ _) (congrArg (World.drewN _) (Nat.add_assoc _ _ _))⟩)) | (go_at_call 19; (with_reducible refine (wharfingerref13_in.calls ((rd_T40 l0_4 a1).f2.f1) 1 65535 t213 _ A29.out).mono ?_); rintro e w' ⟨rfl, ⟨nd, rfl⟩⟩; (try first | exact ⟨rfl, _, World.drewN_drewN _ _ _⟩ | exact ⟨rfl, _, Eq.trans (World.drewN_drewN _ _ _) (congrArg (World.drewN _) (Nat.add_assoc _ _ _))⟩))); try go_wp2_with (first | (go_at_call 19; (with_reducible refine (wharfingerref13_in.calls ((rd_T40 l0_4 a1).f6) 1 8 t211 _ A27.out).mono ?_); rintro e w' ⟨rfl, ⟨nd, rfl⟩⟩; (try first | exact ⟨rfl, _, World.drewN_drewN _ _ _⟩ | exact ⟨rfl, _, Eq.trans (World.drewN_drewN _ _ _) (congrArg (World.drewN _) (Nat.add_assoc _ _ _))⟩)) | (go_at_call 19; (with_reducible refine (wharfingerref13_in.calls ((rd_T40 l0_4 a1).f7) 1 8 t212 _ A28.out).mono ?_); rintro e w' ⟨rfl, ⟨nd, rfl⟩⟩; (try first | exact ⟨rfl, _, World.drewN_drewN _ _ _⟩ | exact ⟨rfl, _, Eq.trans (World.drewN_drewN _ _ _) (congrArg (World.drewN _) (Nat.add_assoc _ _ _))⟩)) | (go_at_call 19; (with_reducible refine (wharfingerref13_in.calls ((rd_T40 l0_4 a1).f2.f1) 1 65535 t213 _ A29.out).mono ?_); rintro e w' ⟨rfl, ⟨nd, rfl⟩⟩; (try first | exact ⟨rfl, _, World.drewN_drewN _ _ _⟩ | exact ⟨rfl, _, Eq.trans (World.drewN_drewN _ _ _) (congrArg (World.drewN _) (Nat.add_assoc _ _ _))⟩))))
        go_ret
        exact ⟨by first | rfl | (simp [errW_none, errW_some] <;> rfl) | (simp [*, errW_none, errW_some] <;> rfl), by repeat (first | (with_reducible first | exact HB.out | apply below_alloc | apply pw_below_drewN | apply below_drew1 | refine below_set ?_ GE202.out | refine below_set ?_ GE204.out) | exact HB.out)⟩
      ·
       replace c30 := Bool.eq_false_iff.mpr c30
       subst c30
       have H1 : (some false) = some r := by rw [if_neg (show ¬ (false = true) by decide)] at H; exact H
       clear H
       have H := H1
       clear H1
       obtain rfl := Option.some.inj H
       have hnb51 := NB204_202.out
       have hnc51 := NB202_204.out
       have hcz52_0 : wr.cell? ⟨gb204, 0, none⟩ = some (.string ((rd_T40 l0_4 a1).f0)) := (blk_cell BK204.out 0).trans rfl
       have hcz52_1 : wr.cell? ⟨gb204, 1, none⟩ = some (.string ((rd_T40 l0_4 a1).f1)) := (blk_cell BK204.out 1).trans rfl
       have hcz52_2 : wr.cell? ⟨gb204, 2, none⟩ = some (.int .u8 ((rd_T40 l0_4 a1).f2.f0.f0)) := (blk_cell BK204.out 2).trans rfl
       have hcz52_3 : wr.cell? ⟨gb204, 3, none⟩ = some (.int .u8 ((rd_T40 l0_4 a1).f2.f0.f1)) := (blk_cell BK204.out 3).trans rfl
       have hcz52_4 : wr.cell? ⟨gb204, 4, none⟩ = some (.int .u8 ((rd_T40 l0_4 a1).f2.f0.f2)) := (blk_cell BK204.out 4).trans rfl
       have hcz52_5 : wr.cell? ⟨gb204, 5, none⟩ = some (.int .u8 ((rd_T40 l0_4 a1).f2.f0.f3)) := (blk_cell BK204.out 5).trans rfl
       have hcz52_6 : wr.cell? ⟨gb204, 6, none⟩ = some (.int .i64 ((rd_T40 l0_4 a1).f2.f1)) := (blk_cell BK204.out 6).trans rfl
       have hcz52_7 : wr.cell? ⟨gb204, 7, none⟩ = some (.int .i64 ((rd_T40 l0_4 a1).f3)) := (blk_cell BK204.out 7).trans rfl
       have hcz52_8 : wr.cell? ⟨gb204, 8, none⟩ = some (.int .i64 ((rd_T40 l0_4 a1).f4)) := (blk_cell BK204.out 8).trans rfl
       have hcz52_9 : wr.cell? ⟨gb204, 9, none⟩ = some (.slice A203_9 ((rd_T40 l0_4 a1).f5).length c203_9) := (blk_cell BK204.out 9).trans rfl
       have hcz52_10 : wr.cell? ⟨gb204, 10, none⟩ = some (.int .i64 ((rd_T40 l0_4 a1).f6)) := (blk_cell BK204.out 10).trans rfl
       have hcz52_11 : wr.cell? ⟨gb204, 11, none⟩ = some (.int .i64 ((rd_T40 l0_4 a1).f7)) := (blk_cell BK204.out 11).trans rfl
       have hcz52_12 : wr.cell? ⟨gb204, 12, none⟩ = some (.int .i64 ((rd_T40 l0_4 a1).f8)) := (blk_cell BK204.out 12).trans rfl
       have hcz52_13 : wr.cell? ⟨gb204, 13, none⟩ = some (.int .i64 ((rd_T40 l0_4 a1).f9)) := (blk_cell BK204.out 13).trans rfl
       have hfz52_0 := blk_frozen BK204.out 0
       have hfz52_1 := blk_frozen BK204.out 1
       have hfz52_2 := blk_frozen BK204.out 2
       have hfz52_3 := blk_frozen BK204.out 3
       have hfz52_4 := blk_frozen BK204.out 4
       have hfz52_5 := blk_frozen BK204.out 5
       have hfz52_6 := blk_frozen BK204.out 6
       have hfz52_7 := blk_frozen BK204.out 7
       have hfz52_8 := blk_frozen BK204.out 8
       have hfz52_9 := blk_frozen BK204.out 9
       have hfz52_10 := blk_frozen BK204.out 10
       have hfz52_11 := blk_frozen BK204.out 11
       have hfz52_12 := blk_frozen BK204.out 12
       have hfz52_13 := blk_frozen BK204.out 13
       go_wp2_with (first | (go_at_call 19; (with_reducible refine (wharfingerref13_in.calls ((rd_T40 l0_4 a1).f6) 1 8 t211 _ A27.out).mono ?_); rintro e w' ⟨rfl, ⟨nd, rfl⟩⟩; (try first | exact ⟨rfl, _, World.drewN_drewN _ _ _⟩ | exact ⟨rfl, _, Eq.trans (World.drewN_drewN _ _ _) (congrArg (World.drewN _) (Nat.add_assoc _ _ _))⟩)) | (go_at_call 19; (with_reducible refine (wharfingerref13_in.calls ((rd_T40 l0_4 a1).f7) 1 8 t212 _ A28.out).mono ?_); rintro e w' ⟨rfl, ⟨nd, rfl⟩⟩; (try first | exact ⟨rfl, _, World.drewN_drewN _ _ _⟩ | exact ⟨rfl, _, Eq.trans (World.drewN_drewN _ _ _) (congrArg (World.drewN _) (Nat.add_assoc _ _ _))⟩)) | (go_at_call 19; (with_reducible refine (wharfingerref13_in.calls ((rd_T40 l0_4 a1).f2.f1) 1 65535 t213 _ A29.out).mono ?_); rintro e w' ⟨rfl, ⟨nd, rfl⟩⟩; (try first | exact ⟨rfl, _, World.drewN_drewN _ _ _⟩ | exact ⟨rfl, _, Eq.trans (World.drewN_drewN _ _ _) (congrArg (World.drewN _) (Nat.add_assoc _ _ _))⟩)))
       repeat (go_quiet (first | (go_at_call 19; (with_reducible refine (wharfingerref13_in.calls ((rd_T40 l0_4 a1).f6) 1 8 t211 _ A27.out).mono ?_); rintro e w' ⟨rfl, ⟨nd, rfl⟩⟩; (try first | exact ⟨rfl, _, World.drewN_drewN _ _ _⟩ | exact ⟨rfl, _, Eq.trans (World.drewN_drewN _ _ _) (congrArg (World.drewN _) (Nat.add_assoc _ _ _))⟩)) | (go_at_call 19; (with_reducible refine (wharfingerref13_in.calls ((rd_T40 l0_4 a1).f7) 1 8 t212 _ A28.out).mono ?_); rintro e w' ⟨rfl, ⟨nd, rfl⟩⟩; (try first | exact ⟨rfl, _, World.drewN_drewN _ _ _⟩ | exact ⟨rfl, _, Eq.trans (World.drewN_drewN _ _ _) (congrArg (World.drewN _) (Nat.add_assoc _ _ _))⟩)) | (go_at_call 19; (with_reducible refine (wharfingerref13_in.calls ((rd_T40 l0_4 a1).f2.f1) 1 65535 t213 _ A29.out).mono ?_); rintro e w' ⟨rfl, ⟨nd, rfl⟩⟩; (try first | exact ⟨rfl, _, World.drewN_drewN _ _ _⟩ | exact ⟨rfl, _, Eq.trans (World.drewN_drewN _ _ _) (congrArg (World.drewN _) (Nat.add_assoc _ _ _))⟩))); try go_wp2_with (first | (go_at_call 19; (with_reducible refine (wharfingerref13_in.calls ((rd_T40 l0_4 a1).f6) 1 8 t211 _ A27.out).mono ?_); rintro e w' ⟨rfl, ⟨nd, rfl⟩⟩; (try first | exact ⟨rfl, _, World.drewN_drewN _ _ _⟩ | exact ⟨rfl, _, Eq.trans (World.drewN_drewN _ _ _) (congrArg (World.drewN _) (Nat.add_assoc _ _ _))⟩)) | (go_at_call 19; (with_reducible refine (wharfingerref13_in.calls ((rd_T40 l0_4 a1).f7) 1 8 t212 _ A28.out).mono ?_); rintro e w' ⟨rfl, ⟨nd, rfl⟩⟩; (try first | exact ⟨rfl, _, World.drewN_drewN _ _ _⟩ | exact ⟨rfl, _, Eq.trans (World.drewN_drewN _ _ _) (congrArg (World.drewN _) (Nat.add_assoc _ _ _))⟩)) | (go_at_call 19; (with_reducible refine (wharfingerref13_in.calls ((rd_T40 l0_4 a1).f2.f1) 1 65535 t213 _ A29.out).mono ?_); rintro e w' ⟨rfl, ⟨nd, rfl⟩⟩; (try first | exact ⟨rfl, _, World.drewN_drewN _ _ _⟩ | exact ⟨rfl, _, Eq.trans (World.drewN_drewN _ _ _) (congrArg (World.drewN _) (Nat.add_assoc _ _ _))⟩))))
       go_ret
       exact ⟨by first | rfl | (simp [errW_none, errW_some] <;> rfl) | (simp [*, errW_none, errW_some] <;> rfl), by repeat (first | (with_reducible first | exact HB.out | apply below_alloc | apply pw_below_drewN | apply below_drew1 | refine below_set ?_ GE202.out | refine below_set ?_ GE204.out) | exact HB.out)⟩
  ·
   rw [if_neg c4] at H
   exact absurd H (by simp)
 ·
  rw [if_neg c3] at H
  exact absurd H (by simp)

end Go.Proofs.YtajaedebndeajaaDoor.Q

namespace Go.Proofs.YtajaedebndeajaaDoor.Q
open Go.RowKit Go.Proofs.YtajaedebndeajaaDoor.AclMet Go.Proofs.YtajaedebndeajaaDoorW.PrintWords Go.Proofs.YtajaedebndeajaaDoorW.PrintLast Go.Proofs.YtajaedebndeajaaDoorW.PrintMore
attribute [local go_sem] max2_int min2_int max_two min_two max_three min_three max_four min_four   -- for this text's walks alone
set_option linter.unusedVariables false
set_option linter.unusedSimpArgs false

/-! ### wharfingerref13_Why: function 12 -/
mutual
def wharfingerref13_Why.j0 : Nat → Int → Bool → Int → Int → Int → Int → List (S40) → Int → Int → Int → Bool → Option (Int × Int)
 | 0, _, _, _, _, _, _, _, _, _, _, _ => none
 | k + 1, x4, x39, x220000, x220001, x220002, x220003, x220004, x220005, x220006, x220007, x220008 => if x39 = true then (some ((-1), 1)) else (wharfingerref13_Why.l0 k x4 0 x220000 x220001 x220002 x220003 x220004 x220005 x220006 x220007 x220008)
def wharfingerref13_Why.l0 : Nat → Int → Int → Int → Int → Int → Int → List (S40) → Int → Int → Int → Bool → Option (Int × Int)
 | 0, _, _, _, _, _, _, _, _, _, _, _ => none
 | k + 1, x4, x9, x220000, x220001, x220002, x220003, x220004, x220005, x220006, x220007, x220008 => if x9 < x4 then ((wharfingerref13_tenant.f k x220000 x220001 x220002 x220003 x220004 x220005 x220006 x220007 x220008 x9).bind fun t224 => (if t224 = true then ((wharfingerref13_ports.f k x220000 x220001 x220002 x220003 x220004 x220005 x220006 x220007 x220008 x9).bind fun t225 => (if t225 = true then (wharfingerref13_Why.l0 k x4 (wrap64 (x9 + 1)) x220000 x220001 x220002 x220003 x220004 x220005 x220006 x220007 x220008) else (some (x9, 3)))) else (some (x9, 2)))) else (some ((-1), 0))
end
def wharfingerref13_Why.f (k : Nat) (a0_0 : Int) (a0_1 : Int) (a0_2 : Int) (a0_3 : Int) (l0_4 : List (S40)) (a0_5 : Int) (a0_6 : Int) (a0_7 : Int) (a0_8 : Bool) : Option (Int × Int) := (wharfingerref13_in.f a0_5 1 8).bind fun t220 => ((wharfingerref13_in.f a0_6 1 1099511627776).bind fun t221 => ((wharfingerref13_in.f a0_7 1 1099511627776).bind fun t222 => ((wharfingerref13_in.f (l0_4.length : Int) 1 4).bind fun t223 => (if t220 = true then (if t221 = true then (if t222 = true then (wharfingerref13_Why.j0 k (l0_4.length : Int) (!t223) a0_0 a0_1 a0_2 a0_3 l0_4 a0_5 a0_6 a0_7 a0_8) else (wharfingerref13_Why.j0 k (l0_4.length : Int) true a0_0 a0_1 a0_2 a0_3 l0_4 a0_5 a0_6 a0_7 a0_8)) else (wharfingerref13_Why.j0 k (l0_4.length : Int) true a0_0 a0_1 a0_2 a0_3 l0_4 a0_5 a0_6 a0_7 a0_8)) else (wharfingerref13_Why.j0 k (l0_4.length : Int) true a0_0 a0_1 a0_2 a0_3 l0_4 a0_5 a0_6 a0_7 a0_8)))))
theorem wharfingerref13_Why.mono_l : ∀ k, (∀ y0 y1 y2 y3 y4 y5 y6 y7 y8 y9 y10, LeO (wharfingerref13_Why.j0 k y0 y1 y2 y3 y4 y5 y6 y7 y8 y9 y10) (wharfingerref13_Why.j0 (k + 1) y0 y1 y2 y3 y4 y5 y6 y7 y8 y9 y10)) ∧ (∀ y0 y1 y2 y3 y4 y5 y6 y7 y8 y9 y10, LeO (wharfingerref13_Why.l0 k y0 y1 y2 y3 y4 y5 y6 y7 y8 y9 y10) (wharfingerref13_Why.l0 (k + 1) y0 y1 y2 y3 y4 y5 y6 y7 y8 y9 y10))
 | 0 => ⟨fun _ _ _ _ _ _ _ _ _ _ _ r h => by simp [wharfingerref13_Why.j0] at h, fun _ _ _ _ _ _ _ _ _ _ _ r h => by simp [wharfingerref13_Why.l0] at h⟩
 | k + 1 => by
  obtain ⟨ih0, ih1⟩ := wharfingerref13_Why.mono_l k
  refine ⟨?_, ?_⟩
  ·
   intro y0 y1 y2 y3 y4 y5 y6 y7 y8 y9 y10
   unfold wharfingerref13_Why.j0
   repeat' first
   | (with_reducible exact ih0 _ _ _ _ _ _ _ _ _ _ _)
   | (with_reducible exact ih1 _ _ _ _ _ _ _ _ _ _ _)
   | (with_reducible exact wharfingerref13_ports.mono _ _ _ _ _ _ _ _ _ _ _)
   | (with_reducible exact wharfingerref13_tenant.mono _ _ _ _ _ _ _ _ _ _ _)
   | (with_reducible exact LeO.refl _)
   | (with_reducible exact LeO.none _)
   | (with_reducible refine LeO.ite ?_ ?_)
   | (with_reducible refine LeO.bind ?_ (fun _ => ?_))
   | exact ih0 _ _ _ _ _ _ _ _ _ _ _
   | exact ih1 _ _ _ _ _ _ _ _ _ _ _
   | exact wharfingerref13_ports.mono _ _ _ _ _ _ _ _ _ _ _
   | exact wharfingerref13_tenant.mono _ _ _ _ _ _ _ _ _ _ _
   | exact LeO.none _
   | refine LeO.ite ?_ ?_
   | refine LeO.bind ?_ (fun _ => ?_)
  ·
   intro y0 y1 y2 y3 y4 y5 y6 y7 y8 y9 y10
   unfold wharfingerref13_Why.l0
   repeat' first
   | (with_reducible exact ih0 _ _ _ _ _ _ _ _ _ _ _)
   | (with_reducible exact ih1 _ _ _ _ _ _ _ _ _ _ _)
   | (with_reducible exact wharfingerref13_ports.mono _ _ _ _ _ _ _ _ _ _ _)
   | (with_reducible exact wharfingerref13_tenant.mono _ _ _ _ _ _ _ _ _ _ _)
   | (with_reducible exact LeO.refl _)
   | (with_reducible exact LeO.none _)
   | (with_reducible refine LeO.ite ?_ ?_)
   | (with_reducible refine LeO.bind ?_ (fun _ => ?_))
   | exact ih0 _ _ _ _ _ _ _ _ _ _ _
   | exact ih1 _ _ _ _ _ _ _ _ _ _ _
   | exact wharfingerref13_ports.mono _ _ _ _ _ _ _ _ _ _ _
   | exact wharfingerref13_tenant.mono _ _ _ _ _ _ _ _ _ _ _
   | exact LeO.none _
   | refine LeO.ite ?_ ?_
   | refine LeO.bind ?_ (fun _ => ?_)
theorem wharfingerref13_Why.mono : ∀ a0 a1 a2 a3 a4 a5 a6 a7 a8 k, LeO (wharfingerref13_Why.f k a0 a1 a2 a3 a4 a5 a6 a7 a8) (wharfingerref13_Why.f (k + 1) a0 a1 a2 a3 a4 a5 a6 a7 a8) := by
 intro a0 a1 a2 a3 a4 a5 a6 a7 a8 k
 obtain ⟨ih0, ih1⟩ := wharfingerref13_Why.mono_l k
 unfold wharfingerref13_Why.f
 repeat' first
   | (with_reducible exact ih0 _ _ _ _ _ _ _ _ _ _ _)
   | (with_reducible exact ih1 _ _ _ _ _ _ _ _ _ _ _)
   | (with_reducible exact wharfingerref13_ports.mono _ _ _ _ _ _ _ _ _ _ _)
   | (with_reducible exact wharfingerref13_tenant.mono _ _ _ _ _ _ _ _ _ _ _)
   | (with_reducible exact LeO.refl _)
   | (with_reducible exact LeO.none _)
   | (with_reducible refine LeO.ite ?_ ?_)
   | (with_reducible refine LeO.bind ?_ (fun _ => ?_))
   | exact ih0 _ _ _ _ _ _ _ _ _ _ _
   | exact ih1 _ _ _ _ _ _ _ _ _ _ _
   | exact wharfingerref13_ports.mono _ _ _ _ _ _ _ _ _ _ _
   | exact wharfingerref13_tenant.mono _ _ _ _ _ _ _ _ _ _ _
   | exact LeO.none _
   | refine LeO.ite ?_ ?_
   | refine LeO.bind ?_ (fun _ => ?_)
set_option maxHeartbeats 8000000 in
set_option maxRecDepth 100000 in
theorem wharfingerref13_Why.calls (k : Nat) (a0_0 : Int) (a0_1 : Int) (a0_2 : Int) (a0_3 : Int) (A0_4 : Option Addr) (c0_4 : Nat) (l0_4 : List (S40)) (a0_5 : Int) (a0_6 : Int) (a0_7 : Int) (a0_8 : Bool) (r1 : Int) (r2 : Int) (w : World) (hr0_4 : Kd.C k40 w A0_4 l0_4.length l0_4) (hc0_4 : l0_4.length ≤ c0_4) (h : wharfingerref13_Why.f k a0_0 a0_1 a0_2 a0_3 l0_4 a0_5 a0_6 a0_7 a0_8 = some (r1, r2)) :
  Calls Tryd.prog 12 #[.agg #[.int .u8 a0_0, .int .u8 a0_1, .int .u8 a0_2, .int .u8 a0_3, .slice A0_4 l0_4.length c0_4, .int .i64 a0_5, .int .i64 a0_6, .int .i64 a0_7, .bool a0_8]] w fun e w' => e = .returned (.tuple #[.int .i64 r1, .int .i64 r2]) ∧ Below w.heap.size w w' := by
 have hu26 := Tryd.underlying26
 have HR0_4 := Aside0.mk hr0_4
 have HC0_4 := Aside0.mk hc0_4
 clear hr0_4 hc0_4
 have HB := Aside0.mk (Below.refl w.heap.size w)
 have H : ((wharfingerref13_in.f a0_5 1 8).bind fun t220 => ((wharfingerref13_in.f a0_6 1 1099511627776).bind fun t221 => ((wharfingerref13_in.f a0_7 1 1099511627776).bind fun t222 => ((wharfingerref13_in.f (l0_4.length : Int) 1 4).bind fun t223 => (if t220 = true then (if t221 = true then (if t222 = true then (wharfingerref13_Why.j0 k (l0_4.length : Int) (!t223) a0_0 a0_1 a0_2 a0_3 l0_4 a0_5 a0_6 a0_7 a0_8) else (wharfingerref13_Why.j0 k (l0_4.length : Int) true a0_0 a0_1 a0_2 a0_3 l0_4 a0_5 a0_6 a0_7 a0_8)) else (wharfingerref13_Why.j0 k (l0_4.length : Int) true a0_0 a0_1 a0_2 a0_3 l0_4 a0_5 a0_6 a0_7 a0_8)) else (wharfingerref13_Why.j0 k (l0_4.length : Int) true a0_0 a0_1 a0_2 a0_3 l0_4 a0_5 a0_6 a0_7 a0_8)))))) = some (r1, r2) := h
 clear h
 replace H := Option.bind_eq_some_iff.mp H
 obtain ⟨t220, A20, H⟩ := H
 replace H : ((wharfingerref13_in.f a0_6 1 1099511627776).bind fun t221 => ((wharfingerref13_in.f a0_7 1 1099511627776).bind fun t222 => ((wharfingerref13_in.f (l0_4.length : Int) 1 4).bind fun t223 => (if t220 = true then (if t221 = true then (if t222 = true then (wharfingerref13_Why.j0 k (l0_4.length : Int) (!t223) a0_0 a0_1 a0_2 a0_3 l0_4 a0_5 a0_6 a0_7 a0_8) else (wharfingerref13_Why.j0 k (l0_4.length : Int) true a0_0 a0_1 a0_2 a0_3 l0_4 a0_5 a0_6 a0_7 a0_8)) else (wharfingerref13_Why.j0 k (l0_4.length : Int) true a0_0 a0_1 a0_2 a0_3 l0_4 a0_5 a0_6 a0_7 a0_8)) else (wharfingerref13_Why.j0 k (l0_4.length : Int) true a0_0 a0_1 a0_2 a0_3 l0_4 a0_5 a0_6 a0_7 a0_8))))) = some (r1, r2) := H
 have A2 := Aside0.mk A20
 clear A20
 replace H := Option.bind_eq_some_iff.mp H
 obtain ⟨t221, A30, H⟩ := H
 replace H : ((wharfingerref13_in.f a0_7 1 1099511627776).bind fun t222 => ((wharfingerref13_in.f (l0_4.length : Int) 1 4).bind fun t223 => (if t220 = true then (if t221 = true then (if t222 = true then (wharfingerref13_Why.j0 k (l0_4.length : Int) (!t223) a0_0 a0_1 a0_2 a0_3 l0_4 a0_5 a0_6 a0_7 a0_8) else (wharfingerref13_Why.j0 k (l0_4.length : Int) true a0_0 a0_1 a0_2 a0_3 l0_4 a0_5 a0_6 a0_7 a0_8)) else (wharfingerref13_Why.j0 k (l0_4.length : Int) true a0_0 a0_1 a0_2 a0_3 l0_4 a0_5 a0_6 a0_7 a0_8)) else (wharfingerref13_Why.j0 k (l0_4.length : Int) true a0_0 a0_1 a0_2 a0_3 l0_4 a0_5 a0_6 a0_7 a0_8)))) = some (r1, r2) := H
 have A3 := Aside0.mk A30
 clear A30
 replace H := Option.bind_eq_some_iff.mp H
 obtain ⟨t222, A40, H⟩ := H
 replace H : ((wharfingerref13_in.f (l0_4.length : Int) 1 4).bind fun t223 => (if t220 = true then (if t221 = true then (if t222 = true then (wharfingerref13_Why.j0 k (l0_4.length : Int) (!t223) a0_0 a0_1 a0_2 a0_3 l0_4 a0_5 a0_6 a0_7 a0_8) else (wharfingerref13_Why.j0 k (l0_4.length : Int) true a0_0 a0_1 a0_2 a0_3 l0_4 a0_5 a0_6 a0_7 a0_8)) else (wharfingerref13_Why.j0 k (l0_4.length : Int) true a0_0 a0_1 a0_2 a0_3 l0_4 a0_5 a0_6 a0_7 a0_8)) else (wharfingerref13_Why.j0 k (l0_4.length : Int) true a0_0 a0_1 a0_2 a0_3 l0_4 a0_5 a0_6 a0_7 a0_8))) = some (r1, r2) := H
 have A4 := Aside0.mk A40
 clear A40
 replace H := Option.bind_eq_some_iff.mp H
 obtain ⟨t223, A50, H⟩ := H
 replace H : (if t220 = true then (if t221 = true then (if t222 = true then (wharfingerref13_Why.j0 k (l0_4.length : Int) (!t223) a0_0 a0_1 a0_2 a0_3 l0_4 a0_5 a0_6 a0_7 a0_8) else (wharfingerref13_Why.j0 k (l0_4.length : Int) true a0_0 a0_1 a0_2 a0_3 l0_4 a0_5 a0_6 a0_7 a0_8)) else (wharfingerref13_Why.j0 k (l0_4.length : Int) true a0_0 a0_1 a0_2 a0_3 l0_4 a0_5 a0_6 a0_7 a0_8)) else (wharfingerref13_Why.j0 k (l0_4.length : Int) true a0_0 a0_1 a0_2 a0_3 l0_4 a0_5 a0_6 a0_7 a0_8)) = some (r1, r2) := H
 have A5 := Aside0.mk A50
 clear A50
 have HC6 := Aside0.mk H
 clear H
 go_enter Tryd.func12, Tryd.ntmps12
 go_upto_region 6 with (first | ((with_reducible refine gate_dst (N := 1) rfl ?_); refine box_event ?hg (N := 1) ?hd (cs := #[.int .u8 a0_0, .int .u8 a0_1, .int .u8 a0_2, .int .u8 a0_3, .slice A0_4 l0_4.length c0_4, .int .i64 a0_5, .int .i64 a0_6, .int .i64 a0_7, .bool a0_8]) (t := 26) ?hr ?_; (case hd => rfl); (case hg => rfl); (case hr => first | (go_simp; done) | (go_simp; rfl)); intro gb219 hg w7 hbox hb; have n0_ := Aside0.mk (below_step (by repeat (first | (with_reducible first | exact HB.out | apply below_alloc | apply pw_below_drewN | apply below_drew1) | exact HB.out)) hb); have n1_ := Aside0.mk (hbox); have n2_ := Aside0.mk ((by rw [hg]; exact (below_size (by repeat (first | (with_reducible first | exact HB.out | apply below_alloc | apply pw_below_drewN | apply below_drew1) | exact HB.out))) : w.heap.size ≤ gb219)); have n3_ := Aside0.mk ((by rw [hg]; exact (below_size (by repeat (first | (with_reducible first | exact HB.out | apply below_alloc | apply pw_below_drewN | apply below_drew1) | exact HB.out))) : w.heap.size ≤ gb219)); clear HB; have HB := n0_; have BK219 := n1_; have GW219 := n2_; have GE219 := n3_; clear n0_ n1_ n2_ n3_; clear hb hbox hg; obtain ⟨hcz8_0, hcz8_1, hcz8_2, hcz8_3, hcz8_4, hcz8_5, hcz8_6, hcz8_7, hcz8_8⟩ := cl_9 (.int .u8 a0_0) (.int .u8 a0_1) (.int .u8 a0_2) (.int .u8 a0_3) (.slice A0_4 l0_4.length c0_4) (.int .i64 a0_5) (.int .i64 a0_6) (.int .i64 a0_7) (.bool a0_8) BK219.out; obtain ⟨hfz8_0, hfz8_1, hfz8_2, hfz8_3, hfz8_4, hfz8_5, hfz8_6, hfz8_7, hfz8_8⟩ := fz_9 BK219.out) | ((with_reducible refine gate_callee (f := 19) rfl ?_); refine goesL_ (some 17) rfl rfl Tryd.func19 (by kernel_rfl) rfl #[.int .i64 a0_5, .int .i64 1, .int .i64 8] rfl (by (try simp only [List.map_toArray, List.map_cons, List.map_nil]); first | done | rfl | (simp only [List.length_drop, List.length_take]; rfl)) ?_; (with_reducible refine (wharfingerref13_in.calls a0_5 1 8 t220 _ A2.out).mono ?_); rintro e w' ⟨rfl, ⟨nd, rfl⟩⟩; refine ⟨_, rfl, ?_⟩) | ((with_reducible refine gate_callee (f := 19) rfl ?_); refine goesL_ (some 20) rfl rfl Tryd.func19 (by kernel_rfl) rfl #[.int .i64 a0_6, .int .i64 1, .int .i64 1099511627776] rfl (by (try simp only [List.map_toArray, List.map_cons, List.map_nil]); first | done | rfl | (simp only [List.length_drop, List.length_take]; rfl)) ?_; (with_reducible refine (wharfingerref13_in.calls a0_6 1 1099511627776 t221 _ A3.out).mono ?_); rintro e w' ⟨rfl, ⟨nd, rfl⟩⟩; refine ⟨_, rfl, ?_⟩) | ((with_reducible refine gate_callee (f := 19) rfl ?_); refine goesL_ (some 23) rfl rfl Tryd.func19 (by kernel_rfl) rfl #[.int .i64 a0_7, .int .i64 1, .int .i64 1099511627776] rfl (by (try simp only [List.map_toArray, List.map_cons, List.map_nil]); first | done | rfl | (simp only [List.length_drop, List.length_take]; rfl)) ?_; (with_reducible refine (wharfingerref13_in.calls a0_7 1 1099511627776 t222 _ A4.out).mono ?_); rintro e w' ⟨rfl, ⟨nd, rfl⟩⟩; refine ⟨_, rfl, ?_⟩) | ((with_reducible refine gate_callee (f := 19) rfl ?_); refine goesL_ (some 25) rfl rfl Tryd.func19 (by kernel_rfl) rfl #[.int .i64 (l0_4.length : Int), .int .i64 1, .int .i64 4] rfl (by (try simp only [List.map_toArray, List.map_cons, List.map_nil]); first | done | rfl | (simp only [List.length_drop, List.length_take]; rfl)) ?_; (with_reducible refine (wharfingerref13_in.calls (l0_4.length : Int) 1 4 t223 _ A5.out).mono ?_); rintro e w' ⟨rfl, ⟨nd, rfl⟩⟩; refine ⟨_, rfl, ?_⟩))
 (try simp only [Act.put, List.setIfInBounds_toArray, List.set_cons_zero, List.set_cons_succ])
 go_cut [39] (fun v39 wc => ∃ (kq : Nat) (x39_5 : Bool), v39 = .bool x39_5 ∧ Aside0 (wharfingerref13_Why.j0 kq (l0_4.length : Int) x39_5 a0_0 a0_1 a0_2 a0_3 l0_4 a0_5 a0_6 a0_7 a0_8 = some (r1, r2)) ∧ Aside0 (kq ≤ k) ∧ Aside0 (wc.heap[gb219]? = some (.cells #[.int .u8 a0_0, .int .u8 a0_1, .int .u8 a0_2, .int .u8 a0_3, (.slice A0_4 l0_4.length c0_4), .int .i64 a0_5, .int .i64 a0_6, .int .i64 a0_7, .bool a0_8] 26 (0, 0))) ∧ Aside0 (Below w.heap.size w wc))
 case first =>
  have H := HC6.out
  clear HC6
  by_cases c9 : t220 = true
  ·
   subst c9
   have H1 : (if t221 = true then (if t222 = true then (wharfingerref13_Why.j0 k (l0_4.length : Int) (!t223) a0_0 a0_1 a0_2 a0_3 l0_4 a0_5 a0_6 a0_7 a0_8) else (wharfingerref13_Why.j0 k (l0_4.length : Int) true a0_0 a0_1 a0_2 a0_3 l0_4 a0_5 a0_6 a0_7 a0_8)) else (wharfingerref13_Why.j0 k (l0_4.length : Int) true a0_0 a0_1 a0_2 a0_3 l0_4 a0_5 a0_6 a0_7 a0_8)) = some (r1, r2) := by rw [if_pos rfl] at H; exact H
   clear H
   have H := H1
   clear H1
   by_cases c10 : t221 = true
   ·
    subst c10
    have H1 : (if t222 = true then (wharfingerref13_Why.j0 k (l0_4.length : Int) (!t223) a0_0 a0_1 a0_2 a0_3 l0_4 a0_5 a0_6 a0_7 a0_8) else (wharfingerref13_Why.j0 k (l0_4.length : Int) true a0_0 a0_1 a0_2 a0_3 l0_4 a0_5 a0_6 a0_7 a0_8)) = some (r1, r2) := by rw [if_pos rfl] at H; exact H
    clear H
    have H := H1
    clear H1
    by_cases c11 : t222 = true
    ·
     subst c11
     have H1 : (wharfingerref13_Why.j0 k (l0_4.length : Int) (!t223) a0_0 a0_1 a0_2 a0_3 l0_4 a0_5 a0_6 a0_7 a0_8) = some (r1, r2) := by rw [if_pos rfl] at H; exact H
     clear H
     have H := H1
     clear H1
     have H' := Aside0.mk H
     clear H
     go_wp2
     go_meet
     case rel => exact ⟨_, (!t223), (by first | rfl | (simp; done) | (simp [*]; done)), H', ⟨by first | omega | exact Nat.le_refl _⟩, ⟨by (with_reducible repeat (first | refine blk_drewN ?_ _ | refine blk_drew ?_ | refine blk_alloc ?_ _)); exact BK219.out⟩, ⟨by repeat (first | (with_reducible first | exact HB.out | apply below_alloc | apply pw_below_drewN | apply below_drew1 | refine below_set ?_ GE219.out) | exact HB.out)⟩⟩
    ·
     replace c11 := Bool.eq_false_iff.mpr c11
     subst c11
     have H1 : (wharfingerref13_Why.j0 k (l0_4.length : Int) true a0_0 a0_1 a0_2 a0_3 l0_4 a0_5 a0_6 a0_7 a0_8) = some (r1, r2) := by rw [if_neg (show ¬ (false = true) by decide)] at H; exact H
     clear H
     have H := H1
     clear H1
     have H' := Aside0.mk H
     clear H
     go_wp2
     go_meet
     case rel => exact ⟨_, (true), (by first | rfl | (simp; done) | (simp [*]; done)), H', ⟨by first | omega | exact Nat.le_refl _⟩, ⟨by (with_reducible repeat (first | refine blk_drewN ?_ _ | refine blk_drew ?_ | refine blk_alloc ?_ _)); exact BK219.out⟩, ⟨by repeat (first | (with_reducible first | exact HB.out | apply below_alloc | apply pw_below_drewN | apply below_drew1 | refine below_set ?_ GE219.out) | exact HB.out)⟩⟩
   ·
    replace c10 := Bool.eq_false_iff.mpr c10
    subst c10
    have H1 : (wharfingerref13_Why.j0 k (l0_4.length : Int) true a0_0 a0_1 a0_2 a0_3 l0_4 a0_5 a0_6 a0_7 a0_8) = some (r1, r2) := by rw [if_neg (show ¬ (false = true) by decide)] at H; exact H
    clear H
    have H := H1
    clear H1
    have H' := Aside0.mk H
    clear H
    go_wp2
    go_meet
    case rel => exact ⟨_, (true), (by first | rfl | (simp; done) | (simp [*]; done)), H', ⟨by first | omega | exact Nat.le_refl _⟩, ⟨by (with_reducible repeat (first | refine blk_drewN ?_ _ | refine blk_drew ?_ | refine blk_alloc ?_ _)); exact BK219.out⟩, ⟨by repeat (first | (with_reducible first | exact HB.out | apply below_alloc | apply pw_below_drewN | apply below_drew1 | refine below_set ?_ GE219.out) | exact HB.out)⟩⟩
  ·
   replace c9 := Bool.eq_false_iff.mpr c9
   subst c9
   have H1 : (wharfingerref13_Why.j0 k (l0_4.length : Int) true a0_0 a0_1 a0_2 a0_3 l0_4 a0_5 a0_6 a0_7 a0_8) = some (r1, r2) := by rw [if_neg (show ¬ (false = true) by decide)] at H; exact H
   clear H
   have H := H1
   clear H1
   have H' := Aside0.mk H
   clear H
   go_wp2
   go_meet
   case rel => exact ⟨_, (true), (by first | rfl | (simp; done) | (simp [*]; done)), H', ⟨by first | omega | exact Nat.le_refl _⟩, ⟨by (with_reducible repeat (first | refine blk_drewN ?_ _ | refine blk_drew ?_ | refine blk_alloc ?_ _)); exact BK219.out⟩, ⟨by repeat (first | (with_reducible first | exact HB.out | apply below_alloc | apply pw_below_drewN | apply below_drew1 | refine below_set ?_ GE219.out) | exact HB.out)⟩⟩
 case rest =>
  clear HC6
  try clear c1
  try clear p2
  try clear c9
  try clear c10
  try clear c11
  try clear hcz8_0
  try clear hcz8_1
  try clear hcz8_2
  try clear hcz8_3
  try clear hcz8_4
  try clear hcz8_5
  try clear hcz8_6
  try clear hcz8_7
  try clear hcz8_8
  try clear hfz8_0
  try clear hfz8_1
  try clear hfz8_2
  try clear hfz8_3
  try clear hfz8_4
  try clear hfz8_5
  try clear hfz8_6
  try clear hfz8_7
  try clear hfz8_8
  obtain ⟨kq, x39_5, rfl, HA, HJ5, BK219, HB⟩ := hcut
  cases kq with
  | zero => exact absurd HA.out (by simp [wharfingerref13_Why.j0])
  | succ kj5 =>
   have H := HA.out
   clear HA
   simp only [wharfingerref13_Why.j0] at H
   by_cases c12 : x39_5 = true
   ·
    subst c12
    have H1 : (some ((-1), 1)) = some (r1, r2) := by rw [if_pos rfl] at H; exact H
    clear H
    have H := H1
    clear H1
    simp only [Option.some.injEq, Prod.mk.injEq] at H
    obtain ⟨rfl, rfl⟩ := H
    go_wp2
    go_ret2
    exact ⟨by first | rfl | (simp [errW_none, errW_some] <;> rfl) | (simp [*, errW_none, errW_some] <;> rfl), by repeat (first | (with_reducible first | exact HB.out | apply below_alloc | apply pw_below_drewN | apply below_drew1 | refine below_set ?_ GE219.out) | exact HB.out)⟩
   ·
    replace c12 := Bool.eq_false_iff.mpr c12
    subst c12
    have H1 : (wharfingerref13_Why.l0 kj5 (l0_4.length : Int) 0 a0_0 a0_1 a0_2 a0_3 l0_4 a0_5 a0_6 a0_7 a0_8) = some (r1, r2) := by rw [if_neg (show ¬ (false = true) by decide)] at H; exact H
    clear H
    have H := H1
    clear H1
    have H' := Aside0.mk H
    clear H
    go_wp2
    go_loopg [9] kj5 (fun kq v9 w' => ∃ (x9_2 : Int), v9 = .int .i64 x9_2 ∧ Aside0 (wharfingerref13_Why.l0 kq (l0_4.length : Int) x9_2 a0_0 a0_1 a0_2 a0_3 l0_4 a0_5 a0_6 a0_7 a0_8 = some (r1, r2)) ∧ Aside0 (kq ≤ kj5) ∧ Aside0 (w'.heap[gb219]? = some (.cells #[.int .u8 a0_0, .int .u8 a0_1, .int .u8 a0_2, .int .u8 a0_3, (.slice A0_4 l0_4.length c0_4), .int .i64 a0_5, .int .i64 a0_6, .int .i64 a0_7, .bool a0_8] 26 (0, 0))) ∧ Aside0 (Below w.heap.size w w'))
    case atStart => exact ⟨(0), (by first | rfl | (simp; done) | (simp [*]; done)), H', ⟨Nat.le_refl _⟩, ⟨by (with_reducible repeat (first | refine blk_drewN ?_ _ | refine blk_drew ?_ | refine blk_alloc ?_ _)); exact BK219.out⟩, ⟨by repeat (first | (with_reducible first | exact HB.out | apply below_alloc | apply pw_below_drewN | apply below_drew1 | refine below_set ?_ GE219.out) | exact HB.out)⟩⟩
    case round =>
     clear H'
     try clear c1
     try clear p2
     try clear c9
     try clear c10
     try clear c11
     try clear c12
     try clear hcz8_0
     try clear hcz8_1
     try clear hcz8_2
     try clear hcz8_3
     try clear hcz8_4
     try clear hcz8_5
     try clear hcz8_6
     try clear hcz8_7
     try clear hcz8_8
     try clear hfz8_0
     try clear hfz8_1
     try clear hfz8_2
     try clear hfz8_3
     try clear hfz8_4
     try clear hfz8_5
     try clear hfz8_6
     try clear hfz8_7
     try clear hfz8_8
     try clear p2
     obtain ⟨x9_2, rfl, HA, HK2, BK219, HB⟩ := hrel
     cases gk with
     | zero => exact absurd HA.out (by simp [wharfingerref13_Why.l0])
     | succ k2 =>
      have H := HA.out
      clear HA
      simp only [wharfingerref13_Why.l0] at H
      by_cases c13 : x9_2 < (l0_4.length : Int)
      ·
       rw [if_pos c13] at H
       have c13b0 : decide (x9_2 < (l0_4.length : Int)) = true := decide_eq_true c13
       clear c13
       replace H := Option.bind_eq_some_iff.mp H
       obtain ⟨t224, A140, H⟩ := H
       replace H : (if t224 = true then ((wharfingerref13_ports.f k2 a0_0 a0_1 a0_2 a0_3 l0_4 a0_5 a0_6 a0_7 a0_8 x9_2).bind fun t225 => (if t225 = true then (wharfingerref13_Why.l0 k2 (l0_4.length : Int) (wrap64 (x9_2 + 1)) a0_0 a0_1 a0_2 a0_3 l0_4 a0_5 a0_6 a0_7 a0_8) else (some (x9_2, 3)))) else (some (x9_2, 2))) = some (r1, r2) := H
       have A14 := Aside0.mk A140
       clear A140
       by_cases c15 : t224 = true
       ·
        subst c15
        have H1 : ((wharfingerref13_ports.f k2 a0_0 a0_1 a0_2 a0_3 l0_4 a0_5 a0_6 a0_7 a0_8 x9_2).bind fun t225 => (if t225 = true then (wharfingerref13_Why.l0 k2 (l0_4.length : Int) (wrap64 (x9_2 + 1)) a0_0 a0_1 a0_2 a0_3 l0_4 a0_5 a0_6 a0_7 a0_8) else (some (x9_2, 3)))) = some (r1, r2) := by rw [if_pos rfl] at H; exact H
        clear H
        have H := H1
        clear H1
        replace H := Option.bind_eq_some_iff.mp H
        obtain ⟨t225, A160, H⟩ := H
        replace H : (if t225 = true then (wharfingerref13_Why.l0 k2 (l0_4.length : Int) (wrap64 (x9_2 + 1)) a0_0 a0_1 a0_2 a0_3 l0_4 a0_5 a0_6 a0_7 a0_8) else (some (x9_2, 3))) = some (r1, r2) := H
        have A16 := Aside0.mk A160
        clear A160
        by_cases c17 : t225 = true
        ·
         subst c17
         have H1 : (wharfingerref13_Why.l0 k2 (l0_4.length : Int) (wrap64 (x9_2 + 1)) a0_0 a0_1 a0_2 a0_3 l0_4 a0_5 a0_6 a0_7 a0_8) = some (r1, r2) := by rw [if_pos rfl] at H; exact H
         clear H
         have H := H1
         clear H1
         have H' := Aside0.mk H
         clear H
         have hcz18_0 : wr.cell? ⟨gb219, 0, none⟩ = some (.int .u8 a0_0) := (blk_cell BK219.out 0).trans rfl
         have hcz18_1 : wr.cell? ⟨gb219, 1, none⟩ = some (.int .u8 a0_1) := (blk_cell BK219.out 1).trans rfl
         have hcz18_2 : wr.cell? ⟨gb219, 2, none⟩ = some (.int .u8 a0_2) := (blk_cell BK219.out 2).trans rfl
         have hcz18_3 : wr.cell? ⟨gb219, 3, none⟩ = some (.int .u8 a0_3) := (blk_cell BK219.out 3).trans rfl
         have hcz18_4 : wr.cell? ⟨gb219, 4, none⟩ = some (.slice A0_4 l0_4.length c0_4) := (blk_cell BK219.out 4).trans rfl
         have hcz18_5 : wr.cell? ⟨gb219, 5, none⟩ = some (.int .i64 a0_5) := (blk_cell BK219.out 5).trans rfl
         have hcz18_6 : wr.cell? ⟨gb219, 6, none⟩ = some (.int .i64 a0_6) := (blk_cell BK219.out 6).trans rfl
         have hcz18_7 : wr.cell? ⟨gb219, 7, none⟩ = some (.int .i64 a0_7) := (blk_cell BK219.out 7).trans rfl
         have hcz18_8 : wr.cell? ⟨gb219, 8, none⟩ = some (.bool a0_8) := (blk_cell BK219.out 8).trans rfl
         have hfz18_0 := blk_frozen BK219.out 0
         have hfz18_1 := blk_frozen BK219.out 1
         have hfz18_2 := blk_frozen BK219.out 2
         have hfz18_3 := blk_frozen BK219.out 3
         have hfz18_4 := blk_frozen BK219.out 4
         have hfz18_5 := blk_frozen BK219.out 5
         have hfz18_6 := blk_frozen BK219.out 6
         have hfz18_7 := blk_frozen BK219.out 7
         have hfz18_8 := blk_frozen BK219.out 8
         go_wp2_with (first | ((with_reducible refine gate_callee (f := 20) rfl ?_); refine goesL_ (some 47) rfl rfl Tryd.func20 (by kernel_rfl) rfl #[.agg #[.int .u8 a0_0, .int .u8 a0_1, .int .u8 a0_2, .int .u8 a0_3, .slice A0_4 l0_4.length c0_4, .int .i64 a0_5, .int .i64 a0_6, .int .i64 a0_7, .bool a0_8], .int .i64 x9_2] rfl (by (try simp only [List.map_toArray, List.map_cons, List.map_nil]); first | done | rfl | (simp only [List.length_drop, List.length_take]; rfl)) ?_; (with_reducible refine (wharfingerref13_tenant.calls k2 a0_0 a0_1 a0_2 a0_3 _ _ l0_4 a0_5 a0_6 a0_7 a0_8 x9_2 true _ ?side1 ?side2 A14.out).mono ?_); (case side1 => repeat (first | exact (Kd.C_below HR0_4.out HB.out) | (with_reducible refine Kd.C_alloc ?_ _) | (with_reducible refine Kd.C_drewN ?_ _) | (with_reducible refine Kd.C_drew ?_))); (case side2 => exact HC0_4.out); rintro e w19 ⟨rfl, hb⟩; refine ⟨_, rfl, ?_⟩; have n0_ := Aside0.mk (blk_below (g := gb219) (o := .cells #[.int .u8 a0_0, .int .u8 a0_1, .int .u8 a0_2, .int .u8 a0_3, .slice A0_4 l0_4.length c0_4, .int .i64 a0_5, .int .i64 a0_6, .int .i64 a0_7, .bool a0_8] 26 (0, 0)) (by (with_reducible repeat (first | refine blk_drewN ?_ _ | refine blk_drew ?_ | refine blk_alloc ?_ _)); exact BK219.out) hb); have n1_ := Aside0.mk (below_step (by repeat (first | (with_reducible first | exact HB.out | apply below_alloc | apply pw_below_drewN | apply below_drew1 | refine below_set ?_ GE219.out) | exact HB.out)) hb); clear BK219; clear HB; have BK219 := n0_; have HB := n1_; clear n0_ n1_; (try clear hb); (try clear hb2); (try clear hk); (try clear hi); obtain ⟨hcz20_0, hcz20_1, hcz20_2, hcz20_3, hcz20_4, hcz20_5, hcz20_6, hcz20_7, hcz20_8⟩ := cl_9 (.int .u8 a0_0) (.int .u8 a0_1) (.int .u8 a0_2) (.int .u8 a0_3) (.slice A0_4 l0_4.length c0_4) (.int .i64 a0_5) (.int .i64 a0_6) (.int .i64 a0_7) (.bool a0_8) BK219.out; obtain ⟨hfz20_0, hfz20_1, hfz20_2, hfz20_3, hfz20_4, hfz20_5, hfz20_6, hfz20_7, hfz20_8⟩ := fz_9 BK219.out) | ((with_reducible refine gate_callee (f := 21) rfl ?_); refine goesL_ (some 53) rfl rfl Tryd.func21 (by kernel_rfl) rfl #[.agg #[.int .u8 a0_0, .int .u8 a0_1, .int .u8 a0_2, .int .u8 a0_3, .slice A0_4 l0_4.length c0_4, .int .i64 a0_5, .int .i64 a0_6, .int .i64 a0_7, .bool a0_8], .int .i64 x9_2] rfl (by (try simp only [List.map_toArray, List.map_cons, List.map_nil]); first | done | rfl | (simp only [List.length_drop, List.length_take]; rfl)) ?_; (with_reducible refine (wharfingerref13_ports.calls k2 a0_0 a0_1 a0_2 a0_3 _ _ l0_4 a0_5 a0_6 a0_7 a0_8 x9_2 true _ ?side1 ?side2 A16.out).mono ?_); (case side1 => repeat (first | exact (Kd.C_below HR0_4.out HB.out) | (with_reducible refine Kd.C_alloc ?_ _) | (with_reducible refine Kd.C_drewN ?_ _) | (with_reducible refine Kd.C_drew ?_))); (case side2 => exact HC0_4.out); rintro e w21 ⟨rfl, hb⟩; refine ⟨_, rfl, ?_⟩; have n0_ := Aside0.mk (blk_below (g := gb219) (o := .cells #[.int .u8 a0_0, .int .u8 a0_1, .int .u8 a0_2, .int .u8 a0_3, .slice A0_4 l0_4.length c0_4, .int .i64 a0_5, .int .i64 a0_6, .int .i64 a0_7, .bool a0_8] 26 (0, 0)) (by (with_reducible repeat (first | refine blk_drewN ?_ _ | refine blk_drew ?_ | refine blk_alloc ?_ _)); exact BK219.out) hb); have n1_ := Aside0.mk (below_step (by repeat (first | (with_reducible first | exact HB.out | apply below_alloc | apply pw_below_drewN | apply below_drew1 | refine below_set ?_ GE219.out) | exact HB.out)) hb); clear BK219; clear HB; have BK219 := n0_; have HB := n1_; clear n0_ n1_; (try clear hb); (try clear hb2); (try clear hk); (try clear hi)))
         go_roundg k2
         case measure => have := HJ5.out; have := HK2.out; omega
         case rel => exact ⟨(wrap64 (x9_2 + 1)), (by first | rfl | (simp; done) | (simp [*]; done)), H', ⟨by have := HJ5.out; have := HK2.out; omega⟩, ⟨by (with_reducible repeat (first | refine blk_drewN ?_ _ | refine blk_drew ?_ | refine blk_alloc ?_ _)); exact BK219.out⟩, ⟨by repeat (first | (with_reducible first | exact HB.out | apply below_alloc | apply pw_below_drewN | apply below_drew1 | refine below_set ?_ GE219.out) | exact HB.out)⟩⟩
        ·
         replace c17 := Bool.eq_false_iff.mpr c17
         subst c17
         have H1 : (some (x9_2, 3)) = some (r1, r2) := by rw [if_neg (show ¬ (false = true) by decide)] at H; exact H
         clear H
         have H := H1
         clear H1
         simp only [Option.some.injEq, Prod.mk.injEq] at H
         obtain ⟨rfl, rfl⟩ := H
         have hcz22_0 : wr.cell? ⟨gb219, 0, none⟩ = some (.int .u8 a0_0) := (blk_cell BK219.out 0).trans rfl
         have hcz22_1 : wr.cell? ⟨gb219, 1, none⟩ = some (.int .u8 a0_1) := (blk_cell BK219.out 1).trans rfl
         have hcz22_2 : wr.cell? ⟨gb219, 2, none⟩ = some (.int .u8 a0_2) := (blk_cell BK219.out 2).trans rfl
         have hcz22_3 : wr.cell? ⟨gb219, 3, none⟩ = some (.int .u8 a0_3) := (blk_cell BK219.out 3).trans rfl
         have hcz22_4 : wr.cell? ⟨gb219, 4, none⟩ = some (.slice A0_4 l0_4.length c0_4) := (blk_cell BK219.out 4).trans rfl
         have hcz22_5 : wr.cell? ⟨gb219, 5, none⟩ = some (.int .i64 a0_5) := (blk_cell BK219.out 5).trans rfl
         have hcz22_6 : wr.cell? ⟨gb219, 6, none⟩ = some (.int .i64 a0_6) := (blk_cell BK219.out 6).trans rfl
         have hcz22_7 : wr.cell? ⟨gb219, 7, none⟩ = some (.int .i64 a0_7) := (blk_cell BK219.out 7).trans rfl
         have hcz22_8 : wr.cell? ⟨gb219, 8, none⟩ = some (.bool a0_8) := (blk_cell BK219.out 8).trans rfl
         have hfz22_0 := blk_frozen BK219.out 0
         have hfz22_1 := blk_frozen BK219.out 1
         have hfz22_2 := blk_frozen BK219.out 2
         have hfz22_3 := blk_frozen BK219.out 3
         have hfz22_4 := blk_frozen BK219.out 4
         have hfz22_5 := blk_frozen BK219.out 5
         have hfz22_6 := blk_frozen BK219.out 6
         have hfz22_7 := blk_frozen BK219.out 7
         have hfz22_8 := blk_frozen BK219.out 8
         go_wp2_with (first | ((with_reducible refine gate_callee (f := 20) rfl ?_); refine goesL_ (some 47) rfl rfl Tryd.func20 (by kernel_rfl) rfl #[.agg #[.int .u8 a0_0, .int .u8 a0_1, .int .u8 a0_2, .int .u8 a0_3, .slice A0_4 l0_4.length c0_4, .int .i64 a0_5, .int .i64 a0_6, .int .i64 a0_7, .bool a0_8], .int .i64 x9_2] rfl (by (try simp only [List.map_toArray, List.map_cons, List.map_nil]); first | done | rfl | (simp only [List.length_drop, List.length_take]; rfl)) ?_; (with_reducible refine (wharfingerref13_tenant.calls k2 a0_0 a0_1 a0_2 a0_3 _ _ l0_4 a0_5 a0_6 a0_7 a0_8 x9_2 true _ ?side1 ?side2 A14.out).mono ?_); (case side1 => repeat (first | exact (Kd.C_below HR0_4.out HB.out) | (with_reducible refine Kd.C_alloc ?_ _) | (with_reducible refine Kd.C_drewN ?_ _) | (with_reducible refine Kd.C_drew ?_))); (case side2 => exact HC0_4.out); rintro e w23 ⟨rfl, hb⟩; refine ⟨_, rfl, ?_⟩; have n0_ := Aside0.mk (blk_below (g := gb219) (o := .cells #[.int .u8 a0_0, .int .u8 a0_1, .int .u8 a0_2, .int .u8 a0_3, .slice A0_4 l0_4.length c0_4, .int .i64 a0_5, .int .i64 a0_6, .int .i64 a0_7, .bool a0_8] 26 (0, 0)) (by (with_reducible repeat (first | refine blk_drewN ?_ _ | refine blk_drew ?_ | refine blk_alloc ?_ _)); exact BK219.out) hb); have n1_ := Aside0.mk (below_step (by repeat (first | (with_reducible first | exact HB.out | apply below_alloc | apply pw_below_drewN | apply below_drew1 | refine below_set ?_ GE219.out) | exact HB.out)) hb); clear BK219; clear HB; have BK219 := n0_; have HB := n1_; clear n0_ n1_; (try clear hb); (try clear hb2); (try clear hk); (try clear hi); obtain ⟨hcz24_0, hcz24_1, hcz24_2, hcz24_3, hcz24_4, hcz24_5, hcz24_6, hcz24_7, hcz24_8⟩ := cl_9 (.int .u8 a0_0) (.int .u8 a0_1) (.int .u8 a0_2) (.int .u8 a0_3) (.slice A0_4 l0_4.length c0_4) (.int .i64 a0_5) (.int .i64 a0_6) (.int .i64 a0_7) (.bool a0_8) BK219.out; obtain ⟨hfz24_0, hfz24_1, hfz24_2, hfz24_3, hfz24_4, hfz24_5, hfz24_6, hfz24_7, hfz24_8⟩ := fz_9 BK219.out) | ((with_reducible refine gate_callee (f := 21) rfl ?_); refine goesL_ (some 53) rfl rfl Tryd.func21 (by kernel_rfl) rfl #[.agg #[.int .u8 a0_0, .int .u8 a0_1, .int .u8 a0_2, .int .u8 a0_3, .slice A0_4 l0_4.length c0_4, .int .i64 a0_5, .int .i64 a0_6, .int .i64 a0_7, .bool a0_8], .int .i64 x9_2] rfl (by (try simp only [List.map_toArray, List.map_cons, List.map_nil]); first | done | rfl | (simp only [List.length_drop, List.length_take]; rfl)) ?_; (with_reducible refine (wharfingerref13_ports.calls k2 a0_0 a0_1 a0_2 a0_3 _ _ l0_4 a0_5 a0_6 a0_7 a0_8 x9_2 false _ ?side1 ?side2 A16.out).mono ?_); (case side1 => repeat (first | exact (Kd.C_below HR0_4.out HB.out) | (with_reducible refine Kd.C_alloc ?_ _) | (with_reducible refine Kd.C_drewN ?_ _) | (with_reducible refine Kd.C_drew ?_))); (case side2 => exact HC0_4.out); rintro e w25 ⟨rfl, hb⟩; refine ⟨_, rfl, ?_⟩; have n0_ := Aside0.mk (blk_below (g := gb219) (o := .cells #[.int .u8 a0_0, .int .u8 a0_1, .int .u8 a0_2, .int .u8 a0_3, .slice A0_4 l0_4.length c0_4, .int .i64 a0_5, .int .i64 a0_6, .int .i64 a0_7, .bool a0_8] 26 (0, 0)) (by (with_reducible repeat (first | refine blk_drewN ?_ _ | refine blk_drew ?_ | refine blk_alloc ?_ _)); exact BK219.out) hb); have n1_ := Aside0.mk (below_step (by repeat (first | (with_reducible first | exact HB.out | apply below_alloc | apply pw_below_drewN | apply below_drew1 | refine below_set ?_ GE219.out) | exact HB.out)) hb); clear BK219; clear HB; have BK219 := n0_; have HB := n1_; clear n0_ n1_; (try clear hb); (try clear hb2); (try clear hk); (try clear hi)))
         go_ret2
         exact ⟨by first | rfl | (simp [errW_none, errW_some] <;> rfl) | (simp [*, errW_none, errW_some] <;> rfl), by repeat (first | (with_reducible first | exact HB.out | apply below_alloc | apply pw_below_drewN | apply below_drew1 | refine below_set ?_ GE219.out) | exact HB.out)⟩
       ·
        replace c15 := Bool.eq_false_iff.mpr c15
        subst c15
        have H1 : (some (x9_2, 2)) = some (r1, r2) := by rw [if_neg (show ¬ (false = true) by decide)] at H; exact H
        clear H
        have H := H1
        clear H1
        simp only [Option.some.injEq, Prod.mk.injEq] at H
        obtain ⟨rfl, rfl⟩ := H
        have hcz26_0 : wr.cell? ⟨gb219, 0, none⟩ = some (.int .u8 a0_0) := (blk_cell BK219.out 0).trans rfl
        have hcz26_1 : wr.cell? ⟨gb219, 1, none⟩ = some (.int .u8 a0_1) := (blk_cell BK219.out 1).trans rfl
        have hcz26_2 : wr.cell? ⟨gb219, 2, none⟩ = some (.int .u8 a0_2) := (blk_cell BK219.out 2).trans rfl
        have hcz26_3 : wr.cell? ⟨gb219, 3, none⟩ = some (.int .u8 a0_3) := (blk_cell BK219.out 3).trans rfl
        have hcz26_4 : wr.cell? ⟨gb219, 4, none⟩ = some (.slice A0_4 l0_4.length c0_4) := (blk_cell BK219.out 4).trans rfl
        have hcz26_5 : wr.cell? ⟨gb219, 5, none⟩ = some (.int .i64 a0_5) := (blk_cell BK219.out 5).trans rfl
        have hcz26_6 : wr.cell? ⟨gb219, 6, none⟩ = some (.int .i64 a0_6) := (blk_cell BK219.out 6).trans rfl
        have hcz26_7 : wr.cell? ⟨gb219, 7, none⟩ = some (.int .i64 a0_7) := (blk_cell BK219.out 7).trans rfl
        have hcz26_8 : wr.cell? ⟨gb219, 8, none⟩ = some (.bool a0_8) := (blk_cell BK219.out 8).trans rfl
        have hfz26_0 := blk_frozen BK219.out 0
        have hfz26_1 := blk_frozen BK219.out 1
        have hfz26_2 := blk_frozen BK219.out 2
        have hfz26_3 := blk_frozen BK219.out 3
        have hfz26_4 := blk_frozen BK219.out 4
        have hfz26_5 := blk_frozen BK219.out 5
        have hfz26_6 := blk_frozen BK219.out 6
        have hfz26_7 := blk_frozen BK219.out 7
        have hfz26_8 := blk_frozen BK219.out 8
        go_wp2_with (first | ((with_reducible refine gate_callee (f := 20) rfl ?_); refine goesL_ (some 47) rfl rfl Tryd.func20 (by kernel_rfl) rfl #[.agg #[.int .u8 a0_0, .int .u8 a0_1, .int .u8 a0_2, .int .u8 a0_3, .slice A0_4 l0_4.length c0_4, .int .i64 a0_5, .int .i64 a0_6, .int .i64 a0_7, .bool a0_8], .int .i64 x9_2] rfl (by (try simp only [List.map_toArray, List.map_cons, List.map_nil]); first | done | rfl | (simp only [List.length_drop, List.length_take]; rfl)) ?_; (with_reducible refine (wharfingerref13_tenant.calls k2 a0_0 a0_1 a0_2 a0_3 _ _ l0_4 a0_5 a0_6 a0_7 a0_8 x9_2 false _ ?side1 ?side2 A14.out).mono ?_); (case side1 => repeat (first | exact (Kd.C_below HR0_4.out HB.out) | (with_reducible refine Kd.C_alloc ?_ _) | (with_reducible refine Kd.C_drewN ?_ _) | (with_reducible refine Kd.C_drew ?_))); (case side2 => exact HC0_4.out); rintro e w27 ⟨rfl, hb⟩; refine ⟨_, rfl, ?_⟩; have n0_ := Aside0.mk (blk_below (g := gb219) (o := .cells #[.int .u8 a0_0, .int .u8 a0_1, .int .u8 a0_2, .int .u8 a0_3, .slice A0_4 l0_4.length c0_4, .int .i64 a0_5, .int .i64 a0_6, .int .i64 a0_7, .bool a0_8] 26 (0, 0)) (by (with_reducible repeat (first | refine blk_drewN ?_ _ | refine blk_drew ?_ | refine blk_alloc ?_ _)); exact BK219.out) hb); have n1_ := Aside0.mk (below_step (by repeat (first | (with_reducible first | exact HB.out | apply below_alloc | apply pw_below_drewN | apply below_drew1 | refine below_set ?_ GE219.out) | exact HB.out)) hb); clear BK219; clear HB; have BK219 := n0_; have HB := n1_; clear n0_ n1_; (try clear hb); (try clear hb2); (try clear hk); (try clear hi)))
        go_ret2
        exact ⟨by first | rfl | (simp [errW_none, errW_some] <;> rfl) | (simp [*, errW_none, errW_some] <;> rfl), by repeat (first | (with_reducible first | exact HB.out | apply below_alloc | apply pw_below_drewN | apply below_drew1 | refine below_set ?_ GE219.out) | exact HB.out)⟩
      ·
       rw [if_neg c13] at H
       have c13b0 : decide (x9_2 < (l0_4.length : Int)) = false := decide_eq_false c13
       clear c13
       simp only [Option.some.injEq, Prod.mk.injEq] at H
       obtain ⟨rfl, rfl⟩ := H
       go_wp2
       go_ret2
       exact ⟨by first | rfl | (simp [errW_none, errW_some] <;> rfl) | (simp [*, errW_none, errW_some] <;> rfl), by repeat (first | (with_reducible first | exact HB.out | apply below_alloc | apply pw_below_drewN | apply below_drew1 | refine below_set ?_ GE219.out) | exact HB.out)⟩

end Go.Proofs.YtajaedebndeajaaDoor.Q

namespace Go.Proofs.YtajaedebndeajaaDoor.Q
open Go.RowKit Go.Proofs.YtajaedebndeajaaDoor.AclMet Go.Proofs.YtajaedebndeajaaDoorW.PrintWords Go.Proofs.YtajaedebndeajaaDoorW.PrintLast Go.Proofs.YtajaedebndeajaaDoorW.PrintMore
attribute [local go_sem] max2_int min2_int max_two min_two max_three min_three max_four min_four   -- for this text's walks alone
set_option linter.unusedVariables false
set_option linter.unusedSimpArgs false

/-! ### wharfingerref13_May: function 13 -/
def wharfingerref13_May.f (k : Nat) (a0_0 : Int) (a0_1 : Int) (a0_2 : Int) (a0_3 : Int) (l0_4 : List (S40)) (a0_5 : Int) (a0_6 : Int) (a0_7 : Int) (a0_8 : Bool) : Option (Bool) := (wharfingerref13_Why.f k a0_0 a0_1 a0_2 a0_3 l0_4 a0_5 a0_6 a0_7 a0_8).bind fun bt227 => (some (bt227.2 == 0))
theorem wharfingerref13_May.mono : ∀ a0 a1 a2 a3 a4 a5 a6 a7 a8 k, LeO (wharfingerref13_May.f k a0 a1 a2 a3 a4 a5 a6 a7 a8) (wharfingerref13_May.f (k + 1) a0 a1 a2 a3 a4 a5 a6 a7 a8) := by
 intro a0 a1 a2 a3 a4 a5 a6 a7 a8 k
 unfold wharfingerref13_May.f
 repeat' first
   | (with_reducible exact wharfingerref13_Why.mono _ _ _ _ _ _ _ _ _ _)
   | (with_reducible exact LeO.refl _)
   | (with_reducible exact LeO.none _)
   | (with_reducible refine LeO.ite ?_ ?_)
   | (with_reducible refine LeO.bind ?_ (fun _ => ?_))
   | exact wharfingerref13_Why.mono _ _ _ _ _ _ _ _ _ _
   | exact LeO.none _
   | refine LeO.ite ?_ ?_
   | refine LeO.bind ?_ (fun _ => ?_)
set_option maxHeartbeats 8000000 in
set_option maxRecDepth 100000 in
theorem wharfingerref13_May.calls (k : Nat) (a0_0 : Int) (a0_1 : Int) (a0_2 : Int) (a0_3 : Int) (A0_4 : Option Addr) (c0_4 : Nat) (l0_4 : List (S40)) (a0_5 : Int) (a0_6 : Int) (a0_7 : Int) (a0_8 : Bool) (r : Bool) (w : World) (hr0_4 : Kd.C k40 w A0_4 l0_4.length l0_4) (hc0_4 : l0_4.length ≤ c0_4) (h : wharfingerref13_May.f k a0_0 a0_1 a0_2 a0_3 l0_4 a0_5 a0_6 a0_7 a0_8 = some r) :
  Calls Tryd.prog 13 #[.agg #[.int .u8 a0_0, .int .u8 a0_1, .int .u8 a0_2, .int .u8 a0_3, .slice A0_4 l0_4.length c0_4, .int .i64 a0_5, .int .i64 a0_6, .int .i64 a0_7, .bool a0_8]] w fun e w' => e = .returned (.bool r) ∧ Below w.heap.size w w' := by
 have hu26 := Tryd.underlying26
 have HR0_4 := Aside0.mk hr0_4
 have HC0_4 := Aside0.mk hc0_4
 clear hr0_4 hc0_4
 have HB := Aside0.mk (Below.refl w.heap.size w)
 have H : ((wharfingerref13_Why.f k a0_0 a0_1 a0_2 a0_3 l0_4 a0_5 a0_6 a0_7 a0_8).bind fun bt227 => (some (bt227.2 == 0))) = some r := h
 clear h
 replace H := Option.bind_eq_some_iff.mp H
 obtain ⟨⟨t227, t228⟩, A20, H⟩ := H
 replace H : (some (t228 == 0)) = some r := H
 have A2 := Aside0.mk A20
 clear A20
 obtain rfl := Option.some.inj H
 go_enter Tryd.func13, Tryd.ntmps13
 go_wp2_with (first | ((with_reducible refine gate_dst (N := 1) rfl ?_); refine box_event ?hg (N := 1) ?hd (cs := #[.int .u8 a0_0, .int .u8 a0_1, .int .u8 a0_2, .int .u8 a0_3, .slice A0_4 l0_4.length c0_4, .int .i64 a0_5, .int .i64 a0_6, .int .i64 a0_7, .bool a0_8]) (t := 26) ?hr ?_; (case hd => rfl); (case hg => rfl); (case hr => first | (go_simp; done) | (go_simp; rfl)); intro gb226 hg w3 hbox hb; have n0_ := Aside0.mk (below_step (by repeat (first | (with_reducible first | exact HB.out | apply below_alloc | apply pw_below_drewN | apply below_drew1) | exact HB.out)) hb); have n1_ := Aside0.mk (hbox); have n2_ := Aside0.mk ((by rw [hg]; exact (below_size (by repeat (first | (with_reducible first | exact HB.out | apply below_alloc | apply pw_below_drewN | apply below_drew1) | exact HB.out))) : w.heap.size ≤ gb226)); have n3_ := Aside0.mk ((by rw [hg]; exact (below_size (by repeat (first | (with_reducible first | exact HB.out | apply below_alloc | apply pw_below_drewN | apply below_drew1) | exact HB.out))) : w.heap.size ≤ gb226)); clear HB; have HB := n0_; have BK226 := n1_; have GW226 := n2_; have GE226 := n3_; clear n0_ n1_ n2_ n3_; clear hb hbox hg; obtain ⟨hcz4_0, hcz4_1, hcz4_2, hcz4_3, hcz4_4, hcz4_5, hcz4_6, hcz4_7, hcz4_8⟩ := cl_9 (.int .u8 a0_0) (.int .u8 a0_1) (.int .u8 a0_2) (.int .u8 a0_3) (.slice A0_4 l0_4.length c0_4) (.int .i64 a0_5) (.int .i64 a0_6) (.int .i64 a0_7) (.bool a0_8) BK226.out; obtain ⟨hfz4_0, hfz4_1, hfz4_2, hfz4_3, hfz4_4, hfz4_5, hfz4_6, hfz4_7, hfz4_8⟩ := fz_9 BK226.out) | ((with_reducible refine gate_callee (f := 12) rfl ?_); refine goesL_ (some 7) rfl rfl Tryd.func12 (by kernel_rfl) rfl #[.agg #[.int .u8 a0_0, .int .u8 a0_1, .int .u8 a0_2, .int .u8 a0_3, .slice A0_4 l0_4.length c0_4, .int .i64 a0_5, .int .i64 a0_6, .int .i64 a0_7, .bool a0_8]] rfl (by (try simp only [List.map_toArray, List.map_cons, List.map_nil]); first | done | rfl | (simp only [List.length_drop, List.length_take]; rfl)) ?_; (with_reducible refine (wharfingerref13_Why.calls k a0_0 a0_1 a0_2 a0_3 _ _ l0_4 a0_5 a0_6 a0_7 a0_8 t227 t228 _ ?side1 ?side2 A2.out).mono ?_); (case side1 => repeat (first | exact (Kd.C_below HR0_4.out HB.out) | (with_reducible refine Kd.C_alloc ?_ _) | (with_reducible refine Kd.C_drewN ?_ _) | (with_reducible refine Kd.C_drew ?_))); (case side2 => exact HC0_4.out); rintro e w5 ⟨rfl, hb⟩; refine ⟨_, rfl, ?_⟩; have n0_ := Aside0.mk (blk_below (g := gb226) (o := .cells #[.int .u8 a0_0, .int .u8 a0_1, .int .u8 a0_2, .int .u8 a0_3, .slice A0_4 l0_4.length c0_4, .int .i64 a0_5, .int .i64 a0_6, .int .i64 a0_7, .bool a0_8] 26 (0, 0)) (by (with_reducible repeat (first | refine blk_drewN ?_ _ | refine blk_drew ?_ | refine blk_alloc ?_ _)); exact BK226.out) hb); have n1_ := Aside0.mk (below_step (by repeat (first | (with_reducible first | exact HB.out | apply below_alloc | apply pw_below_drewN | apply below_drew1 | refine below_set ?_ GE226.out) | exact HB.out)) hb); clear BK226; clear HB; have BK226 := n0_; have HB := n1_; clear n0_ n1_; (try clear hb); (try clear hb2); (try clear hk); (try clear hi)))
 go_ret
 exact ⟨by first | rfl | (simp [errW_none, errW_some] <;> rfl) | (simp [*, errW_none, errW_some] <;> rfl), by repeat (first | (with_reducible first | exact HB.out | apply below_alloc | apply pw_below_drewN | apply below_drew1 | refine below_set ?_ GE226.out) | exact HB.out)⟩

end Go.Proofs.YtajaedebndeajaaDoor.Q
