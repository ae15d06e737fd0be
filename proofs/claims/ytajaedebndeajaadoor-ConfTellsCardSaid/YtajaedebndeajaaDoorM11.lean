/- Contracts and plain facts that the law's proof needs. -/
import Derived.Test.YtajaedebndeajaaDoorM2
import Derived.Test.YtajaedebndeajaaDoorM4
import Derived.Test.YtajaedebndeajaaDoorM7
import Derived.Test.YtajaedebndeajaaDoorM6
namespace Go.Proofs.YtajaedebndeajaaDoor.Q
open Go.RowKit Go.Proofs.YtajaedebndeajaaDoor.AclMet Go.Proofs.YtajaedebndeajaaDoorW.PrintWords Go.Proofs.YtajaedebndeajaaDoorW.PrintLast Go.Proofs.YtajaedebndeajaaDoorW.PrintMore
attribute [local go_sem] max2_int min2_int max_two min_two max_three min_three max_four min_four   -- for this text's walks alone
set_option linter.unusedVariables false
set_option linter.unusedSimpArgs false

/-! ### wharfingerlaw13_ConfTells: function 3 -/
def wharfingerlaw13_ConfTells.j0 : Nat → Bool → Bool → Int → Int → Int → Int → List (S40) → Int → Int → Int → Bool → Option (Bool)
 | 0, _, _, _, _, _, _, _, _, _, _, _ => none
 | k + 1, x3, x18, x230000, x230001, x230002, x230003, x230004, x230005, x230006, x230007, x230008 => if x18 = true then (some x3) else ((conf_Why.f x230000 x230001 x230002 x230003 x230004 x230005 x230006 x230007 x230008).bind fun bt232 => ((wharfingerref13_Why.f k x230000 x230001 x230002 x230003 x230004 x230005 x230006 x230007 x230008).bind fun bt234 => ((wharfingerref13_May.f k x230000 x230001 x230002 x230003 x230004 x230005 x230006 x230007 x230008).bind fun t236 => (if bt232.1 = bt234.1 then (if bt232.2 = bt234.2 then ((conf_May.f x230000 x230001 x230002 x230003 x230004 x230005 x230006 x230007 x230008).bind fun t237 => (some (t237 == t236))) else (some false)) else (some false)))))
def wharfingerlaw13_ConfTells.f (k : Nat) (a0_0 : Int) (a0_1 : Int) (a0_2 : Int) (a0_3 : Int) (l0_4 : List (S40)) (a0_5 : Int) (a0_6 : Int) (a0_7 : Int) (a0_8 : Bool) : Option (Bool) := (wharfingerlaw13_awake.f).bind fun t230 => ((wharfingerlaw13_Few.f k a0_0 a0_1 a0_2 a0_3 l0_4 a0_5 a0_6 a0_7 a0_8).bind fun t231 => (if t230 = true then (wharfingerlaw13_ConfTells.j0 k t230 (!t231) a0_0 a0_1 a0_2 a0_3 l0_4 a0_5 a0_6 a0_7 a0_8) else (wharfingerlaw13_ConfTells.j0 k t230 true a0_0 a0_1 a0_2 a0_3 l0_4 a0_5 a0_6 a0_7 a0_8)))
theorem wharfingerlaw13_ConfTells.mono_l : ∀ k, (∀ y0 y1 y2 y3 y4 y5 y6 y7 y8 y9 y10, LeO (wharfingerlaw13_ConfTells.j0 k y0 y1 y2 y3 y4 y5 y6 y7 y8 y9 y10) (wharfingerlaw13_ConfTells.j0 (k + 1) y0 y1 y2 y3 y4 y5 y6 y7 y8 y9 y10))
 | 0 => fun _ _ _ _ _ _ _ _ _ _ _ r h => by simp [wharfingerlaw13_ConfTells.j0] at h
 | k + 1 => by
  have ih0 := wharfingerlaw13_ConfTells.mono_l k
  ·
   intro y0 y1 y2 y3 y4 y5 y6 y7 y8 y9 y10
   unfold wharfingerlaw13_ConfTells.j0
   repeat' first
   | (with_reducible exact ih0 _ _ _ _ _ _ _ _ _ _ _)
   | (with_reducible exact wharfingerlaw13_Few.mono _ _ _ _ _ _ _ _ _ _)
   | (with_reducible exact wharfingerref13_May.mono _ _ _ _ _ _ _ _ _ _)
   | (with_reducible exact wharfingerref13_Why.mono _ _ _ _ _ _ _ _ _ _)
   | (with_reducible exact LeO.refl _)
   | (with_reducible exact LeO.none _)
   | (with_reducible refine LeO.ite ?_ ?_)
   | (with_reducible refine LeO.bind ?_ (fun _ => ?_))
   | exact ih0 _ _ _ _ _ _ _ _ _ _ _
   | exact wharfingerlaw13_Few.mono _ _ _ _ _ _ _ _ _ _
   | exact wharfingerref13_May.mono _ _ _ _ _ _ _ _ _ _
   | exact wharfingerref13_Why.mono _ _ _ _ _ _ _ _ _ _
   | exact LeO.none _
   | refine LeO.ite ?_ ?_
   | refine LeO.bind ?_ (fun _ => ?_)
theorem wharfingerlaw13_ConfTells.mono : ∀ a0 a1 a2 a3 a4 a5 a6 a7 a8 k, LeO (wharfingerlaw13_ConfTells.f k a0 a1 a2 a3 a4 a5 a6 a7 a8) (wharfingerlaw13_ConfTells.f (k + 1) a0 a1 a2 a3 a4 a5 a6 a7 a8) := by
 intro a0 a1 a2 a3 a4 a5 a6 a7 a8 k
 have ih0 := wharfingerlaw13_ConfTells.mono_l k
 unfold wharfingerlaw13_ConfTells.f
 repeat' first
   | (with_reducible exact ih0 _ _ _ _ _ _ _ _ _ _ _)
   | (with_reducible exact wharfingerlaw13_Few.mono _ _ _ _ _ _ _ _ _ _)
   | (with_reducible exact wharfingerref13_May.mono _ _ _ _ _ _ _ _ _ _)
   | (with_reducible exact wharfingerref13_Why.mono _ _ _ _ _ _ _ _ _ _)
   | (with_reducible exact LeO.refl _)
   | (with_reducible exact LeO.none _)
   | (with_reducible refine LeO.ite ?_ ?_)
   | (with_reducible refine LeO.bind ?_ (fun _ => ?_))
   | exact ih0 _ _ _ _ _ _ _ _ _ _ _
   | exact wharfingerlaw13_Few.mono _ _ _ _ _ _ _ _ _ _
   | exact wharfingerref13_May.mono _ _ _ _ _ _ _ _ _ _
   | exact wharfingerref13_Why.mono _ _ _ _ _ _ _ _ _ _
   | exact LeO.none _
   | refine LeO.ite ?_ ?_
   | refine LeO.bind ?_ (fun _ => ?_)
set_option maxHeartbeats 8000000 in
set_option maxRecDepth 100000 in
theorem wharfingerlaw13_ConfTells.calls (k : Nat) (a0_0 : Int) (a0_1 : Int) (a0_2 : Int) (a0_3 : Int) (A0_4 : Option Addr) (c0_4 : Nat) (l0_4 : List (S40)) (a0_5 : Int) (a0_6 : Int) (a0_7 : Int) (a0_8 : Bool) (r : Bool) (w : World) (hr0_4 : Kd.C k40 w A0_4 l0_4.length l0_4) (hc0_4 : l0_4.length ≤ c0_4) (hmet : WMet w) (h : wharfingerlaw13_ConfTells.f k a0_0 a0_1 a0_2 a0_3 l0_4 a0_5 a0_6 a0_7 a0_8 = some r) :
  Calls Tryd.prog 3 #[.agg #[.int .u8 a0_0, .int .u8 a0_1, .int .u8 a0_2, .int .u8 a0_3, .slice A0_4 l0_4.length c0_4, .int .i64 a0_5, .int .i64 a0_6, .int .i64 a0_7, .bool a0_8]] w fun e w' => e = .returned (.bool r) ∧ Below w.heap.size w w' := by
 have HMET := Aside0.mk hmet
 clear hmet
 have hu26 := Tryd.underlying26
 have HR0_4 := Aside0.mk hr0_4
 have HC0_4 := Aside0.mk hc0_4
 clear hr0_4 hc0_4
 have HB := Aside0.mk (Below.refl w.heap.size w)
 have H : ((wharfingerlaw13_awake.f).bind fun t230 => ((wharfingerlaw13_Few.f k a0_0 a0_1 a0_2 a0_3 l0_4 a0_5 a0_6 a0_7 a0_8).bind fun t231 => (if t230 = true then (wharfingerlaw13_ConfTells.j0 k t230 (!t231) a0_0 a0_1 a0_2 a0_3 l0_4 a0_5 a0_6 a0_7 a0_8) else (wharfingerlaw13_ConfTells.j0 k t230 true a0_0 a0_1 a0_2 a0_3 l0_4 a0_5 a0_6 a0_7 a0_8)))) = some r := h
 clear h
 replace H := Option.bind_eq_some_iff.mp H
 obtain ⟨t230, A20, H⟩ := H
 replace H : ((wharfingerlaw13_Few.f k a0_0 a0_1 a0_2 a0_3 l0_4 a0_5 a0_6 a0_7 a0_8).bind fun t231 => (if t230 = true then (wharfingerlaw13_ConfTells.j0 k t230 (!t231) a0_0 a0_1 a0_2 a0_3 l0_4 a0_5 a0_6 a0_7 a0_8) else (wharfingerlaw13_ConfTells.j0 k t230 true a0_0 a0_1 a0_2 a0_3 l0_4 a0_5 a0_6 a0_7 a0_8))) = some r := H
 have A2 := Aside0.mk A20
 clear A20
 replace H := Option.bind_eq_some_iff.mp H
 obtain ⟨t231, A30, H⟩ := H
 replace H : (if t230 = true then (wharfingerlaw13_ConfTells.j0 k t230 (!t231) a0_0 a0_1 a0_2 a0_3 l0_4 a0_5 a0_6 a0_7 a0_8) else (wharfingerlaw13_ConfTells.j0 k t230 true a0_0 a0_1 a0_2 a0_3 l0_4 a0_5 a0_6 a0_7 a0_8)) = some r := H
 have A3 := Aside0.mk A30
 clear A30
 have HC4 := Aside0.mk H
 clear H
 go_enter Tryd.func3, Tryd.ntmps3
 go_upto_region 3 with (first | ((with_reducible refine gate_dst (N := 1) rfl ?_); refine box_event ?hg (N := 1) ?hd (cs := #[.int .u8 a0_0, .int .u8 a0_1, .int .u8 a0_2, .int .u8 a0_3, .slice A0_4 l0_4.length c0_4, .int .i64 a0_5, .int .i64 a0_6, .int .i64 a0_7, .bool a0_8]) (t := 26) ?hr ?_; (case hd => rfl); (case hg => rfl); (case hr => first | (go_simp; done) | (go_simp; rfl)); intro gb229 hg w5 hbox hb; have n0_ := Aside0.mk (below_step (by repeat (first | (with_reducible first | exact HB.out | apply below_alloc | apply pw_below_drewN | apply below_drew1) | exact HB.out)) hb); have n1_ := Aside0.mk (hbox); have n2_ := Aside0.mk ((by rw [hg]; exact (below_size (by repeat (first | (with_reducible first | exact HB.out | apply below_alloc | apply pw_below_drewN | apply below_drew1) | exact HB.out))) : w.heap.size ≤ gb229)); have n3_ := Aside0.mk ((by rw [hg]; exact (below_size (by repeat (first | (with_reducible first | exact HB.out | apply below_alloc | apply pw_below_drewN | apply below_drew1) | exact HB.out))) : w.heap.size ≤ gb229)); clear HB; have HB := n0_; have BK229 := n1_; have GW229 := n2_; have GE229 := n3_; clear n0_ n1_ n2_ n3_; clear hb hbox hg) | ((with_reducible refine gate_callee (f := 9) rfl ?_); refine goesL_ (some 10) rfl rfl Tryd.func9 (by kernel_rfl) rfl #[] rfl (by (try simp only [List.map_toArray, List.map_cons, List.map_nil]); first | done | rfl | (simp only [List.length_drop, List.length_take]; rfl)) ?_; (with_reducible refine (wharfingerlaw13_awake.calls  t230 _ ?side1 A2.out).mono ?_); (case side1 => exact HMET.out.below (by repeat (first | (with_reducible first | exact HB.out | apply below_alloc | apply pw_below_drewN | apply below_drew1 | refine below_set ?_ GE229.out) | exact HB.out))); rintro e w6 ⟨rfl, hb⟩; refine ⟨_, rfl, ?_⟩; have n0_ := Aside0.mk (blk_below (g := gb229) (o := .cells #[.int .u8 a0_0, .int .u8 a0_1, .int .u8 a0_2, .int .u8 a0_3, .slice A0_4 l0_4.length c0_4, .int .i64 a0_5, .int .i64 a0_6, .int .i64 a0_7, .bool a0_8] 26 (0, 0)) (by (with_reducible repeat (first | refine blk_drewN ?_ _ | refine blk_drew ?_ | refine blk_alloc ?_ _)); exact BK229.out) hb); have n1_ := Aside0.mk (below_step (by repeat (first | (with_reducible first | exact HB.out | apply below_alloc | apply pw_below_drewN | apply below_drew1 | refine below_set ?_ GE229.out) | exact HB.out)) hb); clear BK229; clear HB; have BK229 := n0_; have HB := n1_; clear n0_ n1_; (try clear hb); (try clear hb2); (try clear hk); (try clear hi); obtain ⟨hcz7_0, hcz7_1, hcz7_2, hcz7_3, hcz7_4, hcz7_5, hcz7_6, hcz7_7, hcz7_8⟩ := cl_9 (.int .u8 a0_0) (.int .u8 a0_1) (.int .u8 a0_2) (.int .u8 a0_3) (.slice A0_4 l0_4.length c0_4) (.int .i64 a0_5) (.int .i64 a0_6) (.int .i64 a0_7) (.bool a0_8) BK229.out; obtain ⟨hfz7_0, hfz7_1, hfz7_2, hfz7_3, hfz7_4, hfz7_5, hfz7_6, hfz7_7, hfz7_8⟩ := fz_9 BK229.out) | ((with_reducible refine gate_callee (f := 10) rfl ?_); refine goesL_ (some 12) rfl rfl Tryd.func10 (by kernel_rfl) rfl #[.agg #[.int .u8 a0_0, .int .u8 a0_1, .int .u8 a0_2, .int .u8 a0_3, .slice A0_4 l0_4.length c0_4, .int .i64 a0_5, .int .i64 a0_6, .int .i64 a0_7, .bool a0_8]] rfl (by (try simp only [List.map_toArray, List.map_cons, List.map_nil]); first | done | rfl | (simp only [List.length_drop, List.length_take]; rfl)) ?_; (with_reducible refine (wharfingerlaw13_Few.calls k a0_0 a0_1 a0_2 a0_3 _ _ l0_4 a0_5 a0_6 a0_7 a0_8 t231 _ ?side1 ?side2 A3.out).mono ?_); (case side1 => repeat (first | exact (Kd.C_below HR0_4.out HB.out) | (with_reducible refine Kd.C_alloc ?_ _) | (with_reducible refine Kd.C_drewN ?_ _) | (with_reducible refine Kd.C_drew ?_))); (case side2 => exact HC0_4.out); rintro e w8 ⟨rfl, hb⟩; refine ⟨_, rfl, ?_⟩; have n0_ := Aside0.mk (blk_below (g := gb229) (o := .cells #[.int .u8 a0_0, .int .u8 a0_1, .int .u8 a0_2, .int .u8 a0_3, .slice A0_4 l0_4.length c0_4, .int .i64 a0_5, .int .i64 a0_6, .int .i64 a0_7, .bool a0_8] 26 (0, 0)) (by (with_reducible repeat (first | refine blk_drewN ?_ _ | refine blk_drew ?_ | refine blk_alloc ?_ _)); exact BK229.out) hb); have n1_ := Aside0.mk (below_step (by repeat (first | (with_reducible first | exact HB.out | apply below_alloc | apply pw_below_drewN | apply below_drew1 | refine below_set ?_ GE229.out) | exact HB.out)) hb); clear BK229; clear HB; have BK229 := n0_; have HB := n1_; clear n0_ n1_; (try clear hb); (try clear hb2); (try clear hk); (try clear hi)))
 (try simp only [Act.put, List.setIfInBounds_toArray, List.set_cons_zero, List.set_cons_succ])
 go_cut [18] (fun v18 wc => ∃ (kq : Nat) (x18_3 : Bool), v18 = .bool x18_3 ∧ Aside0 (wharfingerlaw13_ConfTells.j0 kq t230 x18_3 a0_0 a0_1 a0_2 a0_3 l0_4 a0_5 a0_6 a0_7 a0_8 = some r) ∧ Aside0 (kq ≤ k) ∧ Aside0 (wc.heap[gb229]? = some (.cells #[.int .u8 a0_0, .int .u8 a0_1, .int .u8 a0_2, .int .u8 a0_3, (.slice A0_4 l0_4.length c0_4), .int .i64 a0_5, .int .i64 a0_6, .int .i64 a0_7, .bool a0_8] 26 (0, 0))) ∧ Aside0 (Below w.heap.size w wc))
 case first =>
  have H := HC4.out
  clear HC4
  by_cases c9 : t230 = true
  ·
   subst c9
   have H1 : (wharfingerlaw13_ConfTells.j0 k true (!t231) a0_0 a0_1 a0_2 a0_3 l0_4 a0_5 a0_6 a0_7 a0_8) = some r := by rw [if_pos rfl] at H; exact H
   clear H
   have H := H1
   clear H1
   have H' := Aside0.mk H
   clear H
   go_wp2
   go_meet
   case rel => exact ⟨_, (!t231), (by first | rfl | (simp; done) | (simp [*]; done)), H', ⟨by first | omega | exact Nat.le_refl _⟩, ⟨by (with_reducible repeat (first | refine blk_drewN ?_ _ | refine blk_drew ?_ | refine blk_alloc ?_ _)); exact BK229.out⟩, ⟨by repeat (first | (with_reducible first | exact HB.out | apply below_alloc | apply pw_below_drewN | apply below_drew1 | refine below_set ?_ GE229.out) | exact HB.out)⟩⟩
  ·
   replace c9 := Bool.eq_false_iff.mpr c9
   subst c9
   have H1 : (wharfingerlaw13_ConfTells.j0 k false true a0_0 a0_1 a0_2 a0_3 l0_4 a0_5 a0_6 a0_7 a0_8) = some r := by rw [if_neg (show ¬ (false = true) by decide)] at H; exact H
   clear H
   have H := H1
   clear H1
   have H' := Aside0.mk H
   clear H
   go_wp2
   go_meet
   case rel => exact ⟨_, (true), (by first | rfl | (simp; done) | (simp [*]; done)), H', ⟨by first | omega | exact Nat.le_refl _⟩, ⟨by (with_reducible repeat (first | refine blk_drewN ?_ _ | refine blk_drew ?_ | refine blk_alloc ?_ _)); exact BK229.out⟩, ⟨by repeat (first | (with_reducible first | exact HB.out | apply below_alloc | apply pw_below_drewN | apply below_drew1 | refine below_set ?_ GE229.out) | exact HB.out)⟩⟩
 case rest =>
  clear HC4
  try clear c1
  try clear p2
  try clear c3
  try clear c9
  try clear hcz7_0
  try clear hcz7_1
  try clear hcz7_2
  try clear hcz7_3
  try clear hcz7_4
  try clear hcz7_5
  try clear hcz7_6
  try clear hcz7_7
  try clear hcz7_8
  try clear hfz7_0
  try clear hfz7_1
  try clear hfz7_2
  try clear hfz7_3
  try clear hfz7_4
  try clear hfz7_5
  try clear hfz7_6
  try clear hfz7_7
  try clear hfz7_8
  obtain ⟨kq, x18_3, rfl, HA, HJ3, BK229, HB⟩ := hcut
  cases kq with
  | zero => exact absurd HA.out (by simp [wharfingerlaw13_ConfTells.j0])
  | succ kj3 =>
   have H := HA.out
   clear HA
   simp only [wharfingerlaw13_ConfTells.j0] at H
   by_cases c10 : x18_3 = true
   ·
    subst c10
    have H1 : (some t230) = some r := by rw [if_pos rfl] at H; exact H
    clear H
    have H := H1
    clear H1
    obtain rfl := Option.some.inj H
    go_wp2
    go_ret
    exact ⟨by first | rfl | (simp [errW_none, errW_some] <;> rfl) | (simp [*, errW_none, errW_some] <;> rfl), by repeat (first | (with_reducible first | exact HB.out | apply below_alloc | apply pw_below_drewN | apply below_drew1 | refine below_set ?_ GE229.out) | exact HB.out)⟩
   ·
    replace c10 := Bool.eq_false_iff.mpr c10
    subst c10
    have H1 : ((conf_Why.f a0_0 a0_1 a0_2 a0_3 l0_4 a0_5 a0_6 a0_7 a0_8).bind fun bt232 => ((wharfingerref13_Why.f kj3 a0_0 a0_1 a0_2 a0_3 l0_4 a0_5 a0_6 a0_7 a0_8).bind fun bt234 => ((wharfingerref13_May.f kj3 a0_0 a0_1 a0_2 a0_3 l0_4 a0_5 a0_6 a0_7 a0_8).bind fun t236 => (if bt232.1 = bt234.1 then (if bt232.2 = bt234.2 then ((conf_May.f a0_0 a0_1 a0_2 a0_3 l0_4 a0_5 a0_6 a0_7 a0_8).bind fun t237 => (some (t237 == t236))) else (some false)) else (some false))))) = some r := by rw [if_neg (show ¬ (false = true) by decide)] at H; exact H
    clear H
    have H := H1
    clear H1
    replace H := Option.bind_eq_some_iff.mp H
    obtain ⟨⟨t232, t233⟩, A110, H⟩ := H
    replace H : ((wharfingerref13_Why.f kj3 a0_0 a0_1 a0_2 a0_3 l0_4 a0_5 a0_6 a0_7 a0_8).bind fun bt234 => ((wharfingerref13_May.f kj3 a0_0 a0_1 a0_2 a0_3 l0_4 a0_5 a0_6 a0_7 a0_8).bind fun t236 => (if t232 = bt234.1 then (if t233 = bt234.2 then ((conf_May.f a0_0 a0_1 a0_2 a0_3 l0_4 a0_5 a0_6 a0_7 a0_8).bind fun t237 => (some (t237 == t236))) else (some false)) else (some false)))) = some r := H
    have A11 := Aside0.mk A110
    clear A110
    replace H := Option.bind_eq_some_iff.mp H
    obtain ⟨⟨t234, t235⟩, A120, H⟩ := H
    replace H : ((wharfingerref13_May.f kj3 a0_0 a0_1 a0_2 a0_3 l0_4 a0_5 a0_6 a0_7 a0_8).bind fun t236 => (if t232 = t234 then (if t233 = t235 then ((conf_May.f a0_0 a0_1 a0_2 a0_3 l0_4 a0_5 a0_6 a0_7 a0_8).bind fun t237 => (some (t237 == t236))) else (some false)) else (some false))) = some r := H
    have A12 := Aside0.mk A120
    clear A120
    replace H := Option.bind_eq_some_iff.mp H
    obtain ⟨t236, A130, H⟩ := H
    replace H : (if t232 = t234 then (if t233 = t235 then ((conf_May.f a0_0 a0_1 a0_2 a0_3 l0_4 a0_5 a0_6 a0_7 a0_8).bind fun t237 => (some (t237 == t236))) else (some false)) else (some false)) = some r := H
    have A13 := Aside0.mk A130
    clear A130
    by_cases c14 : t232 = t234
    ·
     rw [if_pos c14] at H
     have c14b0 : (t232 == t234) = true := beq_iff_eq.mpr c14
     have c14b1 : (t232 != t234) = false := bne_eq_false_iff_eq.mpr c14
     clear c14
     by_cases c15 : t233 = t235
     ·
      rw [if_pos c15] at H
      have c15b0 : (t233 == t235) = true := beq_iff_eq.mpr c15
      have c15b1 : (t233 != t235) = false := bne_eq_false_iff_eq.mpr c15
      clear c15
      replace H := Option.bind_eq_some_iff.mp H
      obtain ⟨t237, A160, H⟩ := H
      replace H : (some (t237 == t236)) = some r := H
      have A16 := Aside0.mk A160
      clear A160
      obtain rfl := Option.some.inj H
      have hcz17_0 : wc.cell? ⟨gb229, 0, none⟩ = some (.int .u8 a0_0) := (blk_cell BK229.out 0).trans rfl
      have hcz17_1 : wc.cell? ⟨gb229, 1, none⟩ = some (.int .u8 a0_1) := (blk_cell BK229.out 1).trans rfl
      have hcz17_2 : wc.cell? ⟨gb229, 2, none⟩ = some (.int .u8 a0_2) := (blk_cell BK229.out 2).trans rfl
      have hcz17_3 : wc.cell? ⟨gb229, 3, none⟩ = some (.int .u8 a0_3) := (blk_cell BK229.out 3).trans rfl
      have hcz17_4 : wc.cell? ⟨gb229, 4, none⟩ = some (.slice A0_4 l0_4.length c0_4) := (blk_cell BK229.out 4).trans rfl
      have hcz17_5 : wc.cell? ⟨gb229, 5, none⟩ = some (.int .i64 a0_5) := (blk_cell BK229.out 5).trans rfl
      have hcz17_6 : wc.cell? ⟨gb229, 6, none⟩ = some (.int .i64 a0_6) := (blk_cell BK229.out 6).trans rfl
      have hcz17_7 : wc.cell? ⟨gb229, 7, none⟩ = some (.int .i64 a0_7) := (blk_cell BK229.out 7).trans rfl
      have hcz17_8 : wc.cell? ⟨gb229, 8, none⟩ = some (.bool a0_8) := (blk_cell BK229.out 8).trans rfl
      have hfz17_0 := blk_frozen BK229.out 0
      have hfz17_1 := blk_frozen BK229.out 1
      have hfz17_2 := blk_frozen BK229.out 2
      have hfz17_3 := blk_frozen BK229.out 3
      have hfz17_4 := blk_frozen BK229.out 4
      have hfz17_5 := blk_frozen BK229.out 5
      have hfz17_6 := blk_frozen BK229.out 6
      have hfz17_7 := blk_frozen BK229.out 7
      have hfz17_8 := blk_frozen BK229.out 8
      go_wp2_with (first | ((with_reducible refine gate_callee (f := 11) rfl ?_); refine goesL_ (some 22) rfl rfl Tryd.func11 (by kernel_rfl) rfl #[.agg #[.int .u8 a0_0, .int .u8 a0_1, .int .u8 a0_2, .int .u8 a0_3, .slice A0_4 l0_4.length c0_4, .int .i64 a0_5, .int .i64 a0_6, .int .i64 a0_7, .bool a0_8]] rfl (by (try simp only [List.map_toArray, List.map_cons, List.map_nil]); first | done | rfl | (simp only [List.length_drop, List.length_take]; rfl)) ?_; (with_reducible refine (conf_Why.calls a0_0 a0_1 a0_2 a0_3 _ _ l0_4 a0_5 a0_6 a0_7 a0_8 t232 t233 _ ?side1 ?side2 ?side3 A11.out).mono ?_); (case side1 => repeat (first | exact (Kd.C_below HR0_4.out HB.out) | (with_reducible refine Kd.C_alloc ?_ _) | (with_reducible refine Kd.C_drewN ?_ _) | (with_reducible refine Kd.C_drew ?_))); (case side2 => exact HC0_4.out); (case side3 => exact HMET.out.below (by repeat (first | (with_reducible first | exact HB.out | apply below_alloc | apply pw_below_drewN | apply below_drew1 | refine below_set ?_ GE229.out) | exact HB.out))); rintro e w18 ⟨rfl, hb⟩; refine ⟨_, rfl, ?_⟩; have n0_ := Aside0.mk (blk_below (g := gb229) (o := .cells #[.int .u8 a0_0, .int .u8 a0_1, .int .u8 a0_2, .int .u8 a0_3, .slice A0_4 l0_4.length c0_4, .int .i64 a0_5, .int .i64 a0_6, .int .i64 a0_7, .bool a0_8] 26 (0, 0)) (by (with_reducible repeat (first | refine blk_drewN ?_ _ | refine blk_drew ?_ | refine blk_alloc ?_ _)); exact BK229.out) hb); have n1_ := Aside0.mk (below_step (by repeat (first | (with_reducible first | exact HB.out | apply below_alloc | apply pw_below_drewN | apply below_drew1 | refine below_set ?_ GE229.out) | exact HB.out)) hb); clear BK229; clear HB; have BK229 := n0_; have HB := n1_; clear n0_ n1_; (try clear hb); (try clear hb2); (try clear hk); (try clear hi); obtain ⟨hcz19_0, hcz19_1, hcz19_2, hcz19_3, hcz19_4, hcz19_5, hcz19_6, hcz19_7, hcz19_8⟩ := cl_9 (.int .u8 a0_0) (.int .u8 a0_1) (.int .u8 a0_2) (.int .u8 a0_3) (.slice A0_4 l0_4.length c0_4) (.int .i64 a0_5) (.int .i64 a0_6) (.int .i64 a0_7) (.bool a0_8) BK229.out; obtain ⟨hfz19_0, hfz19_1, hfz19_2, hfz19_3, hfz19_4, hfz19_5, hfz19_6, hfz19_7, hfz19_8⟩ := fz_9 BK229.out) | ((with_reducible refine gate_callee (f := 12) rfl ?_); refine goesL_ (some 27) rfl rfl Tryd.func12 (by kernel_rfl) rfl #[.agg #[.int .u8 a0_0, .int .u8 a0_1, .int .u8 a0_2, .int .u8 a0_3, .slice A0_4 l0_4.length c0_4, .int .i64 a0_5, .int .i64 a0_6, .int .i64 a0_7, .bool a0_8]] rfl (by (try simp only [List.map_toArray, List.map_cons, List.map_nil]); first | done | rfl | (simp only [List.length_drop, List.length_take]; rfl)) ?_; (with_reducible refine (wharfingerref13_Why.calls kj3 a0_0 a0_1 a0_2 a0_3 _ _ l0_4 a0_5 a0_6 a0_7 a0_8 t234 t235 _ ?side1 ?side2 A12.out).mono ?_); (case side1 => repeat (first | exact (Kd.C_below HR0_4.out HB.out) | (with_reducible refine Kd.C_alloc ?_ _) | (with_reducible refine Kd.C_drewN ?_ _) | (with_reducible refine Kd.C_drew ?_))); (case side2 => exact HC0_4.out); rintro e w20 ⟨rfl, hb⟩; refine ⟨_, rfl, ?_⟩; have n0_ := Aside0.mk (blk_below (g := gb229) (o := .cells #[.int .u8 a0_0, .int .u8 a0_1, .int .u8 a0_2, .int .u8 a0_3, .slice A0_4 l0_4.length c0_4, .int .i64 a0_5, .int .i64 a0_6, .int .i64 a0_7, .bool a0_8] 26 (0, 0)) (by (with_reducible repeat (first | refine blk_drewN ?_ _ | refine blk_drew ?_ | refine blk_alloc ?_ _)); exact BK229.out) hb); have n1_ := Aside0.mk (below_step (by repeat (first | (with_reducible first | exact HB.out | apply below_alloc | apply pw_below_drewN | apply below_drew1 | refine below_set ?_ GE229.out) | exact HB.out)) hb); clear BK229; clear HB; have BK229 := n0_; have HB := n1_; clear n0_ n1_; (try clear hb); (try clear hb2); (try clear hk); (try clear hi); obtain ⟨hcz21_0, hcz21_1, hcz21_2, hcz21_3, hcz21_4, hcz21_5, hcz21_6, hcz21_7, hcz21_8⟩ := cl_9 (.int .u8 a0_0) (.int .u8 a0_1) (.int .u8 a0_2) (.int .u8 a0_3) (.slice A0_4 l0_4.length c0_4) (.int .i64 a0_5) (.int .i64 a0_6) (.int .i64 a0_7) (.bool a0_8) BK229.out; obtain ⟨hfz21_0, hfz21_1, hfz21_2, hfz21_3, hfz21_4, hfz21_5, hfz21_6, hfz21_7, hfz21_8⟩ := fz_9 BK229.out) | ((with_reducible refine gate_callee (f := 13) rfl ?_); refine goesL_ (some 31) rfl rfl Tryd.func13 (by kernel_rfl) rfl #[.agg #[.int .u8 a0_0, .int .u8 a0_1, .int .u8 a0_2, .int .u8 a0_3, .slice A0_4 l0_4.length c0_4, .int .i64 a0_5, .int .i64 a0_6, .int .i64 a0_7, .bool a0_8]] rfl (by (try simp only [List.map_toArray, List.map_cons, List.map_nil]); first | done | rfl | (simp only [List.length_drop, List.length_take]; rfl)) ?_; (with_reducible refine (wharfingerref13_May.calls kj3 a0_0 a0_1 a0_2 a0_3 _ _ l0_4 a0_5 a0_6 a0_7 a0_8 t236 _ ?side1 ?side2 A13.out).mono ?_); (case side1 => repeat (first | exact (Kd.C_below HR0_4.out HB.out) | (with_reducible refine Kd.C_alloc ?_ _) | (with_reducible refine Kd.C_drewN ?_ _) | (with_reducible refine Kd.C_drew ?_))); (case side2 => exact HC0_4.out); rintro e w22 ⟨rfl, hb⟩; refine ⟨_, rfl, ?_⟩; have n0_ := Aside0.mk (blk_below (g := gb229) (o := .cells #[.int .u8 a0_0, .int .u8 a0_1, .int .u8 a0_2, .int .u8 a0_3, .slice A0_4 l0_4.length c0_4, .int .i64 a0_5, .int .i64 a0_6, .int .i64 a0_7, .bool a0_8] 26 (0, 0)) (by (with_reducible repeat (first | refine blk_drewN ?_ _ | refine blk_drew ?_ | refine blk_alloc ?_ _)); exact BK229.out) hb); have n1_ := Aside0.mk (below_step (by repeat (first | (with_reducible first | exact HB.out | apply below_alloc | apply pw_below_drewN | apply below_drew1 | refine below_set ?_ GE229.out) | exact HB.out)) hb); clear BK229; clear HB; have BK229 := n0_; have HB := n1_; clear n0_ n1_; (try clear hb); (try clear hb2); (try clear hk); (try clear hi); obtain ⟨hcz23_0, hcz23_1, hcz23_2, hcz23_3, hcz23_4, hcz23_5, hcz23_6, hcz23_7, hcz23_8⟩ := cl_9 (.int .u8 a0_0) (.int .u8 a0_1) (.int .u8 a0_2) (.int .u8 a0_3) (.slice A0_4 l0_4.length c0_4) (.int .i64 a0_5) (.int .i64 a0_6) (.int .i64 a0_7) (.bool a0_8) BK229.out; obtain ⟨hfz23_0, hfz23_1, hfz23_2, hfz23_3, hfz23_4, hfz23_5, hfz23_6, hfz23_7, hfz23_8⟩ := fz_9 BK229.out) | (go_at_call 14; (with_reducible refine (conf_May.calls a0_0 a0_1 a0_2 a0_3 _ _ l0_4 a0_5 a0_6 a0_7 a0_8 t237 _ ?side1 ?side2 ?side3 A16.out).mono ?_); (case side1 => repeat (first | exact (Kd.C_below HR0_4.out HB.out) | (with_reducible refine Kd.C_alloc ?_ _) | (with_reducible refine Kd.C_drewN ?_ _) | (with_reducible refine Kd.C_drew ?_))); (case side2 => exact HC0_4.out); (case side3 => exact HMET.out.below (by repeat (first | (with_reducible first | exact HB.out | apply below_alloc | apply pw_below_drewN | apply below_drew1 | refine below_set ?_ GE229.out) | exact HB.out))); rintro e w24 ⟨rfl, hb⟩; have n0_ := Aside0.mk (blk_below (g := gb229) (o := .cells #[.int .u8 a0_0, .int .u8 a0_1, .int .u8 a0_2, .int .u8 a0_3, .slice A0_4 l0_4.length c0_4, .int .i64 a0_5, .int .i64 a0_6, .int .i64 a0_7, .bool a0_8] 26 (0, 0)) (by (with_reducible repeat (first | refine blk_drewN ?_ _ | refine blk_drew ?_ | refine blk_alloc ?_ _)); exact BK229.out) hb); have n1_ := Aside0.mk (below_step (by repeat (first | (with_reducible first | exact HB.out | apply below_alloc | apply pw_below_drewN | apply below_drew1 | refine below_set ?_ GE229.out) | exact HB.out)) hb); clear BK229; clear HB; have BK229 := n0_; have HB := n1_; clear n0_ n1_; (try clear hb); (try clear hb2); (try clear hk); (try clear hi)))
      go_ret
      exact ⟨by first | rfl | (simp [errW_none, errW_some] <;> rfl) | (simp [*, errW_none, errW_some] <;> rfl), by repeat (first | (with_reducible first | exact HB.out | apply below_alloc | apply pw_below_drewN | apply below_drew1 | refine below_set ?_ GE229.out) | exact HB.out)⟩
     ·
      rw [if_neg c15] at H
      have c15b0 : (t233 == t235) = false := beq_eq_false_iff_ne.mpr c15
      have c15b1 : (t233 != t235) = true := bne_iff_ne.mpr c15
      obtain rfl := Option.some.inj H
      have hcz25_0 : wc.cell? ⟨gb229, 0, none⟩ = some (.int .u8 a0_0) := (blk_cell BK229.out 0).trans rfl
      have hcz25_1 : wc.cell? ⟨gb229, 1, none⟩ = some (.int .u8 a0_1) := (blk_cell BK229.out 1).trans rfl
      have hcz25_2 : wc.cell? ⟨gb229, 2, none⟩ = some (.int .u8 a0_2) := (blk_cell BK229.out 2).trans rfl
      have hcz25_3 : wc.cell? ⟨gb229, 3, none⟩ = some (.int .u8 a0_3) := (blk_cell BK229.out 3).trans rfl
      have hcz25_4 : wc.cell? ⟨gb229, 4, none⟩ = some (.slice A0_4 l0_4.length c0_4) := (blk_cell BK229.out 4).trans rfl
      have hcz25_5 : wc.cell? ⟨gb229, 5, none⟩ = some (.int .i64 a0_5) := (blk_cell BK229.out 5).trans rfl
      have hcz25_6 : wc.cell? ⟨gb229, 6, none⟩ = some (.int .i64 a0_6) := (blk_cell BK229.out 6).trans rfl
      have hcz25_7 : wc.cell? ⟨gb229, 7, none⟩ = some (.int .i64 a0_7) := (blk_cell BK229.out 7).trans rfl
      have hcz25_8 : wc.cell? ⟨gb229, 8, none⟩ = some (.bool a0_8) := (blk_cell BK229.out 8).trans rfl
      have hfz25_0 := blk_frozen BK229.out 0
      have hfz25_1 := blk_frozen BK229.out 1
      have hfz25_2 := blk_frozen BK229.out 2
      have hfz25_3 := blk_frozen BK229.out 3
      have hfz25_4 := blk_frozen BK229.out 4
      have hfz25_5 := blk_frozen BK229.out 5
      have hfz25_6 := blk_frozen BK229.out 6
      have hfz25_7 := blk_frozen BK229.out 7
      have hfz25_8 := blk_frozen BK229.out 8
      go_wp2_with (first | ((with_reducible refine gate_callee (f := 11) rfl ?_); refine goesL_ (some 22) rfl rfl Tryd.func11 (by kernel_rfl) rfl #[.agg #[.int .u8 a0_0, .int .u8 a0_1, .int .u8 a0_2, .int .u8 a0_3, .slice A0_4 l0_4.length c0_4, .int .i64 a0_5, .int .i64 a0_6, .int .i64 a0_7, .bool a0_8]] rfl (by (try simp only [List.map_toArray, List.map_cons, List.map_nil]); first | done | rfl | (simp only [List.length_drop, List.length_take]; rfl)) ?_; (with_reducible refine (conf_Why.calls a0_0 a0_1 a0_2 a0_3 _ _ l0_4 a0_5 a0_6 a0_7 a0_8 t232 t233 _ ?side1 ?side2 ?side3 A11.out).mono ?_); (case side1 => repeat (first | exact (Kd.C_below HR0_4.out HB.out) | (with_reducible refine Kd.C_alloc ?_ _) | (with_reducible refine Kd.C_drewN ?_ _) | (with_reducible refine Kd.C_drew ?_))); (case side2 => exact HC0_4.out); (case side3 => exact HMET.out.below (by repeat (first | (with_reducible first | exact HB.out | apply below_alloc | apply pw_below_drewN | apply below_drew1 | refine below_set ?_ GE229.out) | exact HB.out))); rintro e w26 ⟨rfl, hb⟩; refine ⟨_, rfl, ?_⟩; have n0_ := Aside0.mk (blk_below (g := gb229) (o := .cells #[.int .u8 a0_0, .int .u8 a0_1, .int .u8 a0_2, .int .u8 a0_3, .slice A0_4 l0_4.length c0_4, .int .i64 a0_5, .int .i64 a0_6, .int .i64 a0_7, .bool a0_8] 26 (0, 0)) (by (with_reducible repeat (first | refine blk_drewN ?_ _ | refine blk_drew ?_ | refine blk_alloc ?_ _)); exact BK229.out) hb); have n1_ := Aside0.mk (below_step (by repeat (first | (with_reducible first | exact HB.out | apply below_alloc | apply pw_below_drewN | apply below_drew1 | refine below_set ?_ GE229.out) | exact HB.out)) hb); clear BK229; clear HB; have BK229 := n0_; have HB := n1_; clear n0_ n1_; (try clear hb); (try clear hb2); (try clear hk); (try clear hi); obtain ⟨hcz27_0, hcz27_1, hcz27_2, hcz27_3, hcz27_4, hcz27_5, hcz27_6, hcz27_7, hcz27_8⟩ := cl_9 (.int .u8 a0_0) (.int .u8 a0_1) (.int .u8 a0_2) (.int .u8 a0_3) (.slice A0_4 l0_4.length c0_4) (.int .i64 a0_5) (.int .i64 a0_6) (.int .i64 a0_7) (.bool a0_8) BK229.out; obtain ⟨hfz27_0, hfz27_1, hfz27_2, hfz27_3, hfz27_4, hfz27_5, hfz27_6, hfz27_7, hfz27_8⟩ := fz_9 BK229.out) | ((with_reducible refine gate_callee (f := 12) rfl ?_); refine goesL_ (some 27) rfl rfl Tryd.func12 (by kernel_rfl) rfl #[.agg #[.int .u8 a0_0, .int .u8 a0_1, .int .u8 a0_2, .int .u8 a0_3, .slice A0_4 l0_4.length c0_4, .int .i64 a0_5, .int .i64 a0_6, .int .i64 a0_7, .bool a0_8]] rfl (by (try simp only [List.map_toArray, List.map_cons, List.map_nil]); first | done | rfl | (simp only [List.length_drop, List.length_take]; rfl)) ?_; (with_reducible refine (wharfingerref13_Why.calls kj3 a0_0 a0_1 a0_2 a0_3 _ _ l0_4 a0_5 a0_6 a0_7 a0_8 t234 t235 _ ?side1 ?side2 A12.out).mono ?_); (case side1 => repeat (first | exact (Kd.C_below HR0_4.out HB.out) | (with_reducible refine Kd.C_alloc ?_ _) | (with_reducible refine Kd.C_drewN ?_ _) | (with_reducible refine Kd.C_drew ?_))); (case side2 => exact HC0_4.out); rintro e w28 ⟨rfl, hb⟩; refine ⟨_, rfl, ?_⟩; have n0_ := Aside0.mk (blk_below (g := gb229) (o := .cells #[.int .u8 a0_0, .int .u8 a0_1, .int .u8 a0_2, .int .u8 a0_3, .slice A0_4 l0_4.length c0_4, .int .i64 a0_5, .int .i64 a0_6, .int .i64 a0_7, .bool a0_8] 26 (0, 0)) (by (with_reducible repeat (first | refine blk_drewN ?_ _ | refine blk_drew ?_ | refine blk_alloc ?_ _)); exact BK229.out) hb); have n1_ := Aside0.mk (below_step (by repeat (first | (with_reducible first | exact HB.out | apply below_alloc | apply pw_below_drewN | apply below_drew1 | refine below_set ?_ GE229.out) | exact HB.out)) hb); clear BK229; clear HB; have BK229 := n0_; have HB := n1_; clear n0_ n1_; (try clear hb); (try clear hb2); (try clear hk); (try clear hi); obtain ⟨hcz29_0, hcz29_1, hcz29_2, hcz29_3, hcz29_4, hcz29_5, hcz29_6, hcz29_7, hcz29_8⟩ := cl_9 (.int .u8 a0_0) (.int .u8 a0_1) (.int .u8 a0_2) (.int .u8 a0_3) (.slice A0_4 l0_4.length c0_4) (.int .i64 a0_5) (.int .i64 a0_6) (.int .i64 a0_7) (.bool a0_8) BK229.out; obtain ⟨hfz29_0, hfz29_1, hfz29_2, hfz29_3, hfz29_4, hfz29_5, hfz29_6, hfz29_7, hfz29_8⟩ := fz_9 BK229.out) | ((with_reducible refine gate_callee (f := 13) rfl ?_); refine goesL_ (some 31) rfl rfl Tryd.func13 (by kernel_rfl) rfl #[.agg #[.int .u8 a0_0, .int .u8 a0_1, .int .u8 a0_2, .int .u8 a0_3, .slice A0_4 l0_4.length c0_4, .int .i64 a0_5, .int .i64 a0_6, .int .i64 a0_7, .bool a0_8]] rfl (by (try simp only [List.map_toArray, List.map_cons, List.map_nil]); first | done | rfl | (simp only [List.length_drop, List.length_take]; rfl)) ?_; (with_reducible refine (wharfingerref13_May.calls kj3 a0_0 a0_1 a0_2 a0_3 _ _ l0_4 a0_5 a0_6 a0_7 a0_8 t236 _ ?side1 ?side2 A13.out).mono ?_); (case side1 => repeat (first | exact (Kd.C_below HR0_4.out HB.out) | (with_reducible refine Kd.C_alloc ?_ _) | (with_reducible refine Kd.C_drewN ?_ _) | (with_reducible refine Kd.C_drew ?_))); (case side2 => exact HC0_4.out); rintro e w30 ⟨rfl, hb⟩; refine ⟨_, rfl, ?_⟩; have n0_ := Aside0.mk (blk_below (g := gb229) (o := .cells #[.int .u8 a0_0, .int .u8 a0_1, .int .u8 a0_2, .int .u8 a0_3, .slice A0_4 l0_4.length c0_4, .int .i64 a0_5, .int .i64 a0_6, .int .i64 a0_7, .bool a0_8] 26 (0, 0)) (by (with_reducible repeat (first | refine blk_drewN ?_ _ | refine blk_drew ?_ | refine blk_alloc ?_ _)); exact BK229.out) hb); have n1_ := Aside0.mk (below_step (by repeat (first | (with_reducible first | exact HB.out | apply below_alloc | apply pw_below_drewN | apply below_drew1 | refine below_set ?_ GE229.out) | exact HB.out)) hb); clear BK229; clear HB; have BK229 := n0_; have HB := n1_; clear n0_ n1_; (try clear hb); (try clear hb2); (try clear hk); (try clear hi)))
      go_ret
      exact ⟨by first | rfl | (simp [errW_none, errW_some] <;> rfl) | (simp [*, errW_none, errW_some] <;> rfl), by repeat (first | (with_reducible first | exact HB.out | apply below_alloc | apply pw_below_drewN | apply below_drew1 | refine below_set ?_ GE229.out) | exact HB.out)⟩
    ·
     rw [if_neg c14] at H
     have c14b0 : (t232 == t234) = false := beq_eq_false_iff_ne.mpr c14
     have c14b1 : (t232 != t234) = true := bne_iff_ne.mpr c14
     obtain rfl := Option.some.inj H
     have hcz31_0 : wc.cell? ⟨gb229, 0, none⟩ = some (.int .u8 a0_0) := (blk_cell BK229.out 0).trans rfl
     have hcz31_1 : wc.cell? ⟨gb229, 1, none⟩ = some (.int .u8 a0_1) := (blk_cell BK229.out 1).trans rfl
     have hcz31_2 : wc.cell? ⟨gb229, 2, none⟩ = some (.int .u8 a0_2) := (blk_cell BK229.out 2).trans rfl
     have hcz31_3 : wc.cell? ⟨gb229, 3, none⟩ = some (.int .u8 a0_3) := (blk_cell BK229.out 3).trans rfl
     have hcz31_4 : wc.cell? ⟨gb229, 4, none⟩ = some (.slice A0_4 l0_4.length c0_4) := (blk_cell BK229.out 4).trans rfl
     have hcz31_5 : wc.cell? ⟨gb229, 5, none⟩ = some (.int .i64 a0_5) := (blk_cell BK229.out 5).trans rfl
     have hcz31_6 : wc.cell? ⟨gb229, 6, none⟩ = some (.int .i64 a0_6) := (blk_cell BK229.out 6).trans rfl
     have hcz31_7 : wc.cell? ⟨gb229, 7, none⟩ = some (.int .i64 a0_7) := (blk_cell BK229.out 7).trans rfl
     have hcz31_8 : wc.cell? ⟨gb229, 8, none⟩ = some (.bool a0_8) := (blk_cell BK229.out 8).trans rfl
     have hfz31_0 := blk_frozen BK229.out 0
     have hfz31_1 := blk_frozen BK229.out 1
     have hfz31_2 := blk_frozen BK229.out 2
     have hfz31_3 := blk_frozen BK229.out 3
     have hfz31_4 := blk_frozen BK229.out 4
     have hfz31_5 := blk_frozen BK229.out 5
     have hfz31_6 := blk_frozen BK229.out 6
     have hfz31_7 := blk_frozen BK229.out 7
     have hfz31_8 := blk_frozen BK229.out 8
     go_wp2_with (first | ((with_reducible refine gate_callee (f := 11) rfl ?_); refine goesL_ (some 22) rfl rfl Tryd.func11 (by kernel_rfl) rfl #[.agg #[.int .u8 a0_0, .int .u8 a0_1, .int .u8 a0_2, .int .u8 a0_3, .slice A0_4 l0_4.length c0_4, .int .i64 a0_5, .int .i64 a0_6, .int .i64 a0_7, .bool a0_8]] rfl (by (try simp only [List.map_toArray, List.map_cons, List.map_nil]); first | done | rfl | (simp only [List.length_drop, List.length_take]; rfl)) ?_; (with_reducible refine (conf_Why.calls a0_0 a0_1 a0_2 a0_3 _ _ l0_4 a0_5 a0_6 a0_7 a0_8 t232 t233 _ ?side1 ?side2 ?side3 A11.out).mono ?_); (case side1 => repeat (first | exact (Kd.C_below HR0_4.out HB.out) | (with_reducible refine Kd.C_alloc ?_ _) | (with_reducible refine Kd.C_drewN ?_ _) | (with_reducible refine Kd.C_drew ?_))); (case side2 => exact HC0_4.out); (case side3 => exact HMET.out.below (by repeat (first | (with_reducible first | exact HB.out | apply below_alloc | apply pw_below_drewN | apply below_drew1 | refine below_set ?_ GE229.out) | exact HB.out))); rintro e w32 ⟨rfl, hb⟩; refine ⟨_, rfl, ?_⟩; have n0_ := Aside0.mk (blk_below (g := gb229) (o := .cells #[.int .u8 a0_0, .int .u8 a0_1, .int .u8 a0_2, .int .u8 a0_3, .slice A0_4 l0_4.length c0_4, .int .i64 a0_5, .int .i64 a0_6, .int .i64 a0_7, .bool a0_8] 26 (0, 0)) (by (with_reducible repeat (first | refine blk_drewN ?_ _ | refine blk_drew ?_ | refine blk_alloc ?_ _)); exact BK229.out) hb); have n1_ := Aside0.mk (below_step (by repeat (first | (with_reducible first | exact HB.out | apply below_alloc | apply pw_below_drewN | apply below_drew1 | refine below_set ?_ GE229.out) | exact HB.out)) hb); clear BK229; clear HB; have BK229 := n0_; have HB := n1_; clear n0_ n1_; (try clear hb); (try clear hb2); (try clear hk); (try clear hi); obtain ⟨hcz33_0, hcz33_1, hcz33_2, hcz33_3, hcz33_4, hcz33_5, hcz33_6, hcz33_7, hcz33_8⟩ := cl_9 (.int .u8 a0_0) (.int .u8 a0_1) (.int .u8 a0_2) (.int .u8 a0_3) (.slice A0_4 l0_4.length c0_4) (.int .i64 a0_5) (.int .i64 a0_6) (.int .i64 a0_7) (.bool a0_8) BK229.out; obtain ⟨hfz33_0, hfz33_1, hfz33_2, hfz33_3, hfz33_4, hfz33_5, hfz33_6, hfz33_7, hfz33_8⟩ := fz_9 BK229.out) | ((with_reducible refine gate_callee (f := 12) rfl ?_); refine goesL_ (some 27) rfl rfl Tryd.func12 (by kernel_rfl) rfl #[.agg #[.int .u8 a0_0, .int .u8 a0_1, .int .u8 a0_2, .int .u8 a0_3, .slice A0_4 l0_4.length c0_4, .int .i64 a0_5, .int .i64 a0_6, .int .i64 a0_7, .bool a0_8]] rfl (by (try simp only [List.map_toArray, List.map_cons, List.map_nil]); first | done | rfl | (simp only [List.length_drop, List.length_take]; rfl)) ?_; (with_reducible refine (wharfingerref13_Why.calls kj3 a0_0 a0_1 a0_2 a0_3 _ _ l0_4 a0_5 a0_6 a0_7 a0_8 t234 t235 _ ?side1 ?side2 A12.out).mono ?_); (case side1 => repeat (first | exact (Kd.C_below HR0_4.out HB.out) | (with_reducible refine Kd.C_alloc ?_ _) | (with_reducible refine Kd.C_drewN ?_ _) | (with_reducible refine Kd.C_drew ?_))); (case side2 => exact HC0_4.out); rintro e w34 ⟨rfl, hb⟩; refine ⟨_, rfl, ?_⟩; have n0_ := Aside0.mk (blk_below (g := gb229) (o := .cells #[.int .u8 a0_0, .int .u8 a0_1, .int .u8 a0_2, .int .u8 a0_3, .slice A0_4 l0_4.length c0_4, .int .i64 a0_5, .int .i64 a0_6, .int .i64 a0_7, .bool a0_8] 26 (0, 0)) (by (with_reducible repeat (first | refine blk_drewN ?_ _ | refine blk_drew ?_ | refine blk_alloc ?_ _)); exact BK229.out) hb); have n1_ := Aside0.mk (below_step (by repeat (first | (with_reducible first | exact HB.out | apply below_alloc | apply pw_below_drewN | apply below_drew1 | refine below_set ?_ GE229.out) | exact HB.out)) hb); clear BK229; clear HB; have BK229 := n0_; have HB := n1_; clear n0_ n1_; (try clear hb); (try clear hb2); (try clear hk); (try clear hi); obtain ⟨hcz35_0, hcz35_1, hcz35_2, hcz35_3, hcz35_4, hcz35_5, hcz35_6, hcz35_7, hcz35_8⟩ := cl_9 (.int .u8 a0_0) (.int .u8 a0_1) (.int .u8 a0_2) (.int .u8 a0_3) (.slice A0_4 l0_4.length c0_4) (.int .i64 a0_5) (.int .i64 a0_6) (.int .i64 a0_7) (.bool a0_8) BK229.out; obtain ⟨hfz35_0, hfz35_1, hfz35_2, hfz35_3, hfz35_4, hfz35_5, hfz35_6, hfz35_7, hfz35_8⟩ := fz_9 BK229.out) | ((with_reducible refine gate_callee (f := 13) rfl ?_); refine goesL_ (some 31) rfl rfl Tryd.func13 (by kernel_rfl) rfl #[.agg #[.int .u8 a0_0, .int .u8 a0_1, .int .u8 a0_2, .int .u8 a0_3, .slice A0_4 l0_4.length c0_4, .int .i64 a0_5, .int .i64 a0_6, .int .i64 a0_7, .bool a0_8]] rfl (by (try simp only [List.map_toArray, List.map_cons, List.map_nil]); first | done | rfl | (simp only [List.length_drop, List.length_take]; rfl)) ?_; (with_reducible refine (wharfingerref13_May.calls kj3 a0_0 a0_1 a0_2 a0_3 _ _ l0_4 a0_5 a0_6 a0_7 a0_8 t236 _ ?side1 ?side2 A13.out).mono ?_); (case side1 => repeat (first | exact (Kd.C_below HR0_4.out HB.out) | (with_reducible refine Kd.C_alloc ?_ _) | (with_reducible refine Kd.C_drewN ?_ _) | (with_reducible refine Kd.C_drew ?_))); (case side2 => exact HC0_4.out); rintro e w36 ⟨rfl, hb⟩; refine ⟨_, rfl, ?_⟩; have n0_ := Aside0.mk (blk_below (g := gb229) (o := .cells #[.int .u8 a0_0, .int .u8 a0_1, .int .u8 a0_2, .int .u8 a0_3, .slice A0_4 l0_4.length c0_4, .int .i64 a0_5, .int .i64 a0_6, .int .i64 a0_7, .bool a0_8] 26 (0, 0)) (by (with_reducible repeat (first | refine blk_drewN ?_ _ | refine blk_drew ?_ | refine blk_alloc ?_ _)); exact BK229.out) hb); have n1_ := Aside0.mk (below_step (by repeat (first | (with_reducible first | exact HB.out | apply below_alloc | apply pw_below_drewN | apply below_drew1 | refine below_set ?_ GE229.out) | exact HB.out)) hb); clear BK229; clear HB; have BK229 := n0_; have HB := n1_; clear n0_ n1_; (try clear hb); (try clear hb2); (try clear hk); (try clear hi)))
     go_ret
     exact ⟨by first | rfl | (simp [errW_none, errW_some] <;> rfl) | (simp [*, errW_none, errW_some] <;> rfl), by repeat (first | (with_reducible first | exact HB.out | apply below_alloc | apply pw_below_drewN | apply below_drew1 | refine below_set ?_ GE229.out) | exact HB.out)⟩

end Go.Proofs.YtajaedebndeajaaDoor.Q

namespace Go.Proofs.YtajaedebndeajaaDoor.Pure
open Go Go.RowKit Go.Proofs.YtajaedebndeajaaDoor.Q Go.Proofs.YtajaedebndeajaaDoor.Quad Go.Proofs.YtajaedebndeajaaDoorW.PrintWords Go.Proofs.YtajaedebndeajaaDoorW.PrintLast Go.Proofs.YtajaedebndeajaaDoorW.PrintMore
set_option linter.unusedVariables false
set_option linter.unusedSimpArgs false

theorem tenant_l0 (o0 o1 o2 o3 : Int) (l : List Ten) (pre life idle : Int) (lf : Bool) (t : Ten) (i : Nat) (hi : i ≤ l.length) (hl : l.length ≤ 1000000) (u n r q e : Bool) :
    ∀ d j : Nat, j + d = i → Ev (fun k => wharfingerref13_tenant.l0 k (i : Int) u n r q e (j : Int) o0 o1 o2 o3 l pre life idle lf t.f0 t.f1 t.f2.f0.f0 t.f2.f0.f1 t.f2.f0.f2 t.f2.f0.f3 t.f2.f1 t.f3 t.f4 t.f5 t.f6 t.f7 t.f8 t.f9) (!((l.take i).drop j).any (isHost t.f1) && (u && n && r && q && e && inR t.f6 1 8 && inR t.f7 1 8 && inR t.f2.f1 1 65535)) := by
  have hlen : (l.take i).length = i := by rw [List.length_take]; omega
  intro d
  induction d with
  | zero =>
    intro j hj
    refine Ev.step (f := fun _ => some (u && n && r && q && e && inR t.f6 1 8 && inR t.f7 1 8 && inR t.f2.f1 1 65535)) (fun k => ?_) (by rw [List.drop_of_length_le (by omega), List.any_nil, Bool.not_false, Bool.true_and]; exact Ev.now _)
    simp only [wharfingerref13_tenant.l0]
    rw [if_neg (by omega), rin_is, rin_is, rin_is]
    simp only [Option.bind_some]
    generalize inR t.f6 1 8 = x1
    generalize inR t.f7 1 8 = x2
    generalize inR t.f2.f1 1 65535 = x3
    cases u <;> cases n <;> cases r <;> cases q <;> cases e <;> cases x1 <;> cases x2 <;> rfl
  | succ d ih =>
    intro j hj
    have hlt : j < (l.take i).length := by omega
    have hjl : j < l.length := by omega
    rw [List.drop_eq_getElem_cons hlt, List.any_cons, List.getElem_take]
    by_cases h : (l[j]).f1.toList = t.f1.toList
    · refine Ev.step (f := fun _ => some false) (fun k => ?_) (by rw [isHost, beq_iff_eq.2 h, Bool.true_or, Bool.not_true, Bool.false_and]; exact Ev.now _)
      simp only [wharfingerref13_tenant.l0]
      rw [if_pos (by omega), if_pos (by omega), if_pos (by omega), rd_ten l j hjl, if_pos h]
    · rw [isHost, beq_eq_false_iff_ne.2 h, Bool.false_or]
      refine Ev.step (fun k => ?_) (ih (j + 1) (by omega))
      simp only [wharfingerref13_tenant.l0]
      rw [if_pos (by omega), if_pos (by omega), if_pos (by omega), rd_ten l j hjl, if_neg h, wrap_up (by omega)]
theorem tenant_ev (o0 o1 o2 o3 : Int) (l : List Ten) (pre life idle : Int) (lf : Bool) (hl : okAll l) (i : Nat) (hi : i < l.length) :
    Ev (fun k => wharfingerref13_tenant.f k o0 o1 o2 o3 l pre life idle lf (i : Int)) (oneS l[i] (l.take i)) := by
  have ht := hl.2 l[i] (List.getElem_mem _)
  have hl6 := hl.1
  obtain ⟨t, hte⟩ : ∃ t, t = l[i] := ⟨_, rfl⟩
  have hrd := rd_ten l i hi
  rw [← hte] at ht hrd ⊢
  unfold wharfingerref13_tenant.f
  simp only [show (0 : Int) ≤ (i : Int) from by omega, show (i : Int) < (l.length : Int) from by omega, ↓reduceIte, hrd, rsat_is, Option.bind_some]
  refine Ev.bind (ruser_ev t.f0 ht.1) (Ev.bind (rname_ev t.f1 ht.2.1) (Ev.bind (rmay_ev t.f5 ht.2.2) ?_))
  have := tenant_l0 o0 o1 o2 o3 l pre life idle lf t i (by omega) hl6 (userS t.f0) (nameS t.f1) (mayS t.f5) (inR t.f8 0 1099511627776) (inR t.f9 0 1099511627776) i 0 (by omega)
  rw [List.drop_zero] at this
  rw [show oneS t (l.take i) = (!(l.take i).any (isHost t.f1) && (userS t.f0 && nameS t.f1 && mayS t.f5 && inR t.f8 0 1099511627776 && inR t.f9 0 1099511627776 && inR t.f6 1 8 && inR t.f7 1 8 && inR t.f2.f1 1 65535)) from by
    rw [oneS]; ac_rfl]
  exact this
def touches (t x : Ten) : Bool := decide (t.f3 ≤ x.f4) && decide (x.f3 ≤ t.f4)
def portsR (t : Ten) (ahead : List Ten) : Bool := (inR t.f3 1024 t.f4 && decide (t.f4 ≤ 65535)) && !ahead.any (touches t)
theorem any_same {l : List Ten} {p q : Ten → Bool} (h : ∀ x ∈ l, p x = q x) : l.any p = l.any q := by
  induction l with
  | nil => rfl
  | cons x l ih => rw [List.any_cons, List.any_cons, h x (by simp), ih fun y hy => h y (by simp [hy])]
theorem portsR_is (t : Ten) (ahead : List Ten) (h : ∀ x ∈ ahead, x.f3 ≤ x.f4) : portsS t ahead = portsR t ahead := by
  rw [portsS, portsR]
  cases hb : (inR t.f3 1024 t.f4 && decide (t.f4 ≤ 65535))
  · rw [Bool.and_false, Bool.false_and]
  · rw [Bool.and_true, Bool.true_and]
    have ht : t.f3 ≤ t.f4 := by
      rw [inR, Bool.and_eq_true, Bool.and_eq_true, decide_eq_true_iff, decide_eq_true_iff] at hb
      exact hb.1.2
    rw [any_same fun x hx => ?_]
    have hx2 := h x hx
    rw [meets, touches, Bool.eq_iff_iff, decide_eq_true_iff, Bool.and_eq_true, decide_eq_true_iff, decide_eq_true_iff, mx, mn]
    omega
theorem ports_l0 (o0 o1 o2 o3 : Int) (l : List Ten) (pre life idle : Int) (lf : Bool) (t : Ten) (i : Nat) (hi : i ≤ l.length) (hl : l.length ≤ 1000000) :
    ∀ d j : Nat, j + d = i → Ev (fun k => wharfingerref13_ports.l0 k (i : Int) (j : Int) o0 o1 o2 o3 l pre life idle lf t.f0 t.f1 t.f2.f0.f0 t.f2.f0.f1 t.f2.f0.f2 t.f2.f0.f3 t.f2.f1 t.f3 t.f4 t.f5 t.f6 t.f7 t.f8 t.f9) (!((l.take i).drop j).any (touches t)) := by
  have hlen : (l.take i).length = i := by rw [List.length_take]; omega
  intro d
  induction d with
  | zero =>
    intro j hj
    refine Ev.step (f := fun _ => some true) (fun k => ?_) (by rw [List.drop_of_length_le (by omega), List.any_nil, Bool.not_false]; exact Ev.now _)
    simp only [wharfingerref13_ports.l0]
    rw [if_neg (by omega)]
  | succ d ih =>
    intro j hj
    have hlt : j < (l.take i).length := by omega
    have hjl : j < l.length := by omega
    rw [List.drop_eq_getElem_cons hlt, List.any_cons, List.getElem_take]
    by_cases h1 : t.f3 ≤ (l[j]).f4
    · by_cases h2 : (l[j]).f3 ≤ t.f4
      · refine Ev.step (f := fun _ => some false) (fun k => ?_) (by rw [touches, decide_eq_true h1, decide_eq_true h2, Bool.and_self, Bool.true_or, Bool.not_true]; exact Ev.now _)
        simp only [wharfingerref13_ports.l0]
        rw [if_pos (by omega), if_pos (by omega), if_pos (by omega), rd_ten l j hjl, if_pos h1, if_pos h2]
      · rw [touches, decide_eq_true h1, decide_eq_false h2, Bool.and_false, Bool.false_or]
        refine Ev.step (fun k => ?_) (ih (j + 1) (by omega))
        simp only [wharfingerref13_ports.l0]
        rw [if_pos (by omega), if_pos (by omega), if_pos (by omega), rd_ten l j hjl, if_pos h1, if_neg h2, wrap_up (by omega)]
    · rw [touches, decide_eq_false h1, Bool.false_and, Bool.false_or]
      refine Ev.step (fun k => ?_) (ih (j + 1) (by omega))
      simp only [wharfingerref13_ports.l0]
      rw [if_pos (by omega), if_pos (by omega), if_pos (by omega), rd_ten l j hjl, if_neg h1, wrap_up (by omega)]
theorem rports_j0 (o0 o1 o2 o3 : Int) (l : List Ten) (pre life idle : Int) (lf : Bool) (t : Ten) (i : Nat) (hi : i ≤ l.length) (hl : l.length ≤ 1000000) (b : Bool) :
    Ev (fun k => wharfingerref13_ports.j0 k (i : Int) b o0 o1 o2 o3 l pre life idle lf t.f0 t.f1 t.f2.f0.f0 t.f2.f0.f1 t.f2.f0.f2 t.f2.f0.f3 t.f2.f1 t.f3 t.f4 t.f5 t.f6 t.f7 t.f8 t.f9) (!b && !(l.take i).any (touches t)) := by
  cases b
  · refine Ev.step (fun k => ?_) (by have := ports_l0 o0 o1 o2 o3 l pre life idle lf t i hi hl i 0 (by omega); rwa [List.drop_zero] at this)
    simp only [wharfingerref13_ports.j0]
    rfl
  · refine Ev.step (f := fun _ => some false) (fun k => ?_) (Ev.now _)
    simp only [wharfingerref13_ports.j0]
    rfl
theorem rports_ev (o0 o1 o2 o3 : Int) (l : List Ten) (pre life idle : Int) (lf : Bool) (hl : l.length ≤ 1000000) (i : Nat) (hi : i < l.length) :
    Ev (fun k => wharfingerref13_ports.f k o0 o1 o2 o3 l pre life idle lf (i : Int)) (portsR l[i] (l.take i)) := by
  obtain ⟨t, hte⟩ : ∃ t, t = l[i] := ⟨_, rfl⟩
  have hrd := rd_ten l i hi
  rw [← hte] at hrd ⊢
  have hj := fun b => rports_j0 o0 o1 o2 o3 l pre life idle lf t i (by omega) hl b
  unfold wharfingerref13_ports.f portsR
  simp only [show (0 : Int) ≤ (i : Int) from by omega, show (i : Int) < (l.length : Int) from by omega, ↓reduceIte, hrd]
  by_cases h1 : t.f3 < 1024
  · simp only [h1, ↓reduceIte]
    rw [inR, decide_eq_false (by omega)]
    exact hj true
  · by_cases h2 : t.f3 > t.f4
    · simp only [h1, h2, ↓reduceIte]
      rw [inR, decide_eq_false (show ¬ t.f3 ≤ t.f4 by omega), Bool.and_false]
      exact hj true
    · simp only [h1, h2, ↓reduceIte]
      rw [inR, decide_eq_true (show 1024 ≤ t.f3 by omega), decide_eq_true (show t.f3 ≤ t.f4 by omega), show decide (t.f4 ≤ 65535) = !decide (t.f4 > 65535) from by rw [← decide_not, decide_eq_decide]; omega]
      exact hj _
theorem fine_low {l : List Ten} {i : Nat} (h : ∀ j, j < i → fine l j) : ∀ x ∈ l.take i, x.f3 ≤ x.f4 := by
  intro x hx
  obtain ⟨j, hj, rfl⟩ := List.mem_take_iff_getElem.1 hx
  have := (h j (by omega) _ (List.getElem?_eq_getElem (by omega))).2
  rw [portsS, Bool.and_eq_true, Bool.and_eq_true, inR, Bool.and_eq_true, decide_eq_true_iff, decide_eq_true_iff] at this
  exact this.2.1.2
theorem rwhy_l0 (o0 o1 o2 o3 : Int) (l : List Ten) (pre life idle : Int) (lf : Bool) (hl : okAll l) :
    ∀ d i : Nat, i + d = l.length → (∀ j, j < i → fine l j) → Ev (fun k => wharfingerref13_Why.l0 k (l.length : Int) (i : Int) o0 o1 o2 o3 l pre life idle lf) (scanS l d i) := by
  have hl6 := hl.1
  intro d
  induction d with
  | zero =>
    intro i hi hf
    refine Ev.step (f := fun _ => some (-1, 0)) (fun k => ?_) (Ev.now _)
    simp only [wharfingerref13_Why.l0]
    rw [if_neg (by omega)]
  | succ d ih =>
    intro i hi hf
    have hlt : i < l.length := by omega
    have h1 := tenant_ev o0 o1 o2 o3 l pre life idle lf hl i hlt
    have h2 := rports_ev o0 o1 o2 o3 l pre life idle lf hl6 i hlt
    rw [← portsR_is _ _ (fine_low hf)] at h2
    have hst : ∀ k, wharfingerref13_Why.l0 (k + 1) (l.length : Int) (i : Int) o0 o1 o2 o3 l pre life idle lf = ((wharfingerref13_tenant.f k o0 o1 o2 o3 l pre life idle lf (i : Int)).bind fun t224 => (if t224 = true then ((wharfingerref13_ports.f k o0 o1 o2 o3 l pre life idle lf (i : Int)).bind fun t225 => (if t225 = true then (wharfingerref13_Why.l0 k (l.length : Int) ((i + 1 : Nat) : Int) o0 o1 o2 o3 l pre life idle lf) else (some ((i : Int), 3)))) else (some ((i : Int), 2)))) := fun k => by
      simp only [wharfingerref13_Why.l0]
      rw [if_pos (by omega), wrap_up (by omega)]
    refine Ev.step hst (Ev.bind h1 ?_)
    rw [scanS, List.getElem?_eq_getElem hlt]
    cases ho : oneS l[i] (l.take i)
    · simp only [ho, Bool.false_eq_true, ↓reduceIte]
      exact Ev.now _
    · simp only [ho, ↓reduceIte]
      refine Ev.bind h2 ?_
      cases hp : portsS l[i] (l.take i)
      · simp only [hp, Bool.false_eq_true, ↓reduceIte]
        exact Ev.now _
      · simp only [hp, ↓reduceIte]
        refine ih (i + 1) (by omega) fun j hj => ?_
        rcases Nat.lt_or_ge j i with h | h
        · exact hf j h
        · obtain rfl : j = i := by omega
          exact fine_of hlt ho hp
theorem rwhy_ev (o0 o1 o2 o3 : Int) (l : List Ten) (pre life idle : Int) (lf : Bool) (hl : okAll l) : Ev (fun k => wharfingerref13_Why.f k o0 o1 o2 o3 l pre life idle lf) (whyS l pre life idle) := by
  have hj : ∀ b, Ev (fun k => wharfingerref13_Why.j0 k (l.length : Int) b o0 o1 o2 o3 l pre life idle lf) (if b = true then (-1, 1) else scanS l l.length 0) := by
    intro b
    cases b
    · refine Ev.step (fun k => ?_) (rwhy_l0 o0 o1 o2 o3 l pre life idle lf hl l.length 0 (by omega) (fun j hj => by omega))
      simp only [wharfingerref13_Why.j0]
      rfl
    · refine Ev.step (f := fun _ => some (-1, 1)) (fun k => ?_) (Ev.now _)
      simp only [wharfingerref13_Why.j0]
      rfl
  have ht := hj true
  have hf := hj false
  unfold wharfingerref13_Why.f whyS okHead
  simp only [rin_is, Option.bind_some]
  generalize inR pre 1 8 = b1
  generalize inR life 1 1099511627776 = b2
  generalize inR idle 1 1099511627776 = b3
  generalize inR l.length 1 4 = b4
  cases b1 <;> cases b2 <;> cases b3 <;> cases b4 <;> first | exact ht | exact hf
theorem rmayC_ev (o0 o1 o2 o3 : Int) (l : List Ten) (pre life idle : Int) (lf : Bool) (hl : okAll l) : Ev (fun k => wharfingerref13_May.f k o0 o1 o2 o3 l pre life idle lf) ((whyS l pre life idle).2 == 0) := by
  unfold wharfingerref13_May.f
  exact Ev.bind (rwhy_ev o0 o1 o2 o3 l pre life idle lf hl) (Ev.now _)
theorem why_is (o0 o1 o2 o3 : Int) (l : List Ten) (pre life idle : Int) (lf : Bool) (hl : okAll l) : conf_Why.f o0 o1 o2 o3 l pre life idle lf = some (whyS l pre life idle) := if_pos hl
theorem mayC_is (o0 o1 o2 o3 : Int) (l : List Ten) (pre life idle : Int) (lf : Bool) (hl : okAll l) : conf_May.f o0 o1 o2 o3 l pre life idle lf = some ((whyS l pre life idle).2 == 0) := if_pos hl
theorem confTells_ev (o0 o1 o2 o3 : Int) (l : List Ten) (pre life idle : Int) (lf : Bool) : Ev (fun k => wharfingerlaw13_ConfTells.f k o0 o1 o2 o3 l pre life idle lf) true := by
  unfold wharfingerlaw13_ConfTells.f
  simp only [awake_is, Option.bind_some, ↓reduceIte]
  refine Ev.bind (few_ev o0 o1 o2 o3 l pre life idle lf) ?_
  cases hf : fewS l
  · refine Ev.step (f := fun _ => some true) (fun k => ?_) (Ev.now _)
    simp only [wharfingerlaw13_ConfTells.j0]
    rfl
  · have hl := few_ok hf
    have h1 := rwhy_ev o0 o1 o2 o3 l pre life idle lf hl
    have h2 := rmayC_ev o0 o1 o2 o3 l pre life idle lf hl
    refine Ev.step (f := fun k => (wharfingerref13_Why.f k o0 o1 o2 o3 l pre life idle lf).bind fun bt234 => (wharfingerref13_May.f k o0 o1 o2 o3 l pre life idle lf).bind fun t236 => (if (whyS l pre life idle).1 = bt234.1 then (if (whyS l pre life idle).2 = bt234.2 then (some (((whyS l pre life idle).2 == 0) == t236)) else (some false)) else (some false))) (fun k => ?_) (Ev.bind h1 (Ev.bind h2 ?_))
    · simp only [wharfingerlaw13_ConfTells.j0, why_is _ _ _ _ l _ _ _ _ hl, mayC_is _ _ _ _ l _ _ _ _ hl, Option.bind_some]
      rfl
    · simp only [↓reduceIte, beq_self_eq_true]
      exact Ev.now _
theorem tells_walk (o0 o1 o2 o3 : Int) (A : Option Addr) (c : Nat) (l : List S40) (pre life idle : Int) (lf : Bool) (w : World) (hc : l.length ≤ c) (hr : Kd.C k40 w A l.length l) (hmet : AclMet.WMet w) :
    Calls Tryd.prog 3 #[.agg #[.int .u8 o0, .int .u8 o1, .int .u8 o2, .int .u8 o3, .slice A l.length c, .int .i64 pre, .int .i64 life, .int .i64 idle, .bool lf]] w fun e w' => e = .returned (.bool true) ∧ Below w.heap.size w w' := by
  obtain ⟨k, hk⟩ := (confTells_ev o0 o1 o2 o3 l pre life idle lf).rounds
  exact wharfingerlaw13_ConfTells.calls k o0 o1 o2 o3 A c l pre life idle lf true w hr hc hmet hk
end Go.Proofs.YtajaedebndeajaaDoor.Pure
