/- Contracts and plain facts that the law's proof needs. -/
import Derived.Test.YtajaedebndeajaaDoorM2
import Derived.Test.YtajaedebndeajaaDoorM3
namespace Go.Proofs.YtajaedebndeajaaDoor.Q
open Go.RowKit Go.Proofs.YtajaedebndeajaaDoor.AclMet Go.Proofs.YtajaedebndeajaaDoorW.PrintWords Go.Proofs.YtajaedebndeajaaDoorW.PrintLast Go.Proofs.YtajaedebndeajaaDoorW.PrintMore
attribute [local go_sem] max2_int min2_int max_two min_two max_three min_three max_four min_four   -- for this text's walks alone
set_option linter.unusedVariables false
set_option linter.unusedSimpArgs false

/-! ### wharfingerlaw13_Few: function 10 -/
mutual
def wharfingerlaw13_Few.l0 : Nat → Int → Int → Int → Int → Int → List (S40) → Int → Int → Int → Bool → Option (Bool)
 | 0, _, _, _, _, _, _, _, _, _, _ => none
 | k + 1, x3, x161000, x161001, x161002, x161003, x161004, x161005, x161006, x161007, x161008 => if x3 < (x161004.length : Int) then (if 0 ≤ x3 then (if (((rd_T40 x161004 x3).f5).length : Int) > 20 then (wharfingerlaw13_Few.j1 k x3 true x161000 x161001 x161002 x161003 x161004 x161005 x161006 x161007 x161008 ((rd_T40 x161004 x3).f0) ((rd_T40 x161004 x3).f1) ((rd_T40 x161004 x3).f2.f0.f0) ((rd_T40 x161004 x3).f2.f0.f1) ((rd_T40 x161004 x3).f2.f0.f2) ((rd_T40 x161004 x3).f2.f0.f3) ((rd_T40 x161004 x3).f2.f1) ((rd_T40 x161004 x3).f3) ((rd_T40 x161004 x3).f4) ((rd_T40 x161004 x3).f5) ((rd_T40 x161004 x3).f6) ((rd_T40 x161004 x3).f7) ((rd_T40 x161004 x3).f8) ((rd_T40 x161004 x3).f9)) else (if (((rd_T40 x161004 x3).f0).size : Int) > 300 then (wharfingerlaw13_Few.j1 k x3 true x161000 x161001 x161002 x161003 x161004 x161005 x161006 x161007 x161008 ((rd_T40 x161004 x3).f0) ((rd_T40 x161004 x3).f1) ((rd_T40 x161004 x3).f2.f0.f0) ((rd_T40 x161004 x3).f2.f0.f1) ((rd_T40 x161004 x3).f2.f0.f2) ((rd_T40 x161004 x3).f2.f0.f3) ((rd_T40 x161004 x3).f2.f1) ((rd_T40 x161004 x3).f3) ((rd_T40 x161004 x3).f4) ((rd_T40 x161004 x3).f5) ((rd_T40 x161004 x3).f6) ((rd_T40 x161004 x3).f7) ((rd_T40 x161004 x3).f8) ((rd_T40 x161004 x3).f9)) else (wharfingerlaw13_Few.j1 k x3 (decide ((((rd_T40 x161004 x3).f1).size : Int) > 300)) x161000 x161001 x161002 x161003 x161004 x161005 x161006 x161007 x161008 ((rd_T40 x161004 x3).f0) ((rd_T40 x161004 x3).f1) ((rd_T40 x161004 x3).f2.f0.f0) ((rd_T40 x161004 x3).f2.f0.f1) ((rd_T40 x161004 x3).f2.f0.f2) ((rd_T40 x161004 x3).f2.f0.f3) ((rd_T40 x161004 x3).f2.f1) ((rd_T40 x161004 x3).f3) ((rd_T40 x161004 x3).f4) ((rd_T40 x161004 x3).f5) ((rd_T40 x161004 x3).f6) ((rd_T40 x161004 x3).f7) ((rd_T40 x161004 x3).f8) ((rd_T40 x161004 x3).f9)))) else (none)) else (some true)
def wharfingerlaw13_Few.j1 : Nat → Int → Bool → Int → Int → Int → Int → List (S40) → Int → Int → Int → Bool → ByteArray → ByteArray → Int → Int → Int → Int → Int → Int → Int → List (S44) → Int → Int → Int → Int → Option (Bool)
 | 0, _, _, _, _, _, _, _, _, _, _, _, _, _, _, _, _, _, _, _, _, _, _, _, _, _ => none
 | k + 1, x3, x37, x161000, x161001, x161002, x161003, x161004, x161005, x161006, x161007, x161008, x163000, x163001, x163002, x163003, x163004, x163005, x163006, x163007, x163008, x163009, x163010, x163011, x163012, x163013 => if x37 = true then (some false) else (wharfingerlaw13_Few.l1 k x3 0 x161000 x161001 x161002 x161003 x161004 x161005 x161006 x161007 x161008 x163000 x163001 x163002 x163003 x163004 x163005 x163006 x163007 x163008 x163009 x163010 x163011 x163012 x163013)
def wharfingerlaw13_Few.l1 : Nat → Int → Int → Int → Int → Int → Int → List (S40) → Int → Int → Int → Bool → ByteArray → ByteArray → Int → Int → Int → Int → Int → Int → Int → List (S44) → Int → Int → Int → Int → Option (Bool)
 | 0, _, _, _, _, _, _, _, _, _, _, _, _, _, _, _, _, _, _, _, _, _, _, _, _, _ => none
 | k + 1, x3, x5, x161000, x161001, x161002, x161003, x161004, x161005, x161006, x161007, x161008, x163000, x163001, x163002, x163003, x163004, x163005, x163006, x163007, x163008, x163009, x163010, x163011, x163012, x163013 => if x5 < (x163009.length : Int) then (if 0 ≤ x5 then (if (((rd_T44 x163009 x5).f1).size : Int) > 300 then (some false) else (if (((rd_T44 x163009 x5).f2).size : Int) > 300 then (some false) else (wharfingerlaw13_Few.l1 k x3 (wrap64 (x5 + 1)) x161000 x161001 x161002 x161003 x161004 x161005 x161006 x161007 x161008 x163000 x163001 x163002 x163003 x163004 x163005 x163006 x163007 x163008 x163009 x163010 x163011 x163012 x163013))) else (none)) else (wharfingerlaw13_Few.l0 k (wrap64 (x3 + 1)) x161000 x161001 x161002 x161003 x161004 x161005 x161006 x161007 x161008)
end
def wharfingerlaw13_Few.f (k : Nat) (a0_0 : Int) (a0_1 : Int) (a0_2 : Int) (a0_3 : Int) (l0_4 : List (S40)) (a0_5 : Int) (a0_6 : Int) (a0_7 : Int) (a0_8 : Bool) : Option (Bool) := if (l0_4.length : Int) > 6 then (some false) else (wharfingerlaw13_Few.l0 k 0 a0_0 a0_1 a0_2 a0_3 l0_4 a0_5 a0_6 a0_7 a0_8)
theorem wharfingerlaw13_Few.mono_l : ∀ k, (∀ y0 y1 y2 y3 y4 y5 y6 y7 y8 y9, LeO (wharfingerlaw13_Few.l0 k y0 y1 y2 y3 y4 y5 y6 y7 y8 y9) (wharfingerlaw13_Few.l0 (k + 1) y0 y1 y2 y3 y4 y5 y6 y7 y8 y9)) ∧ (∀ y0 y1 y2 y3 y4 y5 y6 y7 y8 y9 y10 y11 y12 y13 y14 y15 y16 y17 y18 y19 y20 y21 y22 y23 y24, LeO (wharfingerlaw13_Few.j1 k y0 y1 y2 y3 y4 y5 y6 y7 y8 y9 y10 y11 y12 y13 y14 y15 y16 y17 y18 y19 y20 y21 y22 y23 y24) (wharfingerlaw13_Few.j1 (k + 1) y0 y1 y2 y3 y4 y5 y6 y7 y8 y9 y10 y11 y12 y13 y14 y15 y16 y17 y18 y19 y20 y21 y22 y23 y24)) ∧ (∀ y0 y1 y2 y3 y4 y5 y6 y7 y8 y9 y10 y11 y12 y13 y14 y15 y16 y17 y18 y19 y20 y21 y22 y23 y24, LeO (wharfingerlaw13_Few.l1 k y0 y1 y2 y3 y4 y5 y6 y7 y8 y9 y10 y11 y12 y13 y14 y15 y16 y17 y18 y19 y20 y21 y22 y23 y24) (wharfingerlaw13_Few.l1 (k + 1) y0 y1 y2 y3 y4 y5 y6 y7 y8 y9 y10 y11 y12 y13 y14 y15 y16 y17 y18 y19 y20 y21 y22 y23 y24))
 | 0 => ⟨fun _ _ _ _ _ _ _ _ _ _ r h => by simp [wharfingerlaw13_Few.l0] at h, fun _ _ _ _ _ _ _ _ _ _ _ _ _ _ _ _ _ _ _ _ _ _ _ _ _ r h => by simp [wharfingerlaw13_Few.j1] at h, fun _ _ _ _ _ _ _ _ _ _ _ _ _ _ _ _ _ _ _ _ _ _ _ _ _ r h => by simp [wharfingerlaw13_Few.l1] at h⟩
 | k + 1 => by
  obtain ⟨ih0, ih1, ih2⟩ := wharfingerlaw13_Few.mono_l k
  refine ⟨?_, ?_, ?_⟩
  ·
   intro y0 y1 y2 y3 y4 y5 y6 y7 y8 y9
   unfold wharfingerlaw13_Few.l0
   repeat' first
   | (with_reducible exact ih0 _ _ _ _ _ _ _ _ _ _)
   | (with_reducible exact ih1 _ _ _ _ _ _ _ _ _ _ _ _ _ _ _ _ _ _ _ _ _ _ _ _ _)
   | (with_reducible exact ih2 _ _ _ _ _ _ _ _ _ _ _ _ _ _ _ _ _ _ _ _ _ _ _ _ _)
   | (with_reducible exact LeO.refl _)
   | (with_reducible exact LeO.none _)
   | (with_reducible refine LeO.ite ?_ ?_)
   | (with_reducible refine LeO.bind ?_ (fun _ => ?_))
   | exact ih0 _ _ _ _ _ _ _ _ _ _
   | exact ih1 _ _ _ _ _ _ _ _ _ _ _ _ _ _ _ _ _ _ _ _ _ _ _ _ _
   | exact ih2 _ _ _ _ _ _ _ _ _ _ _ _ _ _ _ _ _ _ _ _ _ _ _ _ _
   | exact LeO.none _
   | refine LeO.ite ?_ ?_
   | refine LeO.bind ?_ (fun _ => ?_)
  ·
   intro y0 y1 y2 y3 y4 y5 y6 y7 y8 y9 y10 y11 y12 y13 y14 y15 y16 y17 y18 y19 y20 y21 y22 y23 y24
   unfold wharfingerlaw13_Few.j1
   repeat' first
   | (with_reducible exact ih0 _ _ _ _ _ _ _ _ _ _)
   | (with_reducible exact ih1 _ _ _ _ _ _ _ _ _ _ _ _ _ _ _ _ _ _ _ _ _ _ _ _ _)
   | (with_reducible exact ih2 _ _ _ _ _ _ _ _ _ _ _ _ _ _ _ _ _ _ _ _ _ _ _ _ _)
   | (with_reducible exact LeO.refl _)
   | (with_reducible exact LeO.none _)
   | (with_reducible refine LeO.ite ?_ ?_)
   | (with_reducible refine LeO.bind ?_ (fun _ => ?_))
   | exact ih0 _ _ _ _ _ _ _ _ _ _
   | exact ih1 _ _ _ _ _ _ _ _ _ _ _ _ _ _ _ _ _ _ _ _ _ _ _ _ _
   | exact ih2 _ _ _ _ _ _ _ _ _ _ _ _ _ _ _ _ _ _ _ _ _ _ _ _ _
   | exact LeO.none _
   | refine LeO.ite ?_ ?_
   | refine LeO.bind ?_ (fun _ => ?_)
  ·
   intro y0 y1 y2 y3 y4 y5 y6 y7 y8 y9 y10 y11 y12 y13 y14 y15 y16 y17 y18 y19 y20 y21 y22 y23 y24
   unfold wharfingerlaw13_Few.l1
   repeat' first
   | (with_reducible exact ih0 _ _ _ _ _ _ _ _ _ _)
   | (with_reducible exact ih1 _ _ _ _ _ _ _ _ _ _ _ _ _ _ _ _ _ _ _ _ _ _ _ _ _)
   | (with_reducible exact ih2 _ _ _ _ _ _ _ _ _ _ _ _ _ _ _ _ _ _ _ _ _ _ _ _ _)
   | (with_reducible exact LeO.refl _)
   | (with_reducible exact LeO.none _)
   | (with_reducible refine LeO.ite ?_ ?_)
   | (with_reducible refine LeO.bind ?_ (fun _ => ?_))
   | exact ih0 _ _ _ _ _ _ _ _ _ _
   | exact ih1 _ _ _ _ _ _ _ _ _ _ _ _ _ _ _ _ _ _ _ _ _ _ _ _ _
   | exact ih2 _ _ _ _ _ _ _ _ _ _ _ _ _ _ _ _ _ _ _ _ _ _ _ _ _
   | exact LeO.none _
   | refine LeO.ite ?_ ?_
   | refine LeO.bind ?_ (fun _ => ?_)
theorem wharfingerlaw13_Few.mono : ∀ a0 a1 a2 a3 a4 a5 a6 a7 a8 k, LeO (wharfingerlaw13_Few.f k a0 a1 a2 a3 a4 a5 a6 a7 a8) (wharfingerlaw13_Few.f (k + 1) a0 a1 a2 a3 a4 a5 a6 a7 a8) := by
 intro a0 a1 a2 a3 a4 a5 a6 a7 a8 k
 obtain ⟨ih0, ih1, ih2⟩ := wharfingerlaw13_Few.mono_l k
 unfold wharfingerlaw13_Few.f
 repeat' first
   | (with_reducible exact ih0 _ _ _ _ _ _ _ _ _ _)
   | (with_reducible exact ih1 _ _ _ _ _ _ _ _ _ _ _ _ _ _ _ _ _ _ _ _ _ _ _ _ _)
   | (with_reducible exact ih2 _ _ _ _ _ _ _ _ _ _ _ _ _ _ _ _ _ _ _ _ _ _ _ _ _)
   | (with_reducible exact LeO.refl _)
   | (with_reducible exact LeO.none _)
   | (with_reducible refine LeO.ite ?_ ?_)
   | (with_reducible refine LeO.bind ?_ (fun _ => ?_))
   | exact ih0 _ _ _ _ _ _ _ _ _ _
   | exact ih1 _ _ _ _ _ _ _ _ _ _ _ _ _ _ _ _ _ _ _ _ _ _ _ _ _
   | exact ih2 _ _ _ _ _ _ _ _ _ _ _ _ _ _ _ _ _ _ _ _ _ _ _ _ _
   | exact LeO.none _
   | refine LeO.ite ?_ ?_
   | refine LeO.bind ?_ (fun _ => ?_)
set_option maxHeartbeats 8000000 in
set_option maxRecDepth 100000 in
theorem wharfingerlaw13_Few.calls (k : Nat) (a0_0 : Int) (a0_1 : Int) (a0_2 : Int) (a0_3 : Int) (A0_4 : Option Addr) (c0_4 : Nat) (l0_4 : List (S40)) (a0_5 : Int) (a0_6 : Int) (a0_7 : Int) (a0_8 : Bool) (r : Bool) (w : World) (hr0_4 : Kd.C k40 w A0_4 l0_4.length l0_4) (hc0_4 : l0_4.length ≤ c0_4) (h : wharfingerlaw13_Few.f k a0_0 a0_1 a0_2 a0_3 l0_4 a0_5 a0_6 a0_7 a0_8 = some r) :
  Calls Tryd.prog 10 #[.agg #[.int .u8 a0_0, .int .u8 a0_1, .int .u8 a0_2, .int .u8 a0_3, .slice A0_4 l0_4.length c0_4, .int .i64 a0_5, .int .i64 a0_6, .int .i64 a0_7, .bool a0_8]] w fun e w' => e = .returned (.bool r) ∧ Below w.heap.size w w' := by
 have hu26 := Tryd.underlying26
 have hu40 := Tryd.underlying40
 have HR0_4 := Aside0.mk hr0_4
 have HC0_4 := Aside0.mk hc0_4
 clear hr0_4 hc0_4
 have HB := Aside0.mk (Below.refl w.heap.size w)
 have H : (if (l0_4.length : Int) > 6 then (some false) else (wharfingerlaw13_Few.l0 k 0 a0_0 a0_1 a0_2 a0_3 l0_4 a0_5 a0_6 a0_7 a0_8)) = some r := h
 clear h
 by_cases c2 : (l0_4.length : Int) > 6
 ·
  rw [if_pos c2] at H
  have c2b0 : decide (6 < (l0_4.length : Int)) = true := decide_eq_true c2
  have c2b1 : decide (6 < l0_4.length) = true := decide_eq_true (by omega)
  clear c2
  obtain rfl := Option.some.inj H
  go_enter Tryd.func10, Tryd.ntmps10
  go_wp2_with (first | ((with_reducible refine gate_dst (N := 1) rfl ?_); (try (refine gate_guard (by rfl) ?_; dsimp only)); refine box_event ?hg (N := 1) ?hd (cs := #[.int .u8 a0_0, .int .u8 a0_1, .int .u8 a0_2, .int .u8 a0_3, .slice A0_4 l0_4.length c0_4, .int .i64 a0_5, .int .i64 a0_6, .int .i64 a0_7, .bool a0_8]) (t := 26) ?hr ?_; (case hd => rfl); (case hg => rfl); (case hr => first | (go_simp; done) | (go_simp; rfl)); intro gb160 hg w3 hbox hb; have n0_ := Aside0.mk (below_step (by repeat (first | (with_reducible first | exact HB.out | apply below_alloc | apply pw_below_drewN | apply below_drew1) | exact HB.out)) hb); have n1_ := Aside0.mk (hbox); have n2_ := Aside0.mk ((by rw [hg]; exact (below_size (by repeat (first | (with_reducible first | exact HB.out | apply below_alloc | apply pw_below_drewN | apply below_drew1) | exact HB.out))) : w.heap.size ≤ gb160)); have n3_ := Aside0.mk ((by rw [hg]; exact (below_size (by repeat (first | (with_reducible first | exact HB.out | apply below_alloc | apply pw_below_drewN | apply below_drew1) | exact HB.out))) : w.heap.size ≤ gb160)); clear HB; have HB := n0_; have BK160 := n1_; have GW160 := n2_; have GE160 := n3_; clear n0_ n1_ n2_ n3_; clear hb hbox hg; obtain ⟨hcz4_0, hcz4_1, hcz4_2, hcz4_3, hcz4_4, hcz4_5, hcz4_6, hcz4_7, hcz4_8⟩ := cl_9 (.int .u8 a0_0) (.int .u8 a0_1) (.int .u8 a0_2) (.int .u8 a0_3) (.slice A0_4 l0_4.length c0_4) (.int .i64 a0_5) (.int .i64 a0_6) (.int .i64 a0_7) (.bool a0_8) BK160.out; obtain ⟨hfz4_0, hfz4_1, hfz4_2, hfz4_3, hfz4_4, hfz4_5, hfz4_6, hfz4_7, hfz4_8⟩ := fz_9 BK160.out))
  go_ret
  exact ⟨by first | rfl | (simp [errW_none, errW_some] <;> rfl) | (simp [*, errW_none, errW_some] <;> rfl), by repeat (first | (with_reducible first | exact HB.out | apply below_alloc | apply pw_below_drewN | apply below_drew1 | refine below_set ?_ GE160.out) | exact HB.out)⟩
 ·
  rw [if_neg c2] at H
  have c2b0 : decide (6 < (l0_4.length : Int)) = false := decide_eq_false c2
  have c2b1 : decide (6 < l0_4.length) = false := decide_eq_false (by omega)
  clear c2
  have H' := Aside0.mk H
  clear H
  go_enter Tryd.func10, Tryd.ntmps10
  go_wp2_with (first | ((with_reducible refine gate_dst (N := 1) rfl ?_); (try (refine gate_guard (by rfl) ?_; dsimp only)); refine box_event ?hg (N := 1) ?hd (cs := #[.int .u8 a0_0, .int .u8 a0_1, .int .u8 a0_2, .int .u8 a0_3, .slice A0_4 l0_4.length c0_4, .int .i64 a0_5, .int .i64 a0_6, .int .i64 a0_7, .bool a0_8]) (t := 26) ?hr ?_; (case hd => rfl); (case hg => rfl); (case hr => first | (go_simp; done) | (go_simp; rfl)); intro gb160 hg w5 hbox hb; have n0_ := Aside0.mk (below_step (by repeat (first | (with_reducible first | exact HB.out | apply below_alloc | apply pw_below_drewN | apply below_drew1) | exact HB.out)) hb); have n1_ := Aside0.mk (hbox); have n2_ := Aside0.mk ((by rw [hg]; exact (below_size (by repeat (first | (with_reducible first | exact HB.out | apply below_alloc | apply pw_below_drewN | apply below_drew1) | exact HB.out))) : w.heap.size ≤ gb160)); have n3_ := Aside0.mk ((by rw [hg]; exact (below_size (by repeat (first | (with_reducible first | exact HB.out | apply below_alloc | apply pw_below_drewN | apply below_drew1) | exact HB.out))) : w.heap.size ≤ gb160)); clear HB; have HB := n0_; have BK160 := n1_; have GW160 := n2_; have GE160 := n3_; clear n0_ n1_ n2_ n3_; clear hb hbox hg; obtain ⟨hcz6_0, hcz6_1, hcz6_2, hcz6_3, hcz6_4, hcz6_5, hcz6_6, hcz6_7, hcz6_8⟩ := cl_9 (.int .u8 a0_0) (.int .u8 a0_1) (.int .u8 a0_2) (.int .u8 a0_3) (.slice A0_4 l0_4.length c0_4) (.int .i64 a0_5) (.int .i64 a0_6) (.int .i64 a0_7) (.bool a0_8) BK160.out; obtain ⟨hfz6_0, hfz6_1, hfz6_2, hfz6_3, hfz6_4, hfz6_5, hfz6_6, hfz6_7, hfz6_8⟩ := fz_9 BK160.out))
  go_loopg [3] k (fun kq v3 w' => ∃ (x3_1 : Int), v3 = .int .i64 x3_1 ∧ Aside0 (wharfingerlaw13_Few.l0 kq x3_1 a0_0 a0_1 a0_2 a0_3 l0_4 a0_5 a0_6 a0_7 a0_8 = some r) ∧ Aside0 (kq ≤ k) ∧ Aside0 (w'.heap[gb160]? = some (.cells #[.int .u8 a0_0, .int .u8 a0_1, .int .u8 a0_2, .int .u8 a0_3, (.slice A0_4 l0_4.length c0_4), .int .i64 a0_5, .int .i64 a0_6, .int .i64 a0_7, .bool a0_8] 26 (0, 0))) ∧ Aside0 (Below w.heap.size w w'))
  case atStart => exact ⟨(0), (by first | rfl | (simp; done) | (simp [*]; done)), H', ⟨Nat.le_refl _⟩, ⟨by (with_reducible repeat (first | refine blk_drewN ?_ _ | refine blk_drew ?_ | refine blk_alloc ?_ _)); exact BK160.out⟩, ⟨by repeat (first | (with_reducible first | exact HB.out | apply below_alloc | apply pw_below_drewN | apply below_drew1 | refine below_set ?_ GE160.out) | exact HB.out)⟩⟩
  case round =>
   clear H'
   try clear c1
   try clear c2
   try clear c2b0
   try clear c2b1
   try clear p2
   try clear hcz4_0
   try clear hcz4_1
   try clear hcz4_2
   try clear hcz4_3
   try clear hcz4_4
   try clear hcz4_5
   try clear hcz4_6
   try clear hcz4_7
   try clear hcz4_8
   try clear hcz6_0
   try clear hcz6_1
   try clear hcz6_2
   try clear hcz6_3
   try clear hcz6_4
   try clear hcz6_5
   try clear hcz6_6
   try clear hcz6_7
   try clear hcz6_8
   try clear hfz4_0
   try clear hfz4_1
   try clear hfz4_2
   try clear hfz4_3
   try clear hfz4_4
   try clear hfz4_5
   try clear hfz4_6
   try clear hfz4_7
   try clear hfz4_8
   try clear hfz6_0
   try clear hfz6_1
   try clear hfz6_2
   try clear hfz6_3
   try clear hfz6_4
   try clear hfz6_5
   try clear hfz6_6
   try clear hfz6_7
   try clear hfz6_8
   obtain ⟨x3_1, rfl, HA, HK1, BK160, HB⟩ := hrel
   cases gk with
   | zero => exact absurd HA.out (by simp [wharfingerlaw13_Few.l0])
   | succ k1 =>
    have H := HA.out
    clear HA
    simp only [wharfingerlaw13_Few.l0] at H
    by_cases c7 : x3_1 < (l0_4.length : Int)
    ·
     rw [if_pos c7] at H
     have c7b0 : decide (x3_1 < (l0_4.length : Int)) = true := decide_eq_true c7
     clear c7
     by_cases c8 : 0 ≤ x3_1
     ·
      rw [if_pos c8] at H
      have c8b0 : decide (0 ≤ x3_1) = true := decide_eq_true c8
      clear c8
      have HC9 := Aside0.mk H
      clear H
      have hcz10_0 : wr.cell? ⟨gb160, 0, none⟩ = some (.int .u8 a0_0) := (blk_cell BK160.out 0).trans rfl
      have hcz10_1 : wr.cell? ⟨gb160, 1, none⟩ = some (.int .u8 a0_1) := (blk_cell BK160.out 1).trans rfl
      have hcz10_2 : wr.cell? ⟨gb160, 2, none⟩ = some (.int .u8 a0_2) := (blk_cell BK160.out 2).trans rfl
      have hcz10_3 : wr.cell? ⟨gb160, 3, none⟩ = some (.int .u8 a0_3) := (blk_cell BK160.out 3).trans rfl
      have hcz10_4 : wr.cell? ⟨gb160, 4, none⟩ = some (.slice A0_4 l0_4.length c0_4) := (blk_cell BK160.out 4).trans rfl
      have hcz10_5 : wr.cell? ⟨gb160, 5, none⟩ = some (.int .i64 a0_5) := (blk_cell BK160.out 5).trans rfl
      have hcz10_6 : wr.cell? ⟨gb160, 6, none⟩ = some (.int .i64 a0_6) := (blk_cell BK160.out 6).trans rfl
      have hcz10_7 : wr.cell? ⟨gb160, 7, none⟩ = some (.int .i64 a0_7) := (blk_cell BK160.out 7).trans rfl
      have hcz10_8 : wr.cell? ⟨gb160, 8, none⟩ = some (.bool a0_8) := (blk_cell BK160.out 8).trans rfl
      have hfz10_0 := blk_frozen BK160.out 0
      have hfz10_1 := blk_frozen BK160.out 1
      have hfz10_2 := blk_frozen BK160.out 2
      have hfz10_3 := blk_frozen BK160.out 3
      have hfz10_4 := blk_frozen BK160.out 4
      have hfz10_5 := blk_frozen BK160.out 5
      have hfz10_6 := blk_frozen BK160.out 6
      have hfz10_7 := blk_frozen BK160.out 7
      have hfz10_8 := blk_frozen BK160.out 8
      have p161 : 0 ≤ (x3_1 : Int) := of_decide_eq_true (by first | (with_reducible assumption) | assumption)
      have q161 : x3_1 < (l0_4.length : Int) := of_decide_eq_true (by first | (with_reducible assumption) | assumption)
      obtain ⟨ad161, A161_9, c161_9, e161, hx161_0, hx161_1, hx161_2, hx161_3, hx161_4, hx161_5, hx161_6, hx161_7, hx161_8, hx161_9, hx161_10, hx161_11, hx161_12, hx161_13, hl161_9, hi161_9⟩ := at_T40 HR0_4.out x3_1 p161 q161
      cases e161
      replace hx161_0 := (HB.out.cell (World.block_lt_of_cell? w _ hx161_0)).trans hx161_0
      replace hx161_1 := (HB.out.cell (World.block_lt_of_cell? w _ hx161_1)).trans hx161_1
      replace hx161_2 := (HB.out.cell (World.block_lt_of_cell? w _ hx161_2)).trans hx161_2
      replace hx161_3 := (HB.out.cell (World.block_lt_of_cell? w _ hx161_3)).trans hx161_3
      replace hx161_4 := (HB.out.cell (World.block_lt_of_cell? w _ hx161_4)).trans hx161_4
      replace hx161_5 := (HB.out.cell (World.block_lt_of_cell? w _ hx161_5)).trans hx161_5
      replace hx161_6 := (HB.out.cell (World.block_lt_of_cell? w _ hx161_6)).trans hx161_6
      replace hx161_7 := (HB.out.cell (World.block_lt_of_cell? w _ hx161_7)).trans hx161_7
      replace hx161_8 := (HB.out.cell (World.block_lt_of_cell? w _ hx161_8)).trans hx161_8
      replace hx161_9 := (HB.out.cell (World.block_lt_of_cell? w _ hx161_9)).trans hx161_9
      replace hx161_10 := (HB.out.cell (World.block_lt_of_cell? w _ hx161_10)).trans hx161_10
      replace hx161_11 := (HB.out.cell (World.block_lt_of_cell? w _ hx161_11)).trans hx161_11
      replace hx161_12 := (HB.out.cell (World.block_lt_of_cell? w _ hx161_12)).trans hx161_12
      replace hx161_13 := (HB.out.cell (World.block_lt_of_cell? w _ hx161_13)).trans hx161_13
      have HR161_9 := Aside0.mk hi161_9
      have HC161_9 := Aside0.mk hl161_9
      clear hi161_9 hl161_9
      replace p161 := eq_true p161
      replace q161 := eq_true q161
      go_upto_region 7 with (first | ((with_reducible refine gate_dst (N := 4) rfl ?_); (try (refine gate_guard (by rfl) ?_; dsimp only)); refine box_event ?hg (N := 4) ?hd (cs := #[.string (⟨#[]⟩ : ByteArray), .string (⟨#[]⟩ : ByteArray), .int .u8 0, .int .u8 0, .int .u8 0, .int .u8 0, .int .i64 0, .int .i64 0, .int .i64 0, .slice none 0 0, .int .i64 0, .int .i64 0, .int .i64 0, .int .i64 0]) (t := 40) ?hr ?_; (case hd => rfl); (case hg => rfl); (case hr => first | (go_simp; done) | (go_simp; rfl)); intro gb162 hg w11 hbox hb; have n0_ := Aside0.mk (blk_below (g := gb160) (o := .cells #[.int .u8 a0_0, .int .u8 a0_1, .int .u8 a0_2, .int .u8 a0_3, .slice (some ad161) l0_4.length c0_4, .int .i64 a0_5, .int .i64 a0_6, .int .i64 a0_7, .bool a0_8] 26 (0, 0)) (by (with_reducible repeat (first | refine blk_drewN ?_ _ | refine blk_drew ?_ | refine blk_alloc ?_ _)); exact BK160.out) hb); have n1_ := Aside0.mk (below_step (by repeat (first | (with_reducible first | exact HB.out | apply below_alloc | apply pw_below_drewN | apply below_drew1 | refine below_set ?_ GE160.out) | exact HB.out)) hb); have n2_ := Aside0.mk (hbox); have n3_ := Aside0.mk ((by rw [hg]; exact (below_size (by repeat (first | (with_reducible first | exact HB.out | apply below_alloc | apply pw_below_drewN | apply below_drew1 | refine below_set ?_ GE160.out) | exact HB.out))) : w.heap.size ≤ gb162)); have n4_ := Aside0.mk ((by rw [hg]; exact (below_size (by repeat (first | (with_reducible first | exact HB.out | apply below_alloc | apply pw_below_drewN | apply below_drew1 | refine below_set ?_ GE160.out) | exact HB.out))) : w.heap.size ≤ gb162)); have n5_ := Aside0.mk ((by rw [hg]; exact Nat.ne_of_lt (blk_lt (g := gb160) (o := .cells #[.int .u8 a0_0, .int .u8 a0_1, .int .u8 a0_2, .int .u8 a0_3, .slice (some ad161) l0_4.length c0_4, .int .i64 a0_5, .int .i64 a0_6, .int .i64 a0_7, .bool a0_8] 26 (0, 0)) (by (with_reducible repeat (first | refine blk_drewN ?_ _ | refine blk_drew ?_ | refine blk_alloc ?_ _)); exact BK160.out)) : gb160 ≠ gb162)); have n6_ := Aside0.mk ((by rw [hg]; exact Nat.ne_of_gt (blk_lt (g := gb160) (o := .cells #[.int .u8 a0_0, .int .u8 a0_1, .int .u8 a0_2, .int .u8 a0_3, .slice (some ad161) l0_4.length c0_4, .int .i64 a0_5, .int .i64 a0_6, .int .i64 a0_7, .bool a0_8] 26 (0, 0)) (by (with_reducible repeat (first | refine blk_drewN ?_ _ | refine blk_drew ?_ | refine blk_alloc ?_ _)); exact BK160.out)) : gb162 ≠ gb160)); clear BK160; clear HB; have BK160 := n0_; have HB := n1_; have BK162 := n2_; have GW162 := n3_; have GE162 := n4_; have NB160_162 := n5_; have NB162_160 := n6_; clear n0_ n1_ n2_ n3_ n4_ n5_ n6_; clear hb hbox hg; have hnb12 := NB162_160.out; have hnc12 := NB160_162.out; obtain ⟨hcz13_0, hcz13_1, hcz13_2, hcz13_3, hcz13_4, hcz13_5, hcz13_6, hcz13_7, hcz13_8, hcz13_9, hcz13_10, hcz13_11, hcz13_12, hcz13_13⟩ := cl_14 (.string (⟨#[]⟩ : ByteArray)) (.string (⟨#[]⟩ : ByteArray)) (.int .u8 0) (.int .u8 0) (.int .u8 0) (.int .u8 0) (.int .i64 0) (.int .i64 0) (.int .i64 0) (.slice none 0 0) (.int .i64 0) (.int .i64 0) (.int .i64 0) (.int .i64 0) BK162.out; obtain ⟨hfz13_0, hfz13_1, hfz13_2, hfz13_3, hfz13_4, hfz13_5, hfz13_6, hfz13_7, hfz13_8, hfz13_9, hfz13_10, hfz13_11, hfz13_12, hfz13_13⟩ := fz_14 BK162.out))
      (try simp only [Act.put, List.setIfInBounds_toArray, List.set_cons_zero, List.set_cons_succ])
      go_cut [37] (fun v37 wc => ∃ (kq : Nat) (x37_8 : Bool), v37 = .bool x37_8 ∧ Aside0 (wharfingerlaw13_Few.j1 kq x3_1 x37_8 a0_0 a0_1 a0_2 a0_3 l0_4 a0_5 a0_6 a0_7 a0_8 ((rd_T40 l0_4 x3_1).f0) ((rd_T40 l0_4 x3_1).f1) ((rd_T40 l0_4 x3_1).f2.f0.f0) ((rd_T40 l0_4 x3_1).f2.f0.f1) ((rd_T40 l0_4 x3_1).f2.f0.f2) ((rd_T40 l0_4 x3_1).f2.f0.f3) ((rd_T40 l0_4 x3_1).f2.f1) ((rd_T40 l0_4 x3_1).f3) ((rd_T40 l0_4 x3_1).f4) ((rd_T40 l0_4 x3_1).f5) ((rd_T40 l0_4 x3_1).f6) ((rd_T40 l0_4 x3_1).f7) ((rd_T40 l0_4 x3_1).f8) ((rd_T40 l0_4 x3_1).f9) = some r) ∧ Aside0 (kq ≤ k1) ∧ Aside0 (wc.heap[gb160]? = some (.cells #[.int .u8 a0_0, .int .u8 a0_1, .int .u8 a0_2, .int .u8 a0_3, (.slice (some ad161) l0_4.length c0_4), .int .i64 a0_5, .int .i64 a0_6, .int .i64 a0_7, .bool a0_8] 26 (0, 0))) ∧ Aside0 (wc.heap[gb162]? = some (.cells #[.string ((rd_T40 l0_4 x3_1).f0), .string ((rd_T40 l0_4 x3_1).f1), .int .u8 ((rd_T40 l0_4 x3_1).f2.f0.f0), .int .u8 ((rd_T40 l0_4 x3_1).f2.f0.f1), .int .u8 ((rd_T40 l0_4 x3_1).f2.f0.f2), .int .u8 ((rd_T40 l0_4 x3_1).f2.f0.f3), .int .i64 ((rd_T40 l0_4 x3_1).f2.f1), .int .i64 ((rd_T40 l0_4 x3_1).f3), .int .i64 ((rd_T40 l0_4 x3_1).f4), (.slice A161_9 ((rd_T40 l0_4 x3_1).f5).length c161_9), .int .i64 ((rd_T40 l0_4 x3_1).f6), .int .i64 ((rd_T40 l0_4 x3_1).f7), .int .i64 ((rd_T40 l0_4 x3_1).f8), .int .i64 ((rd_T40 l0_4 x3_1).f9)] 40 (0, 0))) ∧ Aside0 (Below w.heap.size w wc))
      case first =>
       have H := HC9.out
       clear HC9
       by_cases c14 : (((rd_T40 l0_4 x3_1).f5).length : Int) > 20
       ·
        rw [if_pos c14] at H
        have c14b0 : decide (20 < (((rd_T40 l0_4 x3_1).f5).length : Int)) = true := decide_eq_true c14
        have c14b1 : decide (20 < ((rd_T40 l0_4 x3_1).f5).length) = true := decide_eq_true (by omega)
        clear c14
        (first | rw [c14b0] | (simp only [i64_w, i32_w]; rw [c14b0]) | skip)
        have H' := Aside0.mk H
        clear H
        have hnb15 := NB162_160.out
        have hnc15 := NB160_162.out
        have hcz16_0 : w11.cell? ⟨gb162, 0, none⟩ = some (.string (⟨#[]⟩ : ByteArray)) := (blk_cell BK162.out 0).trans rfl
        have hcz16_1 : w11.cell? ⟨gb162, 1, none⟩ = some (.string (⟨#[]⟩ : ByteArray)) := (blk_cell BK162.out 1).trans rfl
        have hcz16_2 : w11.cell? ⟨gb162, 2, none⟩ = some (.int .u8 0) := (blk_cell BK162.out 2).trans rfl
        have hcz16_3 : w11.cell? ⟨gb162, 3, none⟩ = some (.int .u8 0) := (blk_cell BK162.out 3).trans rfl
        have hcz16_4 : w11.cell? ⟨gb162, 4, none⟩ = some (.int .u8 0) := (blk_cell BK162.out 4).trans rfl
        have hcz16_5 : w11.cell? ⟨gb162, 5, none⟩ = some (.int .u8 0) := (blk_cell BK162.out 5).trans rfl
        have hcz16_6 : w11.cell? ⟨gb162, 6, none⟩ = some (.int .i64 0) := (blk_cell BK162.out 6).trans rfl
        have hcz16_7 : w11.cell? ⟨gb162, 7, none⟩ = some (.int .i64 0) := (blk_cell BK162.out 7).trans rfl
        have hcz16_8 : w11.cell? ⟨gb162, 8, none⟩ = some (.int .i64 0) := (blk_cell BK162.out 8).trans rfl
        have hcz16_9 : w11.cell? ⟨gb162, 9, none⟩ = some (.slice none 0 0) := (blk_cell BK162.out 9).trans rfl
        have hcz16_10 : w11.cell? ⟨gb162, 10, none⟩ = some (.int .i64 0) := (blk_cell BK162.out 10).trans rfl
        have hcz16_11 : w11.cell? ⟨gb162, 11, none⟩ = some (.int .i64 0) := (blk_cell BK162.out 11).trans rfl
        have hcz16_12 : w11.cell? ⟨gb162, 12, none⟩ = some (.int .i64 0) := (blk_cell BK162.out 12).trans rfl
        have hcz16_13 : w11.cell? ⟨gb162, 13, none⟩ = some (.int .i64 0) := (blk_cell BK162.out 13).trans rfl
        have hfz16_0 := blk_frozen BK162.out 0
        have hfz16_1 := blk_frozen BK162.out 1
        have hfz16_2 := blk_frozen BK162.out 2
        have hfz16_3 := blk_frozen BK162.out 3
        have hfz16_4 := blk_frozen BK162.out 4
        have hfz16_5 := blk_frozen BK162.out 5
        have hfz16_6 := blk_frozen BK162.out 6
        have hfz16_7 := blk_frozen BK162.out 7
        have hfz16_8 := blk_frozen BK162.out 8
        have hfz16_9 := blk_frozen BK162.out 9
        have hfz16_10 := blk_frozen BK162.out 10
        have hfz16_11 := blk_frozen BK162.out 11
        have hfz16_12 := blk_frozen BK162.out 12
        have hfz16_13 := blk_frozen BK162.out 13
        go_wp2
        go_meet
        case rel => exact ⟨_, (true), (by first | rfl | (simp; done) | (simp [*]; done)), H', ⟨by have := HK1.out; first | omega | exact Nat.le_refl _⟩, ⟨by (iterate 14 ((with_reducible repeat (first | refine blk_drewN ?_ _ | refine blk_drew ?_ | refine blk_alloc ?_ _)); refine blk_far ?_ NB160_162.out _)); (with_reducible repeat (first | refine blk_drewN ?_ _ | refine blk_drew ?_ | refine blk_alloc ?_ _)); exact BK160.out⟩, ⟨by (with_reducible repeat (first | refine blk_drewN ?_ _ | refine blk_drew ?_ | refine blk_alloc ?_ _)); refine blk_put (cs := #[.string ((rd_T40 l0_4 x3_1).f0), .string ((rd_T40 l0_4 x3_1).f1), .int .u8 ((rd_T40 l0_4 x3_1).f2.f0.f0), .int .u8 ((rd_T40 l0_4 x3_1).f2.f0.f1), .int .u8 ((rd_T40 l0_4 x3_1).f2.f0.f2), .int .u8 ((rd_T40 l0_4 x3_1).f2.f0.f3), .int .i64 ((rd_T40 l0_4 x3_1).f2.f1), .int .i64 ((rd_T40 l0_4 x3_1).f3), .int .i64 ((rd_T40 l0_4 x3_1).f4), .slice A161_9 ((rd_T40 l0_4 x3_1).f5).length c161_9, .int .i64 ((rd_T40 l0_4 x3_1).f6), .int .i64 ((rd_T40 l0_4 x3_1).f7), .int .i64 ((rd_T40 l0_4 x3_1).f8), .int .i64 0]) ?_ 13 _ rfl; (with_reducible repeat (first | refine blk_drewN ?_ _ | refine blk_drew ?_ | refine blk_alloc ?_ _)); refine blk_put (cs := #[.string ((rd_T40 l0_4 x3_1).f0), .string ((rd_T40 l0_4 x3_1).f1), .int .u8 ((rd_T40 l0_4 x3_1).f2.f0.f0), .int .u8 ((rd_T40 l0_4 x3_1).f2.f0.f1), .int .u8 ((rd_T40 l0_4 x3_1).f2.f0.f2), .int .u8 ((rd_T40 l0_4 x3_1).f2.f0.f3), .int .i64 ((rd_T40 l0_4 x3_1).f2.f1), .int .i64 ((rd_T40 l0_4 x3_1).f3), .int .i64 ((rd_T40 l0_4 x3_1).f4), .slice A161_9 ((rd_T40 l0_4 x3_1).f5).length c161_9, .int .i64 ((rd_T40 l0_4 x3_1).f6), .int .i64 ((rd_T40 l0_4 x3_1).f7), .int .i64 0, .int .i64 0]) ?_ 12 _ rfl; (with_reducible repeat (first | refine blk_drewN ?_ _ | refine blk_drew ?_ | refine blk_alloc ?_ _)); refine blk_put (cs := #[.string ((rd_T40 l0_4 x3_1).f0), .string ((rd_T40 l0_4 x3_1).f1), .int .u8 ((rd_T40 l0_4 x3_1).f2.f0.f0), .int .u8 ((rd_T40 l0_4 x3_1).f2.f0.f1), .int .u8 ((rd_T40 l0_4 x3_1).f2.f0.f2), .int .u8 ((rd_T40 l0_4 x3_1).f2.f0.f3), .int .i64 ((rd_T40 l0_4 x3_1).f2.f1), .int .i64 ((rd_T40 l0_4 x3_1).f3), .int .i64 ((rd_T40 l0_4 x3_1).f4), .slice A161_9 ((rd_T40 l0_4 x3_1).f5).length c161_9, .int .i64 ((rd_T40 l0_4 x3_1).f6), .int .i64 0, .int .i64 0, .int .i64 0]) ?_ 11 _ rfl; (with_reducible repeat (first | refine blk_drewN ?_ _ | refine blk_drew ?_ | refine blk_alloc ?_ _)); refine blk_put (cs := #[.string ((rd_T40 l0_4 x3_1).f0), .string ((rd_T40 l0_4 x3_1).f1), .int .u8 ((rd_T40 l0_4 x3_1).f2.f0.f0), .int .u8 ((rd_T40 l0_4 x3_1).f2.f0.f1), .int .u8 ((rd_T40 l0_4 x3_1).f2.f0.f2), .int .u8 ((rd_T40 l0_4 x3_1).f2.f0.f3), .int .i64 ((rd_T40 l0_4 x3_1).f2.f1), .int .i64 ((rd_T40 l0_4 x3_1).f3), .int .i64 ((rd_T40 l0_4 x3_1).f4), .slice A161_9 ((rd_T40 l0_4 x3_1).f5).length c161_9, .int .i64 0, .int .i64 0, .int .i64 0, .int .i64 0]) ?_ 10 _ rfl; (with_reducible repeat (first | refine blk_drewN ?_ _ | refine blk_drew ?_ | refine blk_alloc ?_ _)); refine blk_put (cs := #[.string ((rd_T40 l0_4 x3_1).f0), .string ((rd_T40 l0_4 x3_1).f1), .int .u8 ((rd_T40 l0_4 x3_1).f2.f0.f0), .int .u8 ((rd_T40 l0_4 x3_1).f2.f0.f1), .int .u8 ((rd_T40 l0_4 x3_1).f2.f0.f2), .int .u8 ((rd_T40 l0_4 x3_1).f2.f0.f3), .int .i64 ((rd_T40 l0_4 x3_1).f2.f1), .int .i64 ((rd_T40 l0_4 x3_1).f3), .int .i64 ((rd_T40 l0_4 x3_1).f4), .slice none 0 0, .int .i64 0, .int .i64 0, .int .i64 0, .int .i64 0]) ?_ 9 _ rfl; (with_reducible repeat (first | refine blk_drewN ?_ _ | refine blk_drew ?_ | refine blk_alloc ?_ _)); refine blk_put (cs := #[.string ((rd_T40 l0_4 x3_1).f0), .string ((rd_T40 l0_4 x3_1).f1), .int .u8 ((rd_T40 l0_4 x3_1).f2.f0.f0), .int .u8 ((rd_T40 l0_4 x3_1).f2.f0.f1), .int .u8 ((rd_T40 l0_4 x3_1).f2.f0.f2), .int .u8 ((rd_T40 l0_4 x3_1).f2.f0.f3), .int .i64 ((rd_T40 l0_4 x3_1).f2.f1), .int .i64 ((rd_T40 l0_4 x3_1).f3), .int .i64 0, .slice none 0 0, .int .i64 0, .int .i64 0, .int .i64 0, .int .i64 0]) ?_ 8 _ rfl; (with_reducible repeat (first | refine blk_drewN ?_ _ | refine blk_drew ?_ | refine blk_alloc ?_ _)); refine blk_put (cs := #[.string ((rd_T40 l0_4 x3_1).f0), .string ((rd_T40 l0_4 x3_1).f1), .int .u8 ((rd_T40 l0_4 x3_1).f2.f0.f0), .int .u8 ((rd_T40 l0_4 x3_1).f2.f0.f1), .int .u8 ((rd_T40 l0_4 x3_1).f2.f0.f2), .int .u8 ((rd_T40 l0_4 x3_1).f2.f0.f3), .int .i64 ((rd_T40 l0_4 x3_1).f2.f1), .int .i64 0, .int .i64 0, .slice none 0 0, .int .i64 0, .int .i64 0, .int .i64 0, .int .i64 0]) ?_ 7 _ rfl; (with_reducible repeat (first | refine blk_drewN ?_ _ | refine blk_drew ?_ | refine blk_alloc ?_ _)); refine blk_put (cs := #[.string ((rd_T40 l0_4 x3_1).f0), .string ((rd_T40 l0_4 x3_1).f1), .int .u8 ((rd_T40 l0_4 x3_1).f2.f0.f0), .int .u8 ((rd_T40 l0_4 x3_1).f2.f0.f1), .int .u8 ((rd_T40 l0_4 x3_1).f2.f0.f2), .int .u8 ((rd_T40 l0_4 x3_1).f2.f0.f3), .int .i64 0, .int .i64 0, .int .i64 0, .slice none 0 0, .int .i64 0, .int .i64 0, .int .i64 0, .int .i64 0]) ?_ 6 _ rfl; (with_reducible repeat (first | refine blk_drewN ?_ _ | refine blk_drew ?_ | refine blk_alloc ?_ _)); refine blk_put (cs := #[.string ((rd_T40 l0_4 x3_1).f0), .string ((rd_T40 l0_4 x3_1).f1), .int .u8 ((rd_T40 l0_4 x3_1).f2.f0.f0), .int .u8 ((rd_T40 l0_4 x3_1).f2.f0.f1), .int .u8 ((rd_T40 l0_4 x3_1).f2.f0.f2), .int .u8 0, .int .i64 0, .int .i64 0, .int .i64 0, .slice none 0 0, .int .i64 0, .int .i64 0, .int .i64 0, .int .i64 0]) ?_ 5 _ rfl; (with_reducible repeat (first | refine blk_drewN ?_ _ | refine blk_drew ?_ | refine blk_alloc ?_ _)); refine blk_put (cs := #[.string ((rd_T40 l0_4 x3_1).f0), .string ((rd_T40 l0_4 x3_1).f1), .int .u8 ((rd_T40 l0_4 x3_1).f2.f0.f0), .int .u8 ((rd_T40 l0_4 x3_1).f2.f0.f1), .int .u8 0, .int .u8 0, .int .i64 0, .int .i64 0, .int .i64 0, .slice none 0 0, .int .i64 0, .int .i64 0, .int .i64 0, .int .i64 0]) ?_ 4 _ rfl; (with_reducible repeat (first | refine blk_drewN ?_ _ | refine blk_drew ?_ | refine blk_alloc ?_ _)); refine blk_put (cs := #[.string ((rd_T40 l0_4 x3_1).f0), .string ((rd_T40 l0_4 x3_1).f1), .int .u8 ((rd_T40 l0_4 x3_1).f2.f0.f0), .int .u8 0, .int .u8 0, .int .u8 0, .int .i64 0, .int .i64 0, .int .i64 0, .slice none 0 0, .int .i64 0, .int .i64 0, .int .i64 0, .int .i64 0]) ?_ 3 _ rfl; (with_reducible repeat (first | refine blk_drewN ?_ _ | refine blk_drew ?_ | refine blk_alloc ?_ _)); refine blk_put (cs := #[.string ((rd_T40 l0_4 x3_1).f0), .string ((rd_T40 l0_4 x3_1).f1), .int .u8 0, .int .u8 0, .int .u8 0, .int .u8 0, .int .i64 0, .int .i64 0, .int .i64 0, .slice none 0 0, .int .i64 0, .int .i64 0, .int .i64 0, .int .i64 0]) ?_ 2 _ rfl; (with_reducible repeat (first | refine blk_drewN ?_ _ | refine blk_drew ?_ | refine blk_alloc ?_ _)); refine blk_put (cs := #[.string ((rd_T40 l0_4 x3_1).f0), .string (⟨#[]⟩ : ByteArray), .int .u8 0, .int .u8 0, .int .u8 0, .int .u8 0, .int .i64 0, .int .i64 0, .int .i64 0, .slice none 0 0, .int .i64 0, .int .i64 0, .int .i64 0, .int .i64 0]) ?_ 1 _ rfl; (with_reducible repeat (first | refine blk_drewN ?_ _ | refine blk_drew ?_ | refine blk_alloc ?_ _)); refine blk_put (cs := #[.string (⟨#[]⟩ : ByteArray), .string (⟨#[]⟩ : ByteArray), .int .u8 0, .int .u8 0, .int .u8 0, .int .u8 0, .int .i64 0, .int .i64 0, .int .i64 0, .slice none 0 0, .int .i64 0, .int .i64 0, .int .i64 0, .int .i64 0]) ?_ 0 _ rfl; (with_reducible repeat (first | refine blk_drewN ?_ _ | refine blk_drew ?_ | refine blk_alloc ?_ _)); exact BK162.out⟩, ⟨by repeat (first | (with_reducible first | exact HB.out | apply below_alloc | apply pw_below_drewN | apply below_drew1 | refine below_set ?_ GE160.out | refine below_set ?_ GE162.out) | exact HB.out)⟩⟩
       ·
        rw [if_neg c14] at H
        have c14b0 : decide (20 < (((rd_T40 l0_4 x3_1).f5).length : Int)) = false := decide_eq_false c14
        have c14b1 : decide (20 < ((rd_T40 l0_4 x3_1).f5).length) = false := decide_eq_false (by omega)
        clear c14
        (first | rw [c14b0] | (simp only [i64_w, i32_w]; rw [c14b0]) | skip)
        by_cases c17 : (((rd_T40 l0_4 x3_1).f0).size : Int) > 300
        ·
         rw [if_pos c17] at H
         have c17b0 : decide (300 < (((rd_T40 l0_4 x3_1).f0).size : Int)) = true := decide_eq_true c17
         have c17b1 : decide (300 < ((rd_T40 l0_4 x3_1).f0).size) = true := decide_eq_true (by omega)
         clear c17
         have H' := Aside0.mk H
         clear H
         have hnb18 := NB162_160.out
         have hnc18 := NB160_162.out
         have hcz19_0 : w11.cell? ⟨gb162, 0, none⟩ = some (.string (⟨#[]⟩ : ByteArray)) := (blk_cell BK162.out 0).trans rfl
         have hcz19_1 : w11.cell? ⟨gb162, 1, none⟩ = some (.string (⟨#[]⟩ : ByteArray)) := (blk_cell BK162.out 1).trans rfl
         have hcz19_2 : w11.cell? ⟨gb162, 2, none⟩ = some (.int .u8 0) := (blk_cell BK162.out 2).trans rfl
         have hcz19_3 : w11.cell? ⟨gb162, 3, none⟩ = some (.int .u8 0) := (blk_cell BK162.out 3).trans rfl
         have hcz19_4 : w11.cell? ⟨gb162, 4, none⟩ = some (.int .u8 0) := (blk_cell BK162.out 4).trans rfl
         have hcz19_5 : w11.cell? ⟨gb162, 5, none⟩ = some (.int .u8 0) := (blk_cell BK162.out 5).trans rfl
         have hcz19_6 : w11.cell? ⟨gb162, 6, none⟩ = some (.int .i64 0) := (blk_cell BK162.out 6).trans rfl
         have hcz19_7 : w11.cell? ⟨gb162, 7, none⟩ = some (.int .i64 0) := (blk_cell BK162.out 7).trans rfl
         have hcz19_8 : w11.cell? ⟨gb162, 8, none⟩ = some (.int .i64 0) := (blk_cell BK162.out 8).trans rfl
         have hcz19_9 : w11.cell? ⟨gb162, 9, none⟩ = some (.slice none 0 0) := (blk_cell BK162.out 9).trans rfl
         have hcz19_10 : w11.cell? ⟨gb162, 10, none⟩ = some (.int .i64 0) := (blk_cell BK162.out 10).trans rfl
         have hcz19_11 : w11.cell? ⟨gb162, 11, none⟩ = some (.int .i64 0) := (blk_cell BK162.out 11).trans rfl
         have hcz19_12 : w11.cell? ⟨gb162, 12, none⟩ = some (.int .i64 0) := (blk_cell BK162.out 12).trans rfl
         have hcz19_13 : w11.cell? ⟨gb162, 13, none⟩ = some (.int .i64 0) := (blk_cell BK162.out 13).trans rfl
         have hfz19_0 := blk_frozen BK162.out 0
         have hfz19_1 := blk_frozen BK162.out 1
         have hfz19_2 := blk_frozen BK162.out 2
         have hfz19_3 := blk_frozen BK162.out 3
         have hfz19_4 := blk_frozen BK162.out 4
         have hfz19_5 := blk_frozen BK162.out 5
         have hfz19_6 := blk_frozen BK162.out 6
         have hfz19_7 := blk_frozen BK162.out 7
         have hfz19_8 := blk_frozen BK162.out 8
         have hfz19_9 := blk_frozen BK162.out 9
         have hfz19_10 := blk_frozen BK162.out 10
         have hfz19_11 := blk_frozen BK162.out 11
         have hfz19_12 := blk_frozen BK162.out 12
         have hfz19_13 := blk_frozen BK162.out 13
         go_wp2
         go_meet
         case rel => exact ⟨_, (true), (by first | rfl | (simp; done) | (simp [*]; done)), H', ⟨by have := HK1.out; first | omega | exact Nat.le_refl _⟩, ⟨by (iterate 14 ((with_reducible repeat (first | refine blk_drewN ?_ _ | refine blk_drew ?_ | refine blk_alloc ?_ _)); refine blk_far ?_ NB160_162.out _)); (with_reducible repeat (first | refine blk_drewN ?_ _ | refine blk_drew ?_ | refine blk_alloc ?_ _)); exact BK160.out⟩, ⟨by (with_reducible repeat (first | refine blk_drewN ?_ _ | refine blk_drew ?_ | refine blk_alloc ?_ _)); refine blk_put (cs := #[.string ((rd_T40 l0_4 x3_1).f0), .string ((rd_T40 l0_4 x3_1).f1), .int .u8 ((rd_T40 l0_4 x3_1).f2.f0.f0), .int .u8 ((rd_T40 l0_4 x3_1).f2.f0.f1), .int .u8 ((rd_T40 l0_4 x3_1).f2.f0.f2), .int .u8 ((rd_T40 l0_4 x3_1).f2.f0.f3), .int .i64 ((rd_T40 l0_4 x3_1).f2.f1), .int .i64 ((rd_T40 l0_4 x3_1).f3), .int .i64 ((rd_T40 l0_4 x3_1).f4), .slice A161_9 ((rd_T40 l0_4 x3_1).f5).length c161_9, .int .i64 ((rd_T40 l0_4 x3_1).f6), .int .i64 ((rd_T40 l0_4 x3_1).f7), .int .i64 ((rd_T40 l0_4 x3_1).f8), .int .i64 0]) ?_ 13 _ rfl; (with_reducible repeat (first | refine blk_drewN ?_ _ | refine blk_drew ?_ | refine blk_alloc ?_ _)); refine blk_put (cs := #[.string ((rd_T40 l0_4 x3_1).f0), .string ((rd_T40 l0_4 x3_1).f1), .int .u8 ((rd_T40 l0_4 x3_1).f2.f0.f0), .int .u8 ((rd_T40 l0_4 x3_1).f2.f0.f1), .int .u8 ((rd_T40 l0_4 x3_1).f2.f0.f2), .int .u8 ((rd_T40 l0_4 x3_1).f2.f0.f3), .int .i64 ((rd_T40 l0_4 x3_1).f2.f1), .int .i64 ((rd_T40 l0_4 x3_1).f3), .int .i64 ((rd_T40 l0_4 x3_1).f4), .slice A161_9 ((rd_T40 l0_4 x3_1).f5).length c161_9, .int .i64 ((rd_T40 l0_4 x3_1).f6), .int .i64 ((rd_T40 l0_4 x3_1).f7), .int .i64 0, .int .i64 0]) ?_ 12 _ rfl; (with_reducible repeat (first | refine blk_drewN ?_ _ | refine blk_drew ?_ | refine blk_alloc ?_ _)); refine blk_put (cs := #[.string ((rd_T40 l0_4 x3_1).f0), .string ((rd_T40 l0_4 x3_1).f1), .int .u8 ((rd_T40 l0_4 x3_1).f2.f0.f0), .int .u8 ((rd_T40 l0_4 x3_1).f2.f0.f1), .int .u8 ((rd_T40 l0_4 x3_1).f2.f0.f2), .int .u8 ((rd_T40 l0_4 x3_1).f2.f0.f3), .int .i64 ((rd_T40 l0_4 x3_1).f2.f1), .int .i64 ((rd_T40 l0_4 x3_1).f3), .int .i64 ((rd_T40 l0_4 x3_1).f4), .slice A161_9 ((rd_T40 l0_4 x3_1).f5).length c161_9, .int .i64 ((rd_T40 l0_4 x3_1).f6), .int .i64 0, .int .i64 0, .int .i64 0]) ?_ 11 _ rfl; (with_reducible repeat (first | refine blk_drewN ?_ _ | refine blk_drew ?_ | refine blk_alloc ?_ _)); refine blk_put (cs := #[.string ((rd_T40 l0_4 x3_1).f0), .string ((rd_T40 l0_4 x3_1).f1), .int .u8 ((rd_T40 l0_4 x3_1).f2.f0.f0), .int .u8 ((rd_T40 l0_4 x3_1).f2.f0.f1), .int .u8 ((rd_T40 l0_4 x3_1).f2.f0.f2), .int .u8 ((rd_T40 l0_4 x3_1).f2.f0.f3), .int .i64 ((rd_T40 l0_4 x3_1).f2.f1), .int .i64 ((rd_T40 l0_4 x3_1).f3), .int .i64 ((rd_T40 l0_4 x3_1).f4), .slice A161_9 ((rd_T40 l0_4 x3_1).f5).length c161_9, .int .i64 0, .int .i64 0, .int .i64 0, .int .i64 0]) ?_ 10 _ rfl; (with_reducible repeat (first | refine blk_drewN ?_ _ | refine blk_drew ?_ | refine blk_alloc ?_ _)); refine blk_put (cs := #[.string ((rd_T40 l0_4 x3_1).f0), .string ((rd_T40 l0_4 x3_1).f1), .int .u8 ((rd_T40 l0_4 x3_1).f2.f0.f0), .int .u8 ((rd_T40 l0_4 x3_1).f2.f0.f1), .int .u8 ((rd_T40 l0_4 x3_1).f2.f0.f2), .int .u8 ((rd_T40 l0_4 x3_1).f2.f0.f3), .int .i64 ((rd_T40 l0_4 x3_1).f2.f1), .int .i64 ((rd_T40 l0_4 x3_1).f3), .int .i64 ((rd_T40 l0_4 x3_1).f4), .slice none 0 0, .int .i64 0, .int .i64 0, .int .i64 0, .int .i64 0]) ?_ 9 _ rfl; (with_reducible repeat (first | refine blk_drewN ?_ _ | refine blk_drew ?_ | refine blk_alloc ?_ _)); refine blk_put (cs := #[.string ((rd_T40 l0_4 x3_1).f0), .string ((rd_T40 l0_4 x3_1).f1), .int .u8 ((rd_T40 l0_4 x3_1).f2.f0.f0), .int .u8 ((rd_T40 l0_4 x3_1).f2.f0.f1), .int .u8 ((rd_T40 l0_4 x3_1).f2.f0.f2), .int .u8 ((rd_T40 l0_4 x3_1).f2.f0.f3), .int .i64 ((rd_T40 l0_4 x3_1).f2.f1), .int .i64 ((rd_T40 l0_4 x3_1).f3), .int .i64 0, .slice none 0 0, .int .i64 0, .int .i64 0, .int .i64 0, .int .i64 0]) ?_ 8 _ rfl; (with_reducible repeat (first | refine blk_drewN ?_ _ | refine blk_drew ?_ | refine blk_alloc ?_ _)); refine blk_put (cs := #[.string ((rd_T40 l0_4 x3_1).f0), .string ((rd_T40 l0_4 x3_1).f1), .int .u8 ((rd_T40 l0_4 x3_1).f2.f0.f0), .int .u8 ((rd_T40 l0_4 x3_1).f2.f0.f1), .int .u8 ((rd_T40 l0_4 x3_1).f2.f0.f2), .int .u8 ((rd_T40 l0_4 x3_1).f2.f0.f3), .int .i64 ((rd_T40 l0_4 x3_1).f2.f1), .int .i64 0, .int .i64 0, .slice none 0 0, .int .i64 0, .int .i64 0, .int .i64 0, .int .i64 0]) ?_ 7 _ rfl; (with_reducible repeat (first | refine blk_drewN ?_ _ | refine blk_drew ?_ | refine blk_alloc ?_ _)); refine blk_put (cs := #[.string ((rd_T40 l0_4 x3_1).f0), .string ((rd_T40 l0_4 x3_1).f1), .int .u8 ((rd_T40 l0_4 x3_1).f2.f0.f0), .int .u8 ((rd_T40 l0_4 x3_1).f2.f0.f1), .int .u8 ((rd_T40 l0_4 x3_1).f2.f0.f2), .int .u8 ((rd_T40 l0_4 x3_1).f2.f0.f3), .int .i64 0, .int .i64 0, .int .i64 0, .slice none 0 0, .int .i64 0, .int .i64 0, .int .i64 0, .int .i64 0]) ?_ 6 _ rfl; (with_reducible repeat (first | refine blk_drewN ?_ _ | refine blk_drew ?_ | refine blk_alloc ?_ _)); refine blk_put (cs := #[.string ((rd_T40 l0_4 x3_1).f0), .string ((rd_T40 l0_4 x3_1).f1), .int .u8 ((rd_T40 l0_4 x3_1).f2.f0.f0), .int .u8 ((rd_T40 l0_4 x3_1).f2.f0.f1), .int .u8 ((rd_T40 l0_4 x3_1).f2.f0.f2), .int .u8 0, .int .i64 0, .int .i64 0, .int .i64 0, .slice none 0 0, .int .i64 0, .int .i64 0, .int .i64 0, .int .i64 0]) ?_ 5 _ rfl; (with_reducible repeat (first | refine blk_drewN ?_ _ | refine blk_drew ?_ | refine blk_alloc ?_ _)); refine blk_put (cs := #[.string ((rd_T40 l0_4 x3_1).f0), .string ((rd_T40 l0_4 x3_1).f1), .int .u8 ((rd_T40 l0_4 x3_1).f2.f0.f0), .int .u8 ((rd_T40 l0_4 x3_1).f2.f0.f1), .int .u8 0, .int .u8 0, .int .i64 0, .int .i64 0, .int .i64 0, .slice none 0 0, .int .i64 0, .int .i64 0, .int .i64 0, .int .i64 0]) ?_ 4 _ rfl; (with_reducible repeat (first | refine blk_drewN ?_ _ | refine blk_drew ?_ | refine blk_alloc ?_ _)); refine blk_put (cs := #[.string ((rd_T40 l0_4 x3_1).f0), .string ((rd_T40 l0_4 x3_1).f1), .int .u8 ((rd_T40 l0_4 x3_1).f2.f0.f0), .int .u8 0, .int .u8 0, .int .u8 0, .int .i64 0, .int .i64 0, .int .i64 0, .slice none 0 0, .int .i64 0, .int .i64 0, .int .i64 0, .int .i64 0]) ?_ 3 _ rfl; (with_reducible repeat (first | refine blk_drewN ?_ _ | refine blk_drew ?_ | refine blk_alloc ?_ _)); refine blk_put (cs := #[.string ((rd_T40 l0_4 x3_1).f0), .string ((rd_T40 l0_4 x3_1).f1), .int .u8 0, .int .u8 0, .int .u8 0, .int .u8 0, .int .i64 0, .int .i64 0, .int .i64 0, .slice none 0 0, .int .i64 0, .int .i64 0, .int .i64 0, .int .i64 0]) ?_ 2 _ rfl; (with_reducible repeat (first | refine blk_drewN ?_ _ | refine blk_drew ?_ | refine blk_alloc ?_ _)); refine blk_put (cs := #[.string ((rd_T40 l0_4 x3_1).f0), .string (⟨#[]⟩ : ByteArray), .int .u8 0, .int .u8 0, .int .u8 0, .int .u8 0, .int .i64 0, .int .i64 0, .int .i64 0, .slice none 0 0, .int .i64 0, .int .i64 0, .int .i64 0, .int .i64 0]) ?_ 1 _ rfl; (with_reducible repeat (first | refine blk_drewN ?_ _ | refine blk_drew ?_ | refine blk_alloc ?_ _)); refine blk_put (cs := #[.string (⟨#[]⟩ : ByteArray), .string (⟨#[]⟩ : ByteArray), .int .u8 0, .int .u8 0, .int .u8 0, .int .u8 0, .int .i64 0, .int .i64 0, .int .i64 0, .slice none 0 0, .int .i64 0, .int .i64 0, .int .i64 0, .int .i64 0]) ?_ 0 _ rfl; (with_reducible repeat (first | refine blk_drewN ?_ _ | refine blk_drew ?_ | refine blk_alloc ?_ _)); exact BK162.out⟩, ⟨by repeat (first | (with_reducible first | exact HB.out | apply below_alloc | apply pw_below_drewN | apply below_drew1 | refine below_set ?_ GE160.out | refine below_set ?_ GE162.out) | exact HB.out)⟩⟩
        ·
         rw [if_neg c17] at H
         have c17b0 : decide (300 < (((rd_T40 l0_4 x3_1).f0).size : Int)) = false := decide_eq_false c17
         have c17b1 : decide (300 < ((rd_T40 l0_4 x3_1).f0).size) = false := decide_eq_false (by omega)
         clear c17
         have H' := Aside0.mk H
         clear H
         have hnb20 := NB162_160.out
         have hnc20 := NB160_162.out
         have hcz21_0 : w11.cell? ⟨gb162, 0, none⟩ = some (.string (⟨#[]⟩ : ByteArray)) := (blk_cell BK162.out 0).trans rfl
         have hcz21_1 : w11.cell? ⟨gb162, 1, none⟩ = some (.string (⟨#[]⟩ : ByteArray)) := (blk_cell BK162.out 1).trans rfl
         have hcz21_2 : w11.cell? ⟨gb162, 2, none⟩ = some (.int .u8 0) := (blk_cell BK162.out 2).trans rfl
         have hcz21_3 : w11.cell? ⟨gb162, 3, none⟩ = some (.int .u8 0) := (blk_cell BK162.out 3).trans rfl
         have hcz21_4 : w11.cell? ⟨gb162, 4, none⟩ = some (.int .u8 0) := (blk_cell BK162.out 4).trans rfl
         have hcz21_5 : w11.cell? ⟨gb162, 5, none⟩ = some (.int .u8 0) := (blk_cell BK162.out 5).trans rfl
         have hcz21_6 : w11.cell? ⟨gb162, 6, none⟩ = some (.int .i64 0) := (blk_cell BK162.out 6).trans rfl
         have hcz21_7 : w11.cell? ⟨gb162, 7, none⟩ = some (.int .i64 0) := (blk_cell BK162.out 7).trans rfl
         have hcz21_8 : w11.cell? ⟨gb162, 8, none⟩ = some (.int .i64 0) := (blk_cell BK162.out 8).trans rfl
         have hcz21_9 : w11.cell? ⟨gb162, 9, none⟩ = some (.slice none 0 0) := (blk_cell BK162.out 9).trans rfl
         have hcz21_10 : w11.cell? ⟨gb162, 10, none⟩ = some (.int .i64 0) := (blk_cell BK162.out 10).trans rfl
         have hcz21_11 : w11.cell? ⟨gb162, 11, none⟩ = some (.int .i64 0) := (blk_cell BK162.out 11).trans rfl
         have hcz21_12 : w11.cell? ⟨gb162, 12, none⟩ = some (.int .i64 0) := (blk_cell BK162.out 12).trans rfl
         have hcz21_13 : w11.cell? ⟨gb162, 13, none⟩ = some (.int .i64 0) := (blk_cell BK162.out 13).trans rfl
         have hfz21_0 := blk_frozen BK162.out 0
         have hfz21_1 := blk_frozen BK162.out 1
         have hfz21_2 := blk_frozen BK162.out 2
         have hfz21_3 := blk_frozen BK162.out 3
         have hfz21_4 := blk_frozen BK162.out 4
         have hfz21_5 := blk_frozen BK162.out 5
         have hfz21_6 := blk_frozen BK162.out 6
         have hfz21_7 := blk_frozen BK162.out 7
         have hfz21_8 := blk_frozen BK162.out 8
         have hfz21_9 := blk_frozen BK162.out 9
         have hfz21_10 := blk_frozen BK162.out 10
         have hfz21_11 := blk_frozen BK162.out 11
         have hfz21_12 := blk_frozen BK162.out 12
         have hfz21_13 := blk_frozen BK162.out 13
         go_wp2
         go_meet
         case rel => exact ⟨_, (decide ((((rd_T40 l0_4 x3_1).f1).size : Int) > 300)), (by first | rfl | (simp; done) | (simp [*]; done)), H', ⟨by have := HK1.out; first | omega | exact Nat.le_refl _⟩, ⟨by (iterate 14 ((with_reducible repeat (first | refine blk_drewN ?_ _ | refine blk_drew ?_ | refine blk_alloc ?_ _)); refine blk_far ?_ NB160_162.out _)); (with_reducible repeat (first | refine blk_drewN ?_ _ | refine blk_drew ?_ | refine blk_alloc ?_ _)); exact BK160.out⟩, ⟨by (with_reducible repeat (first | refine blk_drewN ?_ _ | refine blk_drew ?_ | refine blk_alloc ?_ _)); refine blk_put (cs := #[.string ((rd_T40 l0_4 x3_1).f0), .string ((rd_T40 l0_4 x3_1).f1), .int .u8 ((rd_T40 l0_4 x3_1).f2.f0.f0), .int .u8 ((rd_T40 l0_4 x3_1).f2.f0.f1), .int .u8 ((rd_T40 l0_4 x3_1).f2.f0.f2), .int .u8 ((rd_T40 l0_4 x3_1).f2.f0.f3), .int .i64 ((rd_T40 l0_4 x3_1).f2.f1), .int .i64 ((rd_T40 l0_4 x3_1).f3), .int .i64 ((rd_T40 l0_4 x3_1).f4), .slice A161_9 ((rd_T40 l0_4 x3_1).f5).length c161_9, .int .i64 ((rd_T40 l0_4 x3_1).f6), .int .i64 ((rd_T40 l0_4 x3_1).f7), .int .i64 ((rd_T40 l0_4 x3_1).f8), .int .i64 0]) ?_ 13 _ rfl; (with_reducible repeat (first | refine blk_drewN ?_ _ | refine blk_drew ?_ | refine blk_alloc ?_ _)); refine blk_put (cs := #[.string ((rd_T40 l0_4 x3_1).f0), .string ((rd_T40 l0_4 x3_1).f1), .int .u8 ((rd_T40 l0_4 x3_1).f2.f0.f0), .int .u8 ((rd_T40 l0_4 x3_1).f2.f0.f1), .int .u8 ((rd_T40 l0_4 x3_1).f2.f0.f2), .int .u8 ((rd_T40 l0_4 x3_1).f2.f0.f3), .int .i64 ((rd_T40 l0_4 x3_1).f2.f1), .int .i64 ((rd_T40 l0_4 x3_1).f3), .int .i64 ((rd_T40 l0_4 x3_1).f4), .slice A161_9 ((rd_T40 l0_4 x3_1).f5).length c161_9, .int .i64 ((rd_T40 l0_4 x3_1).f6), .int .i64 ((rd_T40 l0_4 x3_1).f7), .int .i64 0, .int .i64 0]) ?_ 12 _ rfl; (with_reducible repeat (first | refine blk_drewN ?_ _ | refine blk_drew ?_ | refine blk_alloc ?_ _)); refine blk_put (cs := #[.string ((rd_T40 l0_4 x3_1).f0), .string ((rd_T40 l0_4 x3_1).f1), .int .u8 ((rd_T40 l0_4 x3_1).f2.f0.f0), .int .u8 ((rd_T40 l0_4 x3_1).f2.f0.f1), .int .u8 ((rd_T40 l0_4 x3_1).f2.f0.f2), .int .u8 ((rd_T40 l0_4 x3_1).f2.f0.f3), .int .i64 ((rd_T40 l0_4 x3_1).f2.f1), .int .i64 ((rd_T40 l0_4 x3_1).f3), .int .i64 ((rd_T40 l0_4 x3_1).f4), .slice A161_9 ((rd_T40 l0_4 x3_1).f5).length c161_9, .int .i64 ((rd_T40 l0_4 x3_1).f6), .int .i64 0, .int .i64 0, .int .i64 0]) ?_ 11 _ rfl; (with_reducible repeat (first | refine blk_drewN ?_ _ | refine blk_drew ?_ | refine blk_alloc ?_ _)); refine blk_put (cs := #[.string ((rd_T40 l0_4 x3_1).f0), .string ((rd_T40 l0_4 x3_1).f1), .int .u8 ((rd_T40 l0_4 x3_1).f2.f0.f0), .int .u8 ((rd_T40 l0_4 x3_1).f2.f0.f1), .int .u8 ((rd_T40 l0_4 x3_1).f2.f0.f2), .int .u8 ((rd_T40 l0_4 x3_1).f2.f0.f3), .int .i64 ((rd_T40 l0_4 x3_1).f2.f1), .int .i64 ((rd_T40 l0_4 x3_1).f3), .int .i64 ((rd_T40 l0_4 x3_1).f4), .slice A161_9 ((rd_T40 l0_4 x3_1).f5).length c161_9, .int .i64 0, .int .i64 0, .int .i64 0, .int .i64 0]) ?_ 10 _ rfl; (with_reducible repeat (first | refine blk_drewN ?_ _ | refine blk_drew ?_ | refine blk_alloc ?_ _)); refine blk_put (cs := #[.string ((rd_T40 l0_4 x3_1).f0), .string ((rd_T40 l0_4 x3_1).f1), .int .u8 ((rd_T40 l0_4 x3_1).f2.f0.f0), .int .u8 ((rd_T40 l0_4 x3_1).f2.f0.f1), .int .u8 ((rd_T40 l0_4 x3_1).f2.f0.f2), .int .u8 ((rd_T40 l0_4 x3_1).f2.f0.f3), .int .i64 ((rd_T40 l0_4 x3_1).f2.f1), .int .i64 ((rd_T40 l0_4 x3_1).f3), .int .i64 ((rd_T40 l0_4 x3_1).f4), .slice none 0 0, .int .i64 0, .int .i64 0, .int .i64 0, .int .i64 0]) ?_ 9 _ rfl; (with_reducible repeat (first | refine blk_drewN ?_ _ | refine blk_drew ?_ | refine blk_alloc ?_ _)); refine blk_put (cs := #[.string ((rd_T40 l0_4 x3_1).f0), .string ((rd_T40 l0_4 x3_1).f1), .int .u8 ((rd_T40 l0_4 x3_1).f2.f0.f0), .int .u8 ((rd_T40 l0_4 x3_1).f2.f0.f1), .int .u8 ((rd_T40 l0_4 x3_1).f2.f0.f2), .int .u8 ((rd_T40 l0_4 x3_1).f2.f0.f3), .int .i64 ((rd_T40 l0_4 x3_1).f2.f1), .int .i64 ((rd_T40 l0_4 x3_1).f3), .int .i64 0, .slice none 0 0, .int .i64 0, .int .i64 0, .int .i64 0, .int .i64 0]) ?_ 8 _ rfl; (with_reducible repeat (first | refine blk_drewN ?_ _ | refine blk_drew ?_ | refine blk_alloc ?_ _)); refine blk_put (cs := #[.string ((rd_T40 l0_4 x3_1).f0), .string ((rd_T40 l0_4 x3_1).f1), .int .u8 ((rd_T40 l0_4 x3_1).f2.f0.f0), .int .u8 ((rd_T40 l0_4 x3_1).f2.f0.f1), .int .u8 ((rd_T40 l0_4 x3_1).f2.f0.f2), .int .u8 ((rd_T40 l0_4 x3_1).f2.f0.f3), .int .i64 ((rd_T40 l0_4 x3_1).f2.f1), .int .i64 0, .int .i64 0, .slice none 0 0, .int .i64 0, .int .i64 0, .int .i64 0, .int .i64 0]) ?_ 7 _ rfl; (with_reducible repeat (first | refine blk_drewN ?_ _ | refine blk_drew ?_ | refine blk_alloc ?_ _)); refine blk_put (cs := #[.string ((rd_T40 l0_4 x3_1).f0), .string ((rd_T40 l0_4 x3_1).f1), .int .u8 ((rd_T40 l0_4 x3_1).f2.f0.f0), .int .u8 ((rd_T40 l0_4 x3_1).f2.f0.f1), .int .u8 ((rd_T40 l0_4 x3_1).f2.f0.f2), .int .u8 ((rd_T40 l0_4 x3_1).f2.f0.f3), .int .i64 0, .int .i64 0, .int .i64 0, .slice none 0 0, .int .i64 0, .int .i64 0, .int .i64 0, .int .i64 0]) ?_ 6 _ rfl; (with_reducible repeat (first | refine blk_drewN ?_ _ | refine blk_drew ?_ | refine blk_alloc ?_ _)); refine blk_put (cs := #[.string ((rd_T40 l0_4 x3_1).f0), .string ((rd_T40 l0_4 x3_1).f1), .int .u8 ((rd_T40 l0_4 x3_1).f2.f0.f0), .int .u8 ((rd_T40 l0_4 x3_1).f2.f0.f1), .int .u8 ((rd_T40 l0_4 x3_1).f2.f0.f2), .int .u8 0, .int .i64 0, .int .i64 0, .int .i64 0, .slice none 0 0, .int .i64 0, .int .i64 0, .int .i64 0, .int .i64 0]) ?_ 5 _ rfl; (with_reducible repeat (first | refine blk_drewN ?_ _ | refine blk_drew ?_ | refine blk_alloc ?_ _)); refine blk_put (cs := #[.string ((rd_T40 l0_4 x3_1).f0), .string ((rd_T40 l0_4 x3_1).f1), .int .u8 ((rd_T40 l0_4 x3_1).f2.f0.f0), .int .u8 ((rd_T40 l0_4 x3_1).f2.f0.f1), .int .u8 0, .int .u8 0, .int .i64 0, .int .i64 0, .int .i64 0, .slice none 0 0, .int .i64 0, .int .i64 0, .int .i64 0, .int .i64 0]) ?_ 4 _ rfl; (with_reducible repeat (first | refine blk_drewN ?_ _ | refine blk_drew ?_ | refine blk_alloc ?_ _)); refine blk_put (cs := #[.string ((rd_T40 l0_4 x3_1).f0), .string ((rd_T40 l0_4 x3_1).f1), .int .u8 ((rd_T40 l0_4 x3_1).f2.f0.f0), .int .u8 0, .int .u8 0, .int .u8 0, .int .i64 0, .int .i64 0, .int .i64 0, .slice none 0 0, .int .i64 0, .int .i64 0, .int .i64 0, .int .i64 0]) ?_ 3 _ rfl; (with_reducible repeat (first | refine blk_drewN ?_ _ | refine blk_drew ?_ | refine blk_alloc ?_ _)); refine blk_put (cs := #[.string ((rd_T40 l0_4 x3_1).f0), .string ((rd_T40 l0_4 x3_1).f1), .int .u8 0, .int .u8 0, .int .u8 0, .int .u8 0, .int .i64 0, .int .i64 0, .int .i64 0, .slice none 0 0, .int .i64 0, .int .i64 0, .int .i64 0, .int .i64 0]) ?_ 2 _ rfl; (with_reducible repeat (first | refine blk_drewN ?_ _ | refine blk_drew ?_ | refine blk_alloc ?_ _)); refine blk_put (cs := #[.string ((rd_T40 l0_4 x3_1).f0), .string (⟨#[]⟩ : ByteArray), .int .u8 0, .int .u8 0, .int .u8 0, .int .u8 0, .int .i64 0, .int .i64 0, .int .i64 0, .slice none 0 0, .int .i64 0, .int .i64 0, .int .i64 0, .int .i64 0]) ?_ 1 _ rfl; (with_reducible repeat (first | refine blk_drewN ?_ _ | refine blk_drew ?_ | refine blk_alloc ?_ _)); refine blk_put (cs := #[.string (⟨#[]⟩ : ByteArray), .string (⟨#[]⟩ : ByteArray), .int .u8 0, .int .u8 0, .int .u8 0, .int .u8 0, .int .i64 0, .int .i64 0, .int .i64 0, .slice none 0 0, .int .i64 0, .int .i64 0, .int .i64 0, .int .i64 0]) ?_ 0 _ rfl; (with_reducible repeat (first | refine blk_drewN ?_ _ | refine blk_drew ?_ | refine blk_alloc ?_ _)); exact BK162.out⟩, ⟨by repeat (first | (with_reducible first | exact HB.out | apply below_alloc | apply pw_below_drewN | apply below_drew1 | refine below_set ?_ GE160.out | refine below_set ?_ GE162.out) | exact HB.out)⟩⟩
      case rest =>
       clear HC9
       try clear c1
       try clear p1
       try clear q1
       try clear hx1
       try clear c2
       try clear c2b0
       try clear c2b1
       try clear p2
       try clear c7
       try clear c7b0
       try clear c8
       try clear c8b0
       try clear c10
       try clear c12
       try clear c14
       try clear c14b0
       try clear c14b1
       try clear c15
       try clear c16
       try clear p16
       try clear q16
       try clear hx16
       try clear c17
       try clear c17b0
       try clear c17b1
       try clear c18
       try clear c20
       try clear hcz10_0
       try clear hcz10_1
       try clear hcz10_2
       try clear hcz10_3
       try clear hcz10_4
       try clear hcz10_5
       try clear hcz10_6
       try clear hcz10_7
       try clear hcz10_8
       try clear hcz13_0
       try clear hcz13_1
       try clear hcz13_10
       try clear hcz13_11
       try clear hcz13_12
       try clear hcz13_13
       try clear hcz13_2
       try clear hcz13_3
       try clear hcz13_4
       try clear hcz13_5
       try clear hcz13_6
       try clear hcz13_7
       try clear hcz13_8
       try clear hcz13_9
       try clear hcz16_0
       try clear hcz16_1
       try clear hcz16_10
       try clear hcz16_11
       try clear hcz16_12
       try clear hcz16_13
       try clear hcz16_2
       try clear hcz16_3
       try clear hcz16_4
       try clear hcz16_5
       try clear hcz16_6
       try clear hcz16_7
       try clear hcz16_8
       try clear hcz16_9
       try clear hcz19_0
       try clear hcz19_1
       try clear hcz19_10
       try clear hcz19_11
       try clear hcz19_12
       try clear hcz19_13
       try clear hcz19_2
       try clear hcz19_3
       try clear hcz19_4
       try clear hcz19_5
       try clear hcz19_6
       try clear hcz19_7
       try clear hcz19_8
       try clear hcz19_9
       try clear hcz21_0
       try clear hcz21_1
       try clear hcz21_10
       try clear hcz21_11
       try clear hcz21_12
       try clear hcz21_13
       try clear hcz21_2
       try clear hcz21_3
       try clear hcz21_4
       try clear hcz21_5
       try clear hcz21_6
       try clear hcz21_7
       try clear hcz21_8
       try clear hcz21_9
       try clear hcz4_0
       try clear hcz4_1
       try clear hcz4_2
       try clear hcz4_3
       try clear hcz4_4
       try clear hcz4_5
       try clear hcz4_6
       try clear hcz4_7
       try clear hcz4_8
       try clear hcz6_0
       try clear hcz6_1
       try clear hcz6_2
       try clear hcz6_3
       try clear hcz6_4
       try clear hcz6_5
       try clear hcz6_6
       try clear hcz6_7
       try clear hcz6_8
       try clear hfz10_0
       try clear hfz10_1
       try clear hfz10_2
       try clear hfz10_3
       try clear hfz10_4
       try clear hfz10_5
       try clear hfz10_6
       try clear hfz10_7
       try clear hfz10_8
       try clear hfz13_0
       try clear hfz13_1
       try clear hfz13_10
       try clear hfz13_11
       try clear hfz13_12
       try clear hfz13_13
       try clear hfz13_2
       try clear hfz13_3
       try clear hfz13_4
       try clear hfz13_5
       try clear hfz13_6
       try clear hfz13_7
       try clear hfz13_8
       try clear hfz13_9
       try clear hfz16_0
       try clear hfz16_1
       try clear hfz16_10
       try clear hfz16_11
       try clear hfz16_12
       try clear hfz16_13
       try clear hfz16_2
       try clear hfz16_3
       try clear hfz16_4
       try clear hfz16_5
       try clear hfz16_6
       try clear hfz16_7
       try clear hfz16_8
       try clear hfz16_9
       try clear hfz19_0
       try clear hfz19_1
       try clear hfz19_10
       try clear hfz19_11
       try clear hfz19_12
       try clear hfz19_13
       try clear hfz19_2
       try clear hfz19_3
       try clear hfz19_4
       try clear hfz19_5
       try clear hfz19_6
       try clear hfz19_7
       try clear hfz19_8
       try clear hfz19_9
       try clear hfz21_0
       try clear hfz21_1
       try clear hfz21_10
       try clear hfz21_11
       try clear hfz21_12
       try clear hfz21_13
       try clear hfz21_2
       try clear hfz21_3
       try clear hfz21_4
       try clear hfz21_5
       try clear hfz21_6
       try clear hfz21_7
       try clear hfz21_8
       try clear hfz21_9
       try clear hfz4_0
       try clear hfz4_1
       try clear hfz4_2
       try clear hfz4_3
       try clear hfz4_4
       try clear hfz4_5
       try clear hfz4_6
       try clear hfz4_7
       try clear hfz4_8
       try clear hfz6_0
       try clear hfz6_1
       try clear hfz6_2
       try clear hfz6_3
       try clear hfz6_4
       try clear hfz6_5
       try clear hfz6_6
       try clear hfz6_7
       try clear hfz6_8
       try clear hx161_0
       try clear hx161_1
       try clear hx161_10
       try clear hx161_11
       try clear hx161_12
       try clear hx161_13
       try clear hx161_2
       try clear hx161_3
       try clear hx161_4
       try clear hx161_5
       try clear hx161_6
       try clear hx161_7
       try clear hx161_8
       try clear hx161_9
       try clear p161
       try clear p2
       try clear q161
       obtain ⟨kq, x37_8, rfl, HA, HJ8, BK160, BK162, HB⟩ := hcut
       cases kq with
       | zero => exact absurd HA.out (by simp [wharfingerlaw13_Few.j1])
       | succ kj8 =>
        have H := HA.out
        clear HA
        simp only [wharfingerlaw13_Few.j1] at H
        by_cases c22 : x37_8 = true
        ·
         subst c22
         have H1 : (some false) = some r := by rw [if_pos rfl] at H; exact H
         clear H
         have H := H1
         clear H1
         obtain rfl := Option.some.inj H
         go_wp2
         go_ret
         exact ⟨by first | rfl | (simp [errW_none, errW_some] <;> rfl) | (simp [*, errW_none, errW_some] <;> rfl), by repeat (first | (with_reducible first | exact HB.out | apply below_alloc | apply pw_below_drewN | apply below_drew1 | refine below_set ?_ GE160.out | refine below_set ?_ GE162.out) | exact HB.out)⟩
        ·
         replace c22 := Bool.eq_false_iff.mpr c22
         subst c22
         have H1 : (wharfingerlaw13_Few.l1 kj8 x3_1 0 a0_0 a0_1 a0_2 a0_3 l0_4 a0_5 a0_6 a0_7 a0_8 ((rd_T40 l0_4 x3_1).f0) ((rd_T40 l0_4 x3_1).f1) ((rd_T40 l0_4 x3_1).f2.f0.f0) ((rd_T40 l0_4 x3_1).f2.f0.f1) ((rd_T40 l0_4 x3_1).f2.f0.f2) ((rd_T40 l0_4 x3_1).f2.f0.f3) ((rd_T40 l0_4 x3_1).f2.f1) ((rd_T40 l0_4 x3_1).f3) ((rd_T40 l0_4 x3_1).f4) ((rd_T40 l0_4 x3_1).f5) ((rd_T40 l0_4 x3_1).f6) ((rd_T40 l0_4 x3_1).f7) ((rd_T40 l0_4 x3_1).f8) ((rd_T40 l0_4 x3_1).f9)) = some r := by rw [if_neg (show ¬ (false = true) by decide)] at H; exact H
         clear H
         have H := H1
         clear H1
         have H' := Aside0.mk H
         clear H
         go_wp2
         go_loopg [5] kj8 (fun kq v5 w' => ∃ (x5_3 : Int), v5 = .int .i64 x5_3 ∧ Aside0 (wharfingerlaw13_Few.l1 kq x3_1 x5_3 a0_0 a0_1 a0_2 a0_3 l0_4 a0_5 a0_6 a0_7 a0_8 ((rd_T40 l0_4 x3_1).f0) ((rd_T40 l0_4 x3_1).f1) ((rd_T40 l0_4 x3_1).f2.f0.f0) ((rd_T40 l0_4 x3_1).f2.f0.f1) ((rd_T40 l0_4 x3_1).f2.f0.f2) ((rd_T40 l0_4 x3_1).f2.f0.f3) ((rd_T40 l0_4 x3_1).f2.f1) ((rd_T40 l0_4 x3_1).f3) ((rd_T40 l0_4 x3_1).f4) ((rd_T40 l0_4 x3_1).f5) ((rd_T40 l0_4 x3_1).f6) ((rd_T40 l0_4 x3_1).f7) ((rd_T40 l0_4 x3_1).f8) ((rd_T40 l0_4 x3_1).f9) = some r) ∧ Aside0 (kq ≤ kj8) ∧ Aside0 (w'.heap[gb160]? = some (.cells #[.int .u8 a0_0, .int .u8 a0_1, .int .u8 a0_2, .int .u8 a0_3, (.slice (some ad161) l0_4.length c0_4), .int .i64 a0_5, .int .i64 a0_6, .int .i64 a0_7, .bool a0_8] 26 (0, 0))) ∧ Aside0 (w'.heap[gb162]? = some (.cells #[.string ((rd_T40 l0_4 x3_1).f0), .string ((rd_T40 l0_4 x3_1).f1), .int .u8 ((rd_T40 l0_4 x3_1).f2.f0.f0), .int .u8 ((rd_T40 l0_4 x3_1).f2.f0.f1), .int .u8 ((rd_T40 l0_4 x3_1).f2.f0.f2), .int .u8 ((rd_T40 l0_4 x3_1).f2.f0.f3), .int .i64 ((rd_T40 l0_4 x3_1).f2.f1), .int .i64 ((rd_T40 l0_4 x3_1).f3), .int .i64 ((rd_T40 l0_4 x3_1).f4), (.slice A161_9 ((rd_T40 l0_4 x3_1).f5).length c161_9), .int .i64 ((rd_T40 l0_4 x3_1).f6), .int .i64 ((rd_T40 l0_4 x3_1).f7), .int .i64 ((rd_T40 l0_4 x3_1).f8), .int .i64 ((rd_T40 l0_4 x3_1).f9)] 40 (0, 0))) ∧ Aside0 (Below w.heap.size w w'))
         case atStart => exact ⟨(0), (by first | rfl | (simp; done) | (simp [*]; done)), H', ⟨Nat.le_refl _⟩, ⟨by (with_reducible repeat (first | refine blk_drewN ?_ _ | refine blk_drew ?_ | refine blk_alloc ?_ _)); exact BK160.out⟩, ⟨by (with_reducible repeat (first | refine blk_drewN ?_ _ | refine blk_drew ?_ | refine blk_alloc ?_ _)); exact BK162.out⟩, ⟨by repeat (first | (with_reducible first | exact HB.out | apply below_alloc | apply pw_below_drewN | apply below_drew1 | refine below_set ?_ GE160.out | refine below_set ?_ GE162.out) | exact HB.out)⟩⟩
         case round =>
          clear H'
          try clear c1
          try clear p1
          try clear q1
          try clear hx1
          try clear c2
          try clear c2b0
          try clear c2b1
          try clear p2
          try clear c7
          try clear c7b0
          try clear c8
          try clear c8b0
          try clear c10
          try clear c12
          try clear c14
          try clear c14b0
          try clear c14b1
          try clear c15
          try clear c16
          try clear p16
          try clear q16
          try clear hx16
          try clear c17
          try clear c17b0
          try clear c17b1
          try clear c18
          try clear c20
          try clear c22
          try clear hcz10_0
          try clear hcz10_1
          try clear hcz10_2
          try clear hcz10_3
          try clear hcz10_4
          try clear hcz10_5
          try clear hcz10_6
          try clear hcz10_7
          try clear hcz10_8
          try clear hcz13_0
          try clear hcz13_1
          try clear hcz13_10
          try clear hcz13_11
          try clear hcz13_12
          try clear hcz13_13
          try clear hcz13_2
          try clear hcz13_3
          try clear hcz13_4
          try clear hcz13_5
          try clear hcz13_6
          try clear hcz13_7
          try clear hcz13_8
          try clear hcz13_9
          try clear hcz16_0
          try clear hcz16_1
          try clear hcz16_10
          try clear hcz16_11
          try clear hcz16_12
          try clear hcz16_13
          try clear hcz16_2
          try clear hcz16_3
          try clear hcz16_4
          try clear hcz16_5
          try clear hcz16_6
          try clear hcz16_7
          try clear hcz16_8
          try clear hcz16_9
          try clear hcz19_0
          try clear hcz19_1
          try clear hcz19_10
          try clear hcz19_11
          try clear hcz19_12
          try clear hcz19_13
          try clear hcz19_2
          try clear hcz19_3
          try clear hcz19_4
          try clear hcz19_5
          try clear hcz19_6
          try clear hcz19_7
          try clear hcz19_8
          try clear hcz19_9
          try clear hcz21_0
          try clear hcz21_1
          try clear hcz21_10
          try clear hcz21_11
          try clear hcz21_12
          try clear hcz21_13
          try clear hcz21_2
          try clear hcz21_3
          try clear hcz21_4
          try clear hcz21_5
          try clear hcz21_6
          try clear hcz21_7
          try clear hcz21_8
          try clear hcz21_9
          try clear hcz4_0
          try clear hcz4_1
          try clear hcz4_2
          try clear hcz4_3
          try clear hcz4_4
          try clear hcz4_5
          try clear hcz4_6
          try clear hcz4_7
          try clear hcz4_8
          try clear hcz6_0
          try clear hcz6_1
          try clear hcz6_2
          try clear hcz6_3
          try clear hcz6_4
          try clear hcz6_5
          try clear hcz6_6
          try clear hcz6_7
          try clear hcz6_8
          try clear hfz10_0
          try clear hfz10_1
          try clear hfz10_2
          try clear hfz10_3
          try clear hfz10_4
          try clear hfz10_5
          try clear hfz10_6
          try clear hfz10_7
          try clear hfz10_8
          try clear hfz13_0
          try clear hfz13_1
          try clear hfz13_10
          try clear hfz13_11
          try clear hfz13_12
          try clear hfz13_13
          try clear hfz13_2
          try clear hfz13_3
          try clear hfz13_4
          try clear hfz13_5
          try clear hfz13_6
          try clear hfz13_7
          try clear hfz13_8
          try clear hfz13_9
          try clear hfz16_0
          try clear hfz16_1
          try clear hfz16_10
          try clear hfz16_11
          try clear hfz16_12
          try clear hfz16_13
          try clear hfz16_2
          try clear hfz16_3
          try clear hfz16_4
          try clear hfz16_5
          try clear hfz16_6
          try clear hfz16_7
          try clear hfz16_8
          try clear hfz16_9
          try clear hfz19_0
          try clear hfz19_1
          try clear hfz19_10
          try clear hfz19_11
          try clear hfz19_12
          try clear hfz19_13
          try clear hfz19_2
          try clear hfz19_3
          try clear hfz19_4
          try clear hfz19_5
          try clear hfz19_6
          try clear hfz19_7
          try clear hfz19_8
          try clear hfz19_9
          try clear hfz21_0
          try clear hfz21_1
          try clear hfz21_10
          try clear hfz21_11
          try clear hfz21_12
          try clear hfz21_13
          try clear hfz21_2
          try clear hfz21_3
          try clear hfz21_4
          try clear hfz21_5
          try clear hfz21_6
          try clear hfz21_7
          try clear hfz21_8
          try clear hfz21_9
          try clear hfz4_0
          try clear hfz4_1
          try clear hfz4_2
          try clear hfz4_3
          try clear hfz4_4
          try clear hfz4_5
          try clear hfz4_6
          try clear hfz4_7
          try clear hfz4_8
          try clear hfz6_0
          try clear hfz6_1
          try clear hfz6_2
          try clear hfz6_3
          try clear hfz6_4
          try clear hfz6_5
          try clear hfz6_6
          try clear hfz6_7
          try clear hfz6_8
          try clear hx161_0
          try clear hx161_1
          try clear hx161_10
          try clear hx161_11
          try clear hx161_12
          try clear hx161_13
          try clear hx161_2
          try clear hx161_3
          try clear hx161_4
          try clear hx161_5
          try clear hx161_6
          try clear hx161_7
          try clear hx161_8
          try clear hx161_9
          try clear p1
          try clear p16
          try clear p161
          try clear p2
          try clear q1
          try clear q16
          try clear q161
          obtain ⟨x5_3, rfl, HA, HK3, BK160, BK162, HB⟩ := hrel
          cases gk with
          | zero => exact absurd HA.out (by simp [wharfingerlaw13_Few.l1])
          | succ k3 =>
           have H := HA.out
           clear HA
           simp only [wharfingerlaw13_Few.l1] at H
           by_cases c23 : x5_3 < (((rd_T40 l0_4 x3_1).f5).length : Int)
           ·
            rw [if_pos c23] at H
            have c23b0 : decide (x5_3 < (((rd_T40 l0_4 x3_1).f5).length : Int)) = true := decide_eq_true c23
            clear c23
            by_cases c24 : 0 ≤ x5_3
            ·
             rw [if_pos c24] at H
             have c24b0 : decide (0 ≤ x5_3) = true := decide_eq_true c24
             clear c24
             by_cases c25 : (((rd_T44 ((rd_T40 l0_4 x3_1).f5) x5_3).f1).size : Int) > 300
             ·
              rw [if_pos c25] at H
              have c25b0 : decide (300 < (((rd_T44 ((rd_T40 l0_4 x3_1).f5) x5_3).f1).size : Int)) = true := decide_eq_true c25
              have c25b1 : decide (300 < ((rd_T44 ((rd_T40 l0_4 x3_1).f5) x5_3).f1).size) = true := decide_eq_true (by omega)
              clear c25
              obtain rfl := Option.some.inj H
              have hnb26 := NB162_160.out
              have hnc26 := NB160_162.out
              have hcz27_0 : wr.cell? ⟨gb162, 0, none⟩ = some (.string ((rd_T40 l0_4 x3_1).f0)) := (blk_cell BK162.out 0).trans rfl
              have hcz27_1 : wr.cell? ⟨gb162, 1, none⟩ = some (.string ((rd_T40 l0_4 x3_1).f1)) := (blk_cell BK162.out 1).trans rfl
              have hcz27_2 : wr.cell? ⟨gb162, 2, none⟩ = some (.int .u8 ((rd_T40 l0_4 x3_1).f2.f0.f0)) := (blk_cell BK162.out 2).trans rfl
              have hcz27_3 : wr.cell? ⟨gb162, 3, none⟩ = some (.int .u8 ((rd_T40 l0_4 x3_1).f2.f0.f1)) := (blk_cell BK162.out 3).trans rfl
              have hcz27_4 : wr.cell? ⟨gb162, 4, none⟩ = some (.int .u8 ((rd_T40 l0_4 x3_1).f2.f0.f2)) := (blk_cell BK162.out 4).trans rfl
              have hcz27_5 : wr.cell? ⟨gb162, 5, none⟩ = some (.int .u8 ((rd_T40 l0_4 x3_1).f2.f0.f3)) := (blk_cell BK162.out 5).trans rfl
              have hcz27_6 : wr.cell? ⟨gb162, 6, none⟩ = some (.int .i64 ((rd_T40 l0_4 x3_1).f2.f1)) := (blk_cell BK162.out 6).trans rfl
              have hcz27_7 : wr.cell? ⟨gb162, 7, none⟩ = some (.int .i64 ((rd_T40 l0_4 x3_1).f3)) := (blk_cell BK162.out 7).trans rfl
              have hcz27_8 : wr.cell? ⟨gb162, 8, none⟩ = some (.int .i64 ((rd_T40 l0_4 x3_1).f4)) := (blk_cell BK162.out 8).trans rfl
              have hcz27_9 : wr.cell? ⟨gb162, 9, none⟩ = some (.slice A161_9 ((rd_T40 l0_4 x3_1).f5).length c161_9) := (blk_cell BK162.out 9).trans rfl
              have hcz27_10 : wr.cell? ⟨gb162, 10, none⟩ = some (.int .i64 ((rd_T40 l0_4 x3_1).f6)) := (blk_cell BK162.out 10).trans rfl
              have hcz27_11 : wr.cell? ⟨gb162, 11, none⟩ = some (.int .i64 ((rd_T40 l0_4 x3_1).f7)) := (blk_cell BK162.out 11).trans rfl
              have hcz27_12 : wr.cell? ⟨gb162, 12, none⟩ = some (.int .i64 ((rd_T40 l0_4 x3_1).f8)) := (blk_cell BK162.out 12).trans rfl
              have hcz27_13 : wr.cell? ⟨gb162, 13, none⟩ = some (.int .i64 ((rd_T40 l0_4 x3_1).f9)) := (blk_cell BK162.out 13).trans rfl
              have hfz27_0 := blk_frozen BK162.out 0
              have hfz27_1 := blk_frozen BK162.out 1
              have hfz27_2 := blk_frozen BK162.out 2
              have hfz27_3 := blk_frozen BK162.out 3
              have hfz27_4 := blk_frozen BK162.out 4
              have hfz27_5 := blk_frozen BK162.out 5
              have hfz27_6 := blk_frozen BK162.out 6
              have hfz27_7 := blk_frozen BK162.out 7
              have hfz27_8 := blk_frozen BK162.out 8
              have hfz27_9 := blk_frozen BK162.out 9
              have hfz27_10 := blk_frozen BK162.out 10
              have hfz27_11 := blk_frozen BK162.out 11
              have hfz27_12 := blk_frozen BK162.out 12
              have hfz27_13 := blk_frozen BK162.out 13
              have p163 : 0 ≤ (x5_3 : Int) := of_decide_eq_true (by first | (with_reducible assumption) | assumption)
              have q163 : x5_3 < (((rd_T40 l0_4 x3_1).f5).length : Int) := of_decide_eq_true (by first | (with_reducible assumption) | assumption)
              obtain ⟨ad163, e163, hx163_0, hx163_1, hx163_2⟩ := at_T44 HR161_9.out x5_3 p163 q163
              cases e163
              replace hx163_0 := (HB.out.cell (World.block_lt_of_cell? w _ hx163_0)).trans hx163_0
              replace hx163_1 := (HB.out.cell (World.block_lt_of_cell? w _ hx163_1)).trans hx163_1
              replace hx163_2 := (HB.out.cell (World.block_lt_of_cell? w _ hx163_2)).trans hx163_2
              replace p163 := eq_true p163
              replace q163 := eq_true q163
              go_wp2
              go_ret
              exact ⟨by first | rfl | (simp [errW_none, errW_some] <;> rfl) | (simp [*, errW_none, errW_some] <;> rfl), by repeat (first | (with_reducible first | exact HB.out | apply below_alloc | apply pw_below_drewN | apply below_drew1 | refine below_set ?_ GE160.out | refine below_set ?_ GE162.out) | exact HB.out)⟩
             ·
              rw [if_neg c25] at H
              have c25b0 : decide (300 < (((rd_T44 ((rd_T40 l0_4 x3_1).f5) x5_3).f1).size : Int)) = false := decide_eq_false c25
              have c25b1 : decide (300 < ((rd_T44 ((rd_T40 l0_4 x3_1).f5) x5_3).f1).size) = false := decide_eq_false (by omega)
              clear c25
              by_cases c28 : (((rd_T44 ((rd_T40 l0_4 x3_1).f5) x5_3).f2).size : Int) > 300
              ·
               rw [if_pos c28] at H
               have c28b0 : decide (300 < (((rd_T44 ((rd_T40 l0_4 x3_1).f5) x5_3).f2).size : Int)) = true := decide_eq_true c28
               have c28b1 : decide (300 < ((rd_T44 ((rd_T40 l0_4 x3_1).f5) x5_3).f2).size) = true := decide_eq_true (by omega)
               clear c28
               obtain rfl := Option.some.inj H
               have hnb29 := NB162_160.out
               have hnc29 := NB160_162.out
               have hcz30_0 : wr.cell? ⟨gb162, 0, none⟩ = some (.string ((rd_T40 l0_4 x3_1).f0)) := (blk_cell BK162.out 0).trans rfl
               have hcz30_1 : wr.cell? ⟨gb162, 1, none⟩ = some (.string ((rd_T40 l0_4 x3_1).f1)) := (blk_cell BK162.out 1).trans rfl
               have hcz30_2 : wr.cell? ⟨gb162, 2, none⟩ = some (.int .u8 ((rd_T40 l0_4 x3_1).f2.f0.f0)) := (blk_cell BK162.out 2).trans rfl
               have hcz30_3 : wr.cell? ⟨gb162, 3, none⟩ = some (.int .u8 ((rd_T40 l0_4 x3_1).f2.f0.f1)) := (blk_cell BK162.out 3).trans rfl
               have hcz30_4 : wr.cell? ⟨gb162, 4, none⟩ = some (.int .u8 ((rd_T40 l0_4 x3_1).f2.f0.f2)) := (blk_cell BK162.out 4).trans rfl
               have hcz30_5 : wr.cell? ⟨gb162, 5, none⟩ = some (.int .u8 ((rd_T40 l0_4 x3_1).f2.f0.f3)) := (blk_cell BK162.out 5).trans rfl
               have hcz30_6 : wr.cell? ⟨gb162, 6, none⟩ = some (.int .i64 ((rd_T40 l0_4 x3_1).f2.f1)) := (blk_cell BK162.out 6).trans rfl
               have hcz30_7 : wr.cell? ⟨gb162, 7, none⟩ = some (.int .i64 ((rd_T40 l0_4 x3_1).f3)) := (blk_cell BK162.out 7).trans rfl
               have hcz30_8 : wr.cell? ⟨gb162, 8, none⟩ = some (.int .i64 ((rd_T40 l0_4 x3_1).f4)) := (blk_cell BK162.out 8).trans rfl
               have hcz30_9 : wr.cell? ⟨gb162, 9, none⟩ = some (.slice A161_9 ((rd_T40 l0_4 x3_1).f5).length c161_9) := (blk_cell BK162.out 9).trans rfl
               have hcz30_10 : wr.cell? ⟨gb162, 10, none⟩ = some (.int .i64 ((rd_T40 l0_4 x3_1).f6)) := (blk_cell BK162.out 10).trans rfl
               have hcz30_11 : wr.cell? ⟨gb162, 11, none⟩ = some (.int .i64 ((rd_T40 l0_4 x3_1).f7)) := (blk_cell BK162.out 11).trans rfl
               have hcz30_12 : wr.cell? ⟨gb162, 12, none⟩ = some (.int .i64 ((rd_T40 l0_4 x3_1).f8)) := (blk_cell BK162.out 12).trans rfl
               have hcz30_13 : wr.cell? ⟨gb162, 13, none⟩ = some (.int .i64 ((rd_T40 l0_4 x3_1).f9)) := (blk_cell BK162.out 13).trans rfl
               have hfz30_0 := blk_frozen BK162.out 0
               have hfz30_1 := blk_frozen BK162.out 1
               have hfz30_2 := blk_frozen BK162.out 2
               have hfz30_3 := blk_frozen BK162.out 3
               have hfz30_4 := blk_frozen BK162.out 4
               have hfz30_5 := blk_frozen BK162.out 5
               have hfz30_6 := blk_frozen BK162.out 6
               have hfz30_7 := blk_frozen BK162.out 7
               have hfz30_8 := blk_frozen BK162.out 8
               have hfz30_9 := blk_frozen BK162.out 9
               have hfz30_10 := blk_frozen BK162.out 10
               have hfz30_11 := blk_frozen BK162.out 11
               have hfz30_12 := blk_frozen BK162.out 12
               have hfz30_13 := blk_frozen BK162.out 13
               have p163 : 0 ≤ (x5_3 : Int) := of_decide_eq_true (by first | (with_reducible assumption) | assumption)
               have q163 : x5_3 < (((rd_T40 l0_4 x3_1).f5).length : Int) := of_decide_eq_true (by first | (with_reducible assumption) | assumption)
               obtain ⟨ad163, e163, hx163_0, hx163_1, hx163_2⟩ := at_T44 HR161_9.out x5_3 p163 q163
               cases e163
               replace hx163_0 := (HB.out.cell (World.block_lt_of_cell? w _ hx163_0)).trans hx163_0
               replace hx163_1 := (HB.out.cell (World.block_lt_of_cell? w _ hx163_1)).trans hx163_1
               replace hx163_2 := (HB.out.cell (World.block_lt_of_cell? w _ hx163_2)).trans hx163_2
               replace p163 := eq_true p163
               replace q163 := eq_true q163
               have p164 : 0 ≤ (x5_3 : Int) := of_decide_eq_true (by first | (with_reducible assumption) | assumption)
               have q164 : x5_3 < (((rd_T40 l0_4 x3_1).f5).length : Int) := of_decide_eq_true (by first | (with_reducible assumption) | assumption)
               obtain ⟨ad164, e164, hx164_0, hx164_1, hx164_2⟩ := at_T44 HR161_9.out x5_3 p164 q164
               obtain rfl : ad163 = ad164 := (by injection e164)
               replace hx164_0 := (HB.out.cell (World.block_lt_of_cell? w _ hx164_0)).trans hx164_0
               replace hx164_1 := (HB.out.cell (World.block_lt_of_cell? w _ hx164_1)).trans hx164_1
               replace hx164_2 := (HB.out.cell (World.block_lt_of_cell? w _ hx164_2)).trans hx164_2
               replace p164 := eq_true p164
               replace q164 := eq_true q164
               go_wp2
               go_ret
               exact ⟨by first | rfl | (simp [errW_none, errW_some] <;> rfl) | (simp [*, errW_none, errW_some] <;> rfl), by repeat (first | (with_reducible first | exact HB.out | apply below_alloc | apply pw_below_drewN | apply below_drew1 | refine below_set ?_ GE160.out | refine below_set ?_ GE162.out) | exact HB.out)⟩
              ·
               rw [if_neg c28] at H
               have c28b0 : decide (300 < (((rd_T44 ((rd_T40 l0_4 x3_1).f5) x5_3).f2).size : Int)) = false := decide_eq_false c28
               have c28b1 : decide (300 < ((rd_T44 ((rd_T40 l0_4 x3_1).f5) x5_3).f2).size) = false := decide_eq_false (by omega)
               clear c28
               have H' := Aside0.mk H
               clear H
               have hnb31 := NB162_160.out
               have hnc31 := NB160_162.out
               have hcz32_0 : wr.cell? ⟨gb162, 0, none⟩ = some (.string ((rd_T40 l0_4 x3_1).f0)) := (blk_cell BK162.out 0).trans rfl
               have hcz32_1 : wr.cell? ⟨gb162, 1, none⟩ = some (.string ((rd_T40 l0_4 x3_1).f1)) := (blk_cell BK162.out 1).trans rfl
               have hcz32_2 : wr.cell? ⟨gb162, 2, none⟩ = some (.int .u8 ((rd_T40 l0_4 x3_1).f2.f0.f0)) := (blk_cell BK162.out 2).trans rfl
               have hcz32_3 : wr.cell? ⟨gb162, 3, none⟩ = some (.int .u8 ((rd_T40 l0_4 x3_1).f2.f0.f1)) := (blk_cell BK162.out 3).trans rfl
               have hcz32_4 : wr.cell? ⟨gb162, 4, none⟩ = some (.int .u8 ((rd_T40 l0_4 x3_1).f2.f0.f2)) := (blk_cell BK162.out 4).trans rfl
               have hcz32_5 : wr.cell? ⟨gb162, 5, none⟩ = some (.int .u8 ((rd_T40 l0_4 x3_1).f2.f0.f3)) := (blk_cell BK162.out 5).trans rfl
               have hcz32_6 : wr.cell? ⟨gb162, 6, none⟩ = some (.int .i64 ((rd_T40 l0_4 x3_1).f2.f1)) := (blk_cell BK162.out 6).trans rfl
               have hcz32_7 : wr.cell? ⟨gb162, 7, none⟩ = some (.int .i64 ((rd_T40 l0_4 x3_1).f3)) := (blk_cell BK162.out 7).trans rfl
               have hcz32_8 : wr.cell? ⟨gb162, 8, none⟩ = some (.int .i64 ((rd_T40 l0_4 x3_1).f4)) := (blk_cell BK162.out 8).trans rfl
               have hcz32_9 : wr.cell? ⟨gb162, 9, none⟩ = some (.slice A161_9 ((rd_T40 l0_4 x3_1).f5).length c161_9) := (blk_cell BK162.out 9).trans rfl
               have hcz32_10 : wr.cell? ⟨gb162, 10, none⟩ = some (.int .i64 ((rd_T40 l0_4 x3_1).f6)) := (blk_cell BK162.out 10).trans rfl
               have hcz32_11 : wr.cell? ⟨gb162, 11, none⟩ = some (.int .i64 ((rd_T40 l0_4 x3_1).f7)) := (blk_cell BK162.out 11).trans rfl
               have hcz32_12 : wr.cell? ⟨gb162, 12, none⟩ = some (.int .i64 ((rd_T40 l0_4 x3_1).f8)) := (blk_cell BK162.out 12).trans rfl
               have hcz32_13 : wr.cell? ⟨gb162, 13, none⟩ = some (.int .i64 ((rd_T40 l0_4 x3_1).f9)) := (blk_cell BK162.out 13).trans rfl
               have hfz32_0 := blk_frozen BK162.out 0
               have hfz32_1 := blk_frozen BK162.out 1
               have hfz32_2 := blk_frozen BK162.out 2
               have hfz32_3 := blk_frozen BK162.out 3
               have hfz32_4 := blk_frozen BK162.out 4
               have hfz32_5 := blk_frozen BK162.out 5
               have hfz32_6 := blk_frozen BK162.out 6
               have hfz32_7 := blk_frozen BK162.out 7
               have hfz32_8 := blk_frozen BK162.out 8
               have hfz32_9 := blk_frozen BK162.out 9
               have hfz32_10 := blk_frozen BK162.out 10
               have hfz32_11 := blk_frozen BK162.out 11
               have hfz32_12 := blk_frozen BK162.out 12
               have hfz32_13 := blk_frozen BK162.out 13
               have p163 : 0 ≤ (x5_3 : Int) := of_decide_eq_true (by first | (with_reducible assumption) | assumption)
               have q163 : x5_3 < (((rd_T40 l0_4 x3_1).f5).length : Int) := of_decide_eq_true (by first | (with_reducible assumption) | assumption)
               obtain ⟨ad163, e163, hx163_0, hx163_1, hx163_2⟩ := at_T44 HR161_9.out x5_3 p163 q163
               cases e163
               replace hx163_0 := (HB.out.cell (World.block_lt_of_cell? w _ hx163_0)).trans hx163_0
               replace hx163_1 := (HB.out.cell (World.block_lt_of_cell? w _ hx163_1)).trans hx163_1
               replace hx163_2 := (HB.out.cell (World.block_lt_of_cell? w _ hx163_2)).trans hx163_2
               replace p163 := eq_true p163
               replace q163 := eq_true q163
               have p164 : 0 ≤ (x5_3 : Int) := of_decide_eq_true (by first | (with_reducible assumption) | assumption)
               have q164 : x5_3 < (((rd_T40 l0_4 x3_1).f5).length : Int) := of_decide_eq_true (by first | (with_reducible assumption) | assumption)
               obtain ⟨ad164, e164, hx164_0, hx164_1, hx164_2⟩ := at_T44 HR161_9.out x5_3 p164 q164
               obtain rfl : ad163 = ad164 := (by injection e164)
               replace hx164_0 := (HB.out.cell (World.block_lt_of_cell? w _ hx164_0)).trans hx164_0
               replace hx164_1 := (HB.out.cell (World.block_lt_of_cell? w _ hx164_1)).trans hx164_1
               replace hx164_2 := (HB.out.cell (World.block_lt_of_cell? w _ hx164_2)).trans hx164_2
               replace p164 := eq_true p164
               replace q164 := eq_true q164
               go_wp2
               go_roundg k3
               case measure => have := HK1.out; have := HJ8.out; have := HK3.out; omega
               case rel => exact ⟨(wrap64 (x5_3 + 1)), (by first | rfl | (simp; done) | (simp [*]; done)), H', ⟨by have := HK1.out; have := HJ8.out; have := HK3.out; omega⟩, ⟨by (with_reducible repeat (first | refine blk_drewN ?_ _ | refine blk_drew ?_ | refine blk_alloc ?_ _)); exact BK160.out⟩, ⟨by (with_reducible repeat (first | refine blk_drewN ?_ _ | refine blk_drew ?_ | refine blk_alloc ?_ _)); exact BK162.out⟩, ⟨by repeat (first | (with_reducible first | exact HB.out | apply below_alloc | apply pw_below_drewN | apply below_drew1 | refine below_set ?_ GE160.out | refine below_set ?_ GE162.out) | exact HB.out)⟩⟩
            ·
             rw [if_neg c24] at H
             exact absurd H (by simp)
           ·
            rw [if_neg c23] at H
            have c23b0 : decide (x5_3 < (((rd_T40 l0_4 x3_1).f5).length : Int)) = false := decide_eq_false c23
            clear c23
            have H' := Aside0.mk H
            clear H
            have hnb33 := NB162_160.out
            have hnc33 := NB160_162.out
            have hcz34_0 : wr.cell? ⟨gb162, 0, none⟩ = some (.string ((rd_T40 l0_4 x3_1).f0)) := (blk_cell BK162.out 0).trans rfl
            have hcz34_1 : wr.cell? ⟨gb162, 1, none⟩ = some (.string ((rd_T40 l0_4 x3_1).f1)) := (blk_cell BK162.out 1).trans rfl
            have hcz34_2 : wr.cell? ⟨gb162, 2, none⟩ = some (.int .u8 ((rd_T40 l0_4 x3_1).f2.f0.f0)) := (blk_cell BK162.out 2).trans rfl
            have hcz34_3 : wr.cell? ⟨gb162, 3, none⟩ = some (.int .u8 ((rd_T40 l0_4 x3_1).f2.f0.f1)) := (blk_cell BK162.out 3).trans rfl
            have hcz34_4 : wr.cell? ⟨gb162, 4, none⟩ = some (.int .u8 ((rd_T40 l0_4 x3_1).f2.f0.f2)) := (blk_cell BK162.out 4).trans rfl
            have hcz34_5 : wr.cell? ⟨gb162, 5, none⟩ = some (.int .u8 ((rd_T40 l0_4 x3_1).f2.f0.f3)) := (blk_cell BK162.out 5).trans rfl
            have hcz34_6 : wr.cell? ⟨gb162, 6, none⟩ = some (.int .i64 ((rd_T40 l0_4 x3_1).f2.f1)) := (blk_cell BK162.out 6).trans rfl
            have hcz34_7 : wr.cell? ⟨gb162, 7, none⟩ = some (.int .i64 ((rd_T40 l0_4 x3_1).f3)) := (blk_cell BK162.out 7).trans rfl
            have hcz34_8 : wr.cell? ⟨gb162, 8, none⟩ = some (.int .i64 ((rd_T40 l0_4 x3_1).f4)) := (blk_cell BK162.out 8).trans rfl
            have hcz34_9 : wr.cell? ⟨gb162, 9, none⟩ = some (.slice A161_9 ((rd_T40 l0_4 x3_1).f5).length c161_9) := (blk_cell BK162.out 9).trans rfl
            have hcz34_10 : wr.cell? ⟨gb162, 10, none⟩ = some (.int .i64 ((rd_T40 l0_4 x3_1).f6)) := (blk_cell BK162.out 10).trans rfl
            have hcz34_11 : wr.cell? ⟨gb162, 11, none⟩ = some (.int .i64 ((rd_T40 l0_4 x3_1).f7)) := (blk_cell BK162.out 11).trans rfl
            have hcz34_12 : wr.cell? ⟨gb162, 12, none⟩ = some (.int .i64 ((rd_T40 l0_4 x3_1).f8)) := (blk_cell BK162.out 12).trans rfl
            have hcz34_13 : wr.cell? ⟨gb162, 13, none⟩ = some (.int .i64 ((rd_T40 l0_4 x3_1).f9)) := (blk_cell BK162.out 13).trans rfl
            have hfz34_0 := blk_frozen BK162.out 0
            have hfz34_1 := blk_frozen BK162.out 1
            have hfz34_2 := blk_frozen BK162.out 2
            have hfz34_3 := blk_frozen BK162.out 3
            have hfz34_4 := blk_frozen BK162.out 4
            have hfz34_5 := blk_frozen BK162.out 5
            have hfz34_6 := blk_frozen BK162.out 6
            have hfz34_7 := blk_frozen BK162.out 7
            have hfz34_8 := blk_frozen BK162.out 8
            have hfz34_9 := blk_frozen BK162.out 9
            have hfz34_10 := blk_frozen BK162.out 10
            have hfz34_11 := blk_frozen BK162.out 11
            have hfz34_12 := blk_frozen BK162.out 12
            have hfz34_13 := blk_frozen BK162.out 13
            go_wp2
            go_roundg k3
            case measure => have := HK1.out; have := HJ8.out; have := HK3.out; omega
            case rel => exact ⟨(wrap64 (x3_1 + 1)), (by first | rfl | (simp; done) | (simp [*]; done)), H', ⟨by have := HK1.out; have := HJ8.out; have := HK3.out; omega⟩, ⟨by (with_reducible repeat (first | refine blk_drewN ?_ _ | refine blk_drew ?_ | refine blk_alloc ?_ _)); exact BK160.out⟩, ⟨by repeat (first | (with_reducible first | exact HB.out | apply below_alloc | apply pw_below_drewN | apply below_drew1 | refine below_set ?_ GE160.out | refine below_set ?_ GE162.out) | exact HB.out)⟩⟩
     ·
      rw [if_neg c8] at H
      exact absurd H (by simp)
    ·
     rw [if_neg c7] at H
     have c7b0 : decide (x3_1 < (l0_4.length : Int)) = false := decide_eq_false c7
     clear c7
     obtain rfl := Option.some.inj H
     have hcz35_0 : wr.cell? ⟨gb160, 0, none⟩ = some (.int .u8 a0_0) := (blk_cell BK160.out 0).trans rfl
     have hcz35_1 : wr.cell? ⟨gb160, 1, none⟩ = some (.int .u8 a0_1) := (blk_cell BK160.out 1).trans rfl
     have hcz35_2 : wr.cell? ⟨gb160, 2, none⟩ = some (.int .u8 a0_2) := (blk_cell BK160.out 2).trans rfl
     have hcz35_3 : wr.cell? ⟨gb160, 3, none⟩ = some (.int .u8 a0_3) := (blk_cell BK160.out 3).trans rfl
     have hcz35_4 : wr.cell? ⟨gb160, 4, none⟩ = some (.slice A0_4 l0_4.length c0_4) := (blk_cell BK160.out 4).trans rfl
     have hcz35_5 : wr.cell? ⟨gb160, 5, none⟩ = some (.int .i64 a0_5) := (blk_cell BK160.out 5).trans rfl
     have hcz35_6 : wr.cell? ⟨gb160, 6, none⟩ = some (.int .i64 a0_6) := (blk_cell BK160.out 6).trans rfl
     have hcz35_7 : wr.cell? ⟨gb160, 7, none⟩ = some (.int .i64 a0_7) := (blk_cell BK160.out 7).trans rfl
     have hcz35_8 : wr.cell? ⟨gb160, 8, none⟩ = some (.bool a0_8) := (blk_cell BK160.out 8).trans rfl
     have hfz35_0 := blk_frozen BK160.out 0
     have hfz35_1 := blk_frozen BK160.out 1
     have hfz35_2 := blk_frozen BK160.out 2
     have hfz35_3 := blk_frozen BK160.out 3
     have hfz35_4 := blk_frozen BK160.out 4
     have hfz35_5 := blk_frozen BK160.out 5
     have hfz35_6 := blk_frozen BK160.out 6
     have hfz35_7 := blk_frozen BK160.out 7
     have hfz35_8 := blk_frozen BK160.out 8
     go_wp2
     go_ret
     exact ⟨by first | rfl | (simp [errW_none, errW_some] <;> rfl) | (simp [*, errW_none, errW_some] <;> rfl), by repeat (first | (with_reducible first | exact HB.out | apply below_alloc | apply pw_below_drewN | apply below_drew1 | refine below_set ?_ GE160.out) | exact HB.out)⟩

end Go.Proofs.YtajaedebndeajaaDoor.Q

namespace Go.Proofs.YtajaedebndeajaaDoor.Q
open Go.RowKit Go.Proofs.YtajaedebndeajaaDoor.AclMet Go.Proofs.YtajaedebndeajaaDoorW.PrintWords Go.Proofs.YtajaedebndeajaaDoorW.PrintLast Go.Proofs.YtajaedebndeajaaDoorW.PrintMore
attribute [local go_sem] max2_int min2_int max_two min_two max_three min_three max_four min_four   -- for this text's walks alone
set_option linter.unusedVariables false
set_option linter.unusedSimpArgs false

/-! ### wharfingerlaw13_Some: function 17 -/
def wharfingerlaw13_Some.f  : Option (Int × Int × Int × Int × (List (S40)) × Int × Int × Int × Bool) := some (10, 0, 0, 9, (([(⟨(⟨#[97]⟩ : ByteArray), (⟨#[102, 116, 112, 46, 97]⟩ : ByteArray), (⟨(⟨10, 1, 0, 1⟩ : S23), 21⟩ : S37), 2000, 2009, (([(⟨true, (⟨#[]⟩ : ByteArray), (⟨#[47]⟩ : ByteArray)⟩ : S44)] : List (S44))), 2, 4, 1000, 500⟩ : S40), (⟨(⟨#[98]⟩ : ByteArray), (⟨#[102, 116, 112, 46, 98]⟩ : ByteArray), (⟨(⟨10, 2, 0, 1⟩ : S23), 21⟩ : S37), 3000, 3009, (([(⟨false, (⟨#[83, 84, 79, 82]⟩ : ByteArray), (⟨#[47, 112, 117, 98]⟩ : ByteArray)⟩ : S44), (⟨true, (⟨#[]⟩ : ByteArray), (⟨#[47]⟩ : ByteArray)⟩ : S44)] : List (S44))), 2, 4, 1000, 500⟩ : S40)] : List (S40))), 4, 10, 100, false)
set_option maxHeartbeats 8000000 in
set_option maxRecDepth 100000 in
theorem wharfingerlaw13_Some.calls  (r1 : Int) (r2 : Int) (r3 : Int) (r4 : Int) (r5 : List (S40)) (r6 : Int) (r7 : Int) (r8 : Int) (r9 : Bool) (w : World) (h : wharfingerlaw13_Some.f  = some (r1, r2, r3, r4, r5, r6, r7, r8, r9)) :
  Calls Tryd.prog 17 #[] w fun e w' => ∃ v4_ : Value, e = .returned (.agg #[.int .u8 r1, .int .u8 r2, .int .u8 r3, .int .u8 r4, v4_, .int .i64 r6, .int .i64 r7, .int .i64 r8, .bool r9]) ∧ Kd.N k40 40 w' w.heap.size (fun k_ => (w.heap.size ≤ k_)) v4_ r5 ∧ Below w.heap.size w w' := by
 have hu26 := Tryd.underlying26
 have hu44 := Tryd.underlying44
 have hu23 := Tryd.underlying23
 have hu37 := Tryd.underlying37
 have hu40 := Tryd.underlying40
 have HB := Aside0.mk (Below.refl w.heap.size w)
 have H : (some (10, 0, 0, 9, (([(⟨(⟨#[97]⟩ : ByteArray), (⟨#[102, 116, 112, 46, 97]⟩ : ByteArray), (⟨(⟨10, 1, 0, 1⟩ : S23), 21⟩ : S37), 2000, 2009, (([(⟨true, (⟨#[]⟩ : ByteArray), (⟨#[47]⟩ : ByteArray)⟩ : S44)] : List (S44))), 2, 4, 1000, 500⟩ : S40), (⟨(⟨#[98]⟩ : ByteArray), (⟨#[102, 116, 112, 46, 98]⟩ : ByteArray), (⟨(⟨10, 2, 0, 1⟩ : S23), 21⟩ : S37), 3000, 3009, (([(⟨false, (⟨#[83, 84, 79, 82]⟩ : ByteArray), (⟨#[47, 112, 117, 98]⟩ : ByteArray)⟩ : S44), (⟨true, (⟨#[]⟩ : ByteArray), (⟨#[47]⟩ : ByteArray)⟩ : S44)] : List (S44))), 2, 4, 1000, 500⟩ : S40)] : List (S40))), 4, 10, 100, false)) = some (r1, r2, r3, r4, r5, r6, r7, r8, r9) := h
 clear h
 obtain ⟨y137, hy137⟩ : ∃ y_ : List (S44), y_ = (([(⟨true, (⟨#[]⟩ : ByteArray), (⟨#[47]⟩ : ByteArray)⟩ : S44)] : List (S44))) := ⟨_, rfl⟩
 replace H : (some (10, 0, 0, 9, (([(⟨(⟨#[97]⟩ : ByteArray), (⟨#[102, 116, 112, 46, 97]⟩ : ByteArray), (⟨(⟨10, 1, 0, 1⟩ : S23), 21⟩ : S37), 2000, 2009, y137, 2, 4, 1000, 500⟩ : S40), (⟨(⟨#[98]⟩ : ByteArray), (⟨#[102, 116, 112, 46, 98]⟩ : ByteArray), (⟨(⟨10, 2, 0, 1⟩ : S23), 21⟩ : S37), 3000, 3009, (([(⟨false, (⟨#[83, 84, 79, 82]⟩ : ByteArray), (⟨#[47, 112, 117, 98]⟩ : ByteArray)⟩ : S44), (⟨true, (⟨#[]⟩ : ByteArray), (⟨#[47]⟩ : ByteArray)⟩ : S44)] : List (S44))), 2, 4, 1000, 500⟩ : S40)] : List (S40))), 4, 10, 100, false)) = some (r1, r2, r3, r4, r5, r6, r7, r8, r9) := by first | (rw [hy137]; with_reducible exact H) | (have H2_ := (Option.bind_some _ _).symm.trans H; rw [hy137]; with_reducible exact H2_) | (have H2_ := (Option.bind_some _ _).symm.trans H; with_reducible exact H2_) | with_reducible exact H | (rw [hy137]; exact H) | exact H
 have Ny137 := Aside0.mk hy137
 clear hy137
 obtain ⟨y140, hy140⟩ : ∃ y_ : List (S44), y_ = (([(⟨false, (⟨#[83, 84, 79, 82]⟩ : ByteArray), (⟨#[47, 112, 117, 98]⟩ : ByteArray)⟩ : S44), (⟨true, (⟨#[]⟩ : ByteArray), (⟨#[47]⟩ : ByteArray)⟩ : S44)] : List (S44))) := ⟨_, rfl⟩
 replace H : (some (10, 0, 0, 9, (([(⟨(⟨#[97]⟩ : ByteArray), (⟨#[102, 116, 112, 46, 97]⟩ : ByteArray), (⟨(⟨10, 1, 0, 1⟩ : S23), 21⟩ : S37), 2000, 2009, y137, 2, 4, 1000, 500⟩ : S40), (⟨(⟨#[98]⟩ : ByteArray), (⟨#[102, 116, 112, 46, 98]⟩ : ByteArray), (⟨(⟨10, 2, 0, 1⟩ : S23), 21⟩ : S37), 3000, 3009, y140, 2, 4, 1000, 500⟩ : S40)] : List (S40))), 4, 10, 100, false)) = some (r1, r2, r3, r4, r5, r6, r7, r8, r9) := by first | (rw [hy140]; with_reducible exact H) | (have H2_ := (Option.bind_some _ _).symm.trans H; rw [hy140]; with_reducible exact H2_) | (have H2_ := (Option.bind_some _ _).symm.trans H; with_reducible exact H2_) | with_reducible exact H | (rw [hy140]; exact H) | exact H
 have Ny140 := Aside0.mk hy140
 clear hy140
 obtain ⟨y143, hy143⟩ : ∃ y_ : List (S40), y_ = (([(⟨(⟨#[97]⟩ : ByteArray), (⟨#[102, 116, 112, 46, 97]⟩ : ByteArray), (⟨(⟨10, 1, 0, 1⟩ : S23), 21⟩ : S37), 2000, 2009, y137, 2, 4, 1000, 500⟩ : S40), (⟨(⟨#[98]⟩ : ByteArray), (⟨#[102, 116, 112, 46, 98]⟩ : ByteArray), (⟨(⟨10, 2, 0, 1⟩ : S23), 21⟩ : S37), 3000, 3009, y140, 2, 4, 1000, 500⟩ : S40)] : List (S40))) := ⟨_, rfl⟩
 replace H : (some (10, 0, 0, 9, y143, 4, 10, 100, false)) = some (r1, r2, r3, r4, r5, r6, r7, r8, r9) := by first | (rw [hy143]; with_reducible exact H) | (have H2_ := (Option.bind_some _ _).symm.trans H; rw [hy143]; with_reducible exact H2_) | (have H2_ := (Option.bind_some _ _).symm.trans H; with_reducible exact H2_) | with_reducible exact H | (rw [hy143]; exact H) | exact H
 have Ny143 := Aside0.mk hy143
 clear hy143
 simp only [Option.some.injEq, Prod.mk.injEq] at H
 obtain ⟨rfl, rfl, rfl, rfl, rfl, rfl, rfl, rfl, rfl⟩ := H
 go_enter Tryd.func17, Tryd.ntmps17
 go_wp2_with (first | ((with_reducible refine gate_dst (N := 0) rfl ?_); refine box_event ?hg (N := 0) ?hd (cs := #[.int .u8 0, .int .u8 0, .int .u8 0, .int .u8 0, .slice none 0 0, .int .i64 0, .int .i64 0, .int .i64 0, .bool false]) (t := 26) ?hr ?_; (case hd => rfl); (case hg => rfl); (case hr => first | (go_simp; done) | (go_simp; rfl)); intro gb136 hg w1 hbox hb; have n0_ := Aside0.mk (below_step (by repeat (first | (with_reducible first | exact HB.out | apply below_alloc | apply pw_below_drewN | apply below_drew1) | exact HB.out)) hb); have n1_ := Aside0.mk (hbox); have n2_ := Aside0.mk ((by rw [hg]; exact (below_size (by repeat (first | (with_reducible first | exact HB.out | apply below_alloc | apply pw_below_drewN | apply below_drew1) | exact HB.out))) : w.heap.size ≤ gb136)); have n3_ := Aside0.mk ((by rw [hg]; exact (below_size (by repeat (first | (with_reducible first | exact HB.out | apply below_alloc | apply pw_below_drewN | apply below_drew1) | exact HB.out))) : w.heap.size ≤ gb136)); clear HB; have HB := n0_; have BK136 := n1_; have GW136 := n2_; have GE136 := n3_; clear n0_ n1_ n2_ n3_; clear hb hbox hg) | ((with_reducible refine gate_dst (N := 3) rfl ?_); refine Kd.R_lit k44 _ 44 ?hg (N := 3) ?hd (xs := ([(⟨true, (⟨#[]⟩ : ByteArray), (⟨#[47]⟩ : ByteArray)⟩ : S44)] : List (S44))) (inner := [.bool true, .string (⟨#[]⟩ : ByteArray), .string (⟨#[47]⟩ : ByteArray)]) (ok := fun _ => True) (okp := fun _ => True) ?hr ?hp (fun _ hk => hk) trivial (Below.refl _ _) (Nat.le_refl _) (by simp) ?_; (case hd => rfl); (case hg => rfl); (case hr => first | (go_simp; done) | (go_simp; rfl)); (case hp => exact (Reps.c3 (show Kd.M k44 _ _ _ (⟨true, (⟨#[]⟩ : ByteArray), (⟨#[47]⟩ : ByteArray)⟩ : S44) [.bool true, .string (⟨#[]⟩ : ByteArray), .string (⟨#[47]⟩ : ByteArray)] from (k44_mkM _ _ _ (⟨true, (⟨#[]⟩ : ByteArray), (⟨#[47]⟩ : ByteArray)⟩ : S44) )) (Reps.none _ _))); intro v138 w2 ho3 hb hg_ hnew_; clear hg_ hnew_; (first | rw [← Ny137.out] at ho3 | (simp only [Int.reduceToNat] at ho3; rw [← Ny137.out] at ho3)); have n0_ := Aside0.mk (Kd.R_lower (Kd.R_newM (M := fun k_ => (w.heap.size ≤ k_)) ho3 (below_size (by repeat (first | (with_reducible first | exact HB.out | apply below_alloc | apply pw_below_drewN | apply below_drew1 | refine below_set ?_ GE136.out) | exact HB.out))) (fun k_ h_ => h_)) (below_size (by repeat (first | (with_reducible first | exact HB.out | apply below_alloc | apply pw_below_drewN | apply below_drew1 | refine below_set ?_ GE136.out) | exact HB.out)))); have n1_ := Aside0.mk (blk_below (g := gb136) (o := .cells #[.int .u8 0, .int .u8 0, .int .u8 0, .int .u8 0, .slice none 0 0, .int .i64 0, .int .i64 0, .int .i64 0, .bool false] 26 (0, 0)) (by (with_reducible repeat (first | refine blk_drewN ?_ _ | refine blk_drew ?_ | refine blk_alloc ?_ _)); exact BK136.out) hb); have n2_ := Aside0.mk (below_step (by repeat (first | (with_reducible first | exact HB.out | apply below_alloc | apply pw_below_drewN | apply below_drew1 | refine below_set ?_ GE136.out) | exact HB.out)) hb); clear BK136; clear HB; have HO139 := n0_; have BK136 := n1_; have HB := n2_; clear n0_ n1_ n2_; clear hb ho3; obtain ⟨Ao4, co4, eo4⟩ := Kd.R_slice HO139.out; subst eo4) | ((with_reducible refine gate_dst (N := 13) rfl ?_); refine Kd.R_lit k44 _ 44 ?hg (N := 13) ?hd (xs := ([(⟨false, (⟨#[83, 84, 79, 82]⟩ : ByteArray), (⟨#[47, 112, 117, 98]⟩ : ByteArray)⟩ : S44), (⟨true, (⟨#[]⟩ : ByteArray), (⟨#[47]⟩ : ByteArray)⟩ : S44)] : List (S44))) (inner := [.bool false, .string (⟨#[83, 84, 79, 82]⟩ : ByteArray), .string (⟨#[47, 112, 117, 98]⟩ : ByteArray), .bool true, .string (⟨#[]⟩ : ByteArray), .string (⟨#[47]⟩ : ByteArray)]) (ok := fun _ => True) (okp := fun _ => True) ?hr ?hp (fun _ hk => hk) trivial (Below.refl _ _) (Nat.le_refl _) (by simp) ?_; (case hd => rfl); (case hg => rfl); (case hr => first | (go_simp; done) | (go_simp; rfl)); (case hp => exact (Reps.c3 (show Kd.M k44 _ _ _ (⟨false, (⟨#[83, 84, 79, 82]⟩ : ByteArray), (⟨#[47, 112, 117, 98]⟩ : ByteArray)⟩ : S44) [.bool false, .string (⟨#[83, 84, 79, 82]⟩ : ByteArray), .string (⟨#[47, 112, 117, 98]⟩ : ByteArray)] from (k44_mkM _ _ _ (⟨false, (⟨#[83, 84, 79, 82]⟩ : ByteArray), (⟨#[47, 112, 117, 98]⟩ : ByteArray)⟩ : S44) )) (Reps.c3 (show Kd.M k44 _ _ _ (⟨true, (⟨#[]⟩ : ByteArray), (⟨#[47]⟩ : ByteArray)⟩ : S44) [.bool true, .string (⟨#[]⟩ : ByteArray), .string (⟨#[47]⟩ : ByteArray)] from (k44_mkM _ _ _ (⟨true, (⟨#[]⟩ : ByteArray), (⟨#[47]⟩ : ByteArray)⟩ : S44) )) (Reps.none _ _)))); intro v141 w5 ho6 hb hg_ hnew_; clear hg_ hnew_; (first | rw [← Ny140.out] at ho6 | (simp only [Int.reduceToNat] at ho6; rw [← Ny140.out] at ho6)); have n0_ := Aside0.mk (Kd.R_elder' (by (with_reducible repeat (first | apply Kd.R_alloc | apply Kd.R_drewN | apply Kd.R_drew)); exact HO139.out) (Kd.R_base ho6) hb); have n1_ := Aside0.mk (Kd.R_lower (Kd.R_new' (Kd.R_newM (M := fun k_ => (w.heap.size ≤ k_)) ho6 (below_size (by repeat (first | (with_reducible first | exact HB.out | apply below_alloc | apply pw_below_drewN | apply below_drew1 | refine below_set ?_ GE136.out) | exact HB.out))) (fun k_ h_ => h_)) (Kd.R_lt (by (with_reducible repeat (first | apply Kd.R_alloc | apply Kd.R_drewN | apply Kd.R_drew)); exact HO139.out))) (below_size (by repeat (first | (with_reducible first | exact HB.out | apply below_alloc | apply pw_below_drewN | apply below_drew1 | refine below_set ?_ GE136.out) | exact HB.out)))); have n2_ := Aside0.mk (blk_below (g := gb136) (o := .cells #[.int .u8 0, .int .u8 0, .int .u8 0, .int .u8 0, .slice none 0 0, .int .i64 0, .int .i64 0, .int .i64 0, .bool false] 26 (0, 0)) (by (with_reducible repeat (first | refine blk_drewN ?_ _ | refine blk_drew ?_ | refine blk_alloc ?_ _)); exact BK136.out) hb); have n3_ := Aside0.mk (below_step (by repeat (first | (with_reducible first | exact HB.out | apply below_alloc | apply pw_below_drewN | apply below_drew1 | refine below_set ?_ GE136.out) | exact HB.out)) hb); clear HO139; clear BK136; clear HB; have HO139 := n0_; have HO142 := n1_; have BK136 := n2_; have HB := n3_; clear n0_ n1_ n2_ n3_; clear hb ho6; obtain ⟨Ao7, co7, eo7⟩ := Kd.R_slice HO142.out; subst eo7) | ((with_reducible refine gate_dst (N := 15) rfl ?_); refine Kd.N_lit k40 _ 40 ?hg (N' := 15) ?hd (xs := ([(⟨(⟨#[97]⟩ : ByteArray), (⟨#[102, 116, 112, 46, 97]⟩ : ByteArray), (⟨(⟨10, 1, 0, 1⟩ : S23), 21⟩ : S37), 2000, 2009, y137, 2, 4, 1000, 500⟩ : S40), (⟨(⟨#[98]⟩ : ByteArray), (⟨#[102, 116, 112, 46, 98]⟩ : ByteArray), (⟨(⟨10, 2, 0, 1⟩ : S23), 21⟩ : S37), 3000, 3009, y140, 2, 4, 1000, 500⟩ : S40)] : List (S40))) (inner := [.string (⟨#[97]⟩ : ByteArray), .string (⟨#[102, 116, 112, 46, 97]⟩ : ByteArray), .int .u8 10, .int .u8 1, .int .u8 0, .int .u8 1, .int .i64 21, .int .i64 2000, .int .i64 2009, .slice Ao4 y137.length co4, .int .i64 2, .int .i64 4, .int .i64 1000, .int .i64 500, .string (⟨#[98]⟩ : ByteArray), .string (⟨#[102, 116, 112, 46, 98]⟩ : ByteArray), .int .u8 10, .int .u8 2, .int .u8 0, .int .u8 1, .int .i64 21, .int .i64 3000, .int .i64 3009, .slice Ao7 y140.length co7, .int .i64 2, .int .i64 4, .int .i64 1000, .int .i64 500]) (ok := (fun k_ => (w.heap.size ≤ k_) ∧ k_ ≠ gb136)) (okp := (fun k_ => (w.heap.size ≤ k_) ∧ k_ ≠ gb136)) ?hr ?hp (fun _ hk => hk) ((show ∀ k_, w5.heap.size ≤ k_ → (fun k_ => (w.heap.size ≤ k_) ∧ k_ ≠ gb136) k_ from fun k_ hk => ⟨(Nat.le_trans (below_size (by repeat (first | (with_reducible first | exact HB.out | apply below_alloc | apply pw_below_drewN | apply below_drew1 | refine below_set ?_ GE136.out) | exact HB.out))) hk), Kd.freshB (g := gb136) (o := .cells #[.int .u8 0, .int .u8 0, .int .u8 0, .int .u8 0, .slice none 0 0, .int .i64 0, .int .i64 0, .int .i64 0, .bool false] 26 (0, 0)) (by (with_reducible repeat (first | refine blk_drewN ?_ _ | refine blk_drew ?_ | refine blk_alloc ?_ _)); exact BK136.out) k_ hk⟩) _ (Nat.le_refl _)) (Below.refl _ _) (Nat.le_refl _) (by simp) ?_; (case hd => rfl); (case hg => rfl); (case hr => first | (go_simp; done) | (go_simp; rfl)); (case hp => exact (Reps.front (show Kd.FK k40 _ _ (⟨(⟨#[97]⟩ : ByteArray), (⟨#[102, 116, 112, 46, 97]⟩ : ByteArray), (⟨(⟨10, 1, 0, 1⟩ : S23), 21⟩ : S37), 2000, 2009, y137, 2, 4, 1000, 500⟩ : S40) [.string (⟨#[97]⟩ : ByteArray), .string (⟨#[102, 116, 112, 46, 97]⟩ : ByteArray), .int .u8 10, .int .u8 1, .int .u8 0, .int .u8 1, .int .i64 21, .int .i64 2000, .int .i64 2009, .slice Ao4 y137.length co4, .int .i64 2, .int .i64 4, .int .i64 1000, .int .i64 500] from (k40_mkF _ _ (⟨(⟨#[97]⟩ : ByteArray), (⟨#[102, 116, 112, 46, 97]⟩ : ByteArray), (⟨(⟨10, 1, 0, 1⟩ : S23), 21⟩ : S37), 2000, 2009, y137, 2, 4, 1000, 500⟩ : S40) (Kd.R_reads' (Kd.R_mono (ok' := (fun k_ => (w.heap.size ≤ k_) ∧ k_ ≠ gb136)) (Kd.R_types (HO139.out) BK136.out (by decide)) (fun k_ hk => ⟨hk.1.1.1, hk.2⟩))).2.1 (Kd.R_F (Kd.R_mono (ok' := (fun k_ => (w.heap.size ≤ k_) ∧ k_ ≠ gb136)) (Kd.R_types (HO139.out) BK136.out (by decide)) (fun k_ hk => ⟨hk.1.1.1, hk.2⟩))))) rfl (Reps.front (show Kd.FK k40 _ _ (⟨(⟨#[98]⟩ : ByteArray), (⟨#[102, 116, 112, 46, 98]⟩ : ByteArray), (⟨(⟨10, 2, 0, 1⟩ : S23), 21⟩ : S37), 3000, 3009, y140, 2, 4, 1000, 500⟩ : S40) [.string (⟨#[98]⟩ : ByteArray), .string (⟨#[102, 116, 112, 46, 98]⟩ : ByteArray), .int .u8 10, .int .u8 2, .int .u8 0, .int .u8 1, .int .i64 21, .int .i64 3000, .int .i64 3009, .slice Ao7 y140.length co7, .int .i64 2, .int .i64 4, .int .i64 1000, .int .i64 500] from (k40_mkF _ _ (⟨(⟨#[98]⟩ : ByteArray), (⟨#[102, 116, 112, 46, 98]⟩ : ByteArray), (⟨(⟨10, 2, 0, 1⟩ : S23), 21⟩ : S37), 3000, 3009, y140, 2, 4, 1000, 500⟩ : S40) (Kd.R_reads' (Kd.R_mono (ok' := (fun k_ => (w.heap.size ≤ k_) ∧ k_ ≠ gb136)) (Kd.R_types (HO142.out) BK136.out (by decide)) (fun k_ hk => ⟨hk.1.1.1, hk.2⟩))).2.1 (Kd.R_F (Kd.R_mono (ok' := (fun k_ => (w.heap.size ≤ k_) ∧ k_ ≠ gb136)) (Kd.R_types (HO142.out) BK136.out (by decide)) (fun k_ hk => ⟨hk.1.1.1, hk.2⟩))))) rfl (Reps.none _ _) rfl) rfl)); intro v144 w8 ho9 hb hg_ hnew_; clear hg_ hnew_; (first | rw [← Ny143.out] at ho9 | (simp only [Int.reduceToNat] at ho9; rw [← Ny143.out] at ho9)); have n0_ := Aside0.mk (Kd.N_lower ho9 (below_size (by repeat (first | (with_reducible first | exact HB.out | apply below_alloc | apply pw_below_drewN | apply below_drew1 | refine below_set ?_ GE136.out) | exact HB.out)))); have n1_ := Aside0.mk (blk_below (g := gb136) (o := .cells #[.int .u8 0, .int .u8 0, .int .u8 0, .int .u8 0, .slice none 0 0, .int .i64 0, .int .i64 0, .int .i64 0, .bool false] 26 (0, 0)) (by (with_reducible repeat (first | refine blk_drewN ?_ _ | refine blk_drew ?_ | refine blk_alloc ?_ _)); exact BK136.out) hb); have n2_ := Aside0.mk (below_step (by repeat (first | (with_reducible first | exact HB.out | apply below_alloc | apply pw_below_drewN | apply below_drew1 | refine below_set ?_ GE136.out) | exact HB.out)) hb); clear BK136; clear HB; clear HO139; clear HO142; have HO145 := n0_; have BK136 := n1_; have HB := n2_; clear n0_ n1_ n2_; clear hb ho9; obtain ⟨Ao10, co10, eo10⟩ := Kd.N_slice HO145.out; subst eo10; obtain ⟨hcz11_0, hcz11_1, hcz11_2, hcz11_3, hcz11_4, hcz11_5, hcz11_6, hcz11_7, hcz11_8⟩ := cl_9 (.int .u8 0) (.int .u8 0) (.int .u8 0) (.int .u8 0) (.slice none 0 0) (.int .i64 0) (.int .i64 0) (.int .i64 0) (.bool false) BK136.out; obtain ⟨hfz11_0, hfz11_1, hfz11_2, hfz11_3, hfz11_4, hfz11_5, hfz11_6, hfz11_7, hfz11_8⟩ := fz_9 BK136.out))
 refine bodyPost_ret (results_cell_row rfl _ _ gb136 26 #[.int .u8 10, .int .u8 0, .int .u8 0, .int .u8 9, .slice Ao10 y143.length co10, .int .i64 4, .int .i64 10, .int .i64 100, .bool false] (0, 0) _ rfl (by (with_reducible repeat (first | refine blk_drewN ?_ _ | refine blk_drew ?_ | refine blk_alloc ?_ _)); refine blk_put (cs := #[.int .u8 10, .int .u8 0, .int .u8 0, .int .u8 9, .slice Ao10 y143.length co10, .int .i64 4, .int .i64 10, .int .i64 100, .bool false]) ?_ 8 _ rfl; (with_reducible repeat (first | refine blk_drewN ?_ _ | refine blk_drew ?_ | refine blk_alloc ?_ _)); refine blk_put (cs := #[.int .u8 10, .int .u8 0, .int .u8 0, .int .u8 9, .slice Ao10 y143.length co10, .int .i64 4, .int .i64 10, .int .i64 0, .bool false]) ?_ 7 _ rfl; (with_reducible repeat (first | refine blk_drewN ?_ _ | refine blk_drew ?_ | refine blk_alloc ?_ _)); refine blk_put (cs := #[.int .u8 10, .int .u8 0, .int .u8 0, .int .u8 9, .slice Ao10 y143.length co10, .int .i64 4, .int .i64 0, .int .i64 0, .bool false]) ?_ 6 _ rfl; (with_reducible repeat (first | refine blk_drewN ?_ _ | refine blk_drew ?_ | refine blk_alloc ?_ _)); refine blk_put (cs := #[.int .u8 10, .int .u8 0, .int .u8 0, .int .u8 9, .slice Ao10 y143.length co10, .int .i64 0, .int .i64 0, .int .i64 0, .bool false]) ?_ 5 _ rfl; (with_reducible repeat (first | refine blk_drewN ?_ _ | refine blk_drew ?_ | refine blk_alloc ?_ _)); refine blk_put (cs := #[.int .u8 10, .int .u8 0, .int .u8 0, .int .u8 9, .slice none 0 0, .int .i64 0, .int .i64 0, .int .i64 0, .bool false]) ?_ 4 _ rfl; (with_reducible repeat (first | refine blk_drewN ?_ _ | refine blk_drew ?_ | refine blk_alloc ?_ _)); refine blk_put (cs := #[.int .u8 10, .int .u8 0, .int .u8 0, .int .u8 0, .slice none 0 0, .int .i64 0, .int .i64 0, .int .i64 0, .bool false]) ?_ 3 _ rfl; (with_reducible repeat (first | refine blk_drewN ?_ _ | refine blk_drew ?_ | refine blk_alloc ?_ _)); refine blk_put (cs := #[.int .u8 10, .int .u8 0, .int .u8 0, .int .u8 0, .slice none 0 0, .int .i64 0, .int .i64 0, .int .i64 0, .bool false]) ?_ 2 _ rfl; (with_reducible repeat (first | refine blk_drewN ?_ _ | refine blk_drew ?_ | refine blk_alloc ?_ _)); refine blk_put (cs := #[.int .u8 10, .int .u8 0, .int .u8 0, .int .u8 0, .slice none 0 0, .int .i64 0, .int .i64 0, .int .i64 0, .bool false]) ?_ 1 _ rfl; (with_reducible repeat (first | refine blk_drewN ?_ _ | refine blk_drew ?_ | refine blk_alloc ?_ _)); refine blk_put (cs := #[.int .u8 0, .int .u8 0, .int .u8 0, .int .u8 0, .slice none 0 0, .int .i64 0, .int .i64 0, .int .i64 0, .bool false]) ?_ 0 _ rfl; (with_reducible repeat (first | refine blk_drewN ?_ _ | refine blk_drew ?_ | refine blk_alloc ?_ _)); exact BK136.out) Tryd.underlying26 rfl (by kernel_rfl)) rfl ?_
 exact ⟨_, by first | rfl | (simp [errW_none, errW_some] <;> rfl) | (simp [*, errW_none, errW_some] <;> rfl), by (with_reducible repeat (first | apply Kd.N_alloc | apply Kd.N_drewN | apply Kd.N_drew)); exact Kd.N_mono (Kd.N_far (p := ⟨gb136, 8, none⟩) (Kd.N_far (p := ⟨gb136, 7, none⟩) (Kd.N_far (p := ⟨gb136, 6, none⟩) (Kd.N_far (p := ⟨gb136, 5, none⟩) (Kd.N_far (p := ⟨gb136, 4, none⟩) (Kd.N_far (p := ⟨gb136, 3, none⟩) (Kd.N_far (p := ⟨gb136, 2, none⟩) (Kd.N_far (p := ⟨gb136, 1, none⟩) (Kd.N_far (p := ⟨gb136, 0, none⟩) (Kd.N_mono HO145.out (fun k_ hk => (⟨hk, hk.2⟩ : _ ∧ k_ ≠ gb136))) (fun _ hk => hk.2) (.int .u8 10)) (fun _ hk => hk.2) (.int .u8 0)) (fun _ hk => hk.2) (.int .u8 0)) (fun _ hk => hk.2) (.int .u8 9)) (fun _ hk => hk.2) (.slice Ao10 y143.length co10)) (fun _ hk => hk.2) (.int .i64 4)) (fun _ hk => hk.2) (.int .i64 10)) (fun _ hk => hk.2) (.int .i64 100)) (fun _ hk => hk.2) (.bool false)) (fun _ hk => hk.1.1), by repeat (first | (with_reducible first | exact HB.out | apply below_alloc | apply pw_below_drewN | apply below_drew1 | refine below_set ?_ GE136.out) | exact HB.out)⟩

end Go.Proofs.YtajaedebndeajaaDoor.Q

namespace Go.Proofs.YtajaedebndeajaaDoor.Q
open Go.RowKit Go.Proofs.YtajaedebndeajaaDoor.AclMet Go.Proofs.YtajaedebndeajaaDoorW.PrintWords Go.Proofs.YtajaedebndeajaaDoorW.PrintLast Go.Proofs.YtajaedebndeajaaDoorW.PrintMore
attribute [local go_sem] max2_int min2_int max_two min_two max_three min_three max_four min_four   -- for this text's walks alone
set_option linter.unusedVariables false
set_option linter.unusedSimpArgs false

/-! ### wharfingerlaw13_awake: function 9 -/
def wharfingerlaw13_awake.f  : Option (Bool) := (conf_Why.f 0 0 0 0 ([] : List (S40)) 1 1 1 false).bind fun bt146 => ((wharfingerlaw13_Some.f).bind fun bt148 => ((conf_May.f bt148.1 bt148.2.1 bt148.2.2.1 bt148.2.2.2.1 bt148.2.2.2.2.1 bt148.2.2.2.2.2.1 bt148.2.2.2.2.2.2.1 bt148.2.2.2.2.2.2.2.1 bt148.2.2.2.2.2.2.2.2).bind fun t159 => (if t159 = true then (if bt146.1 = (-1) then (some (bt146.2 == 1)) else (some false)) else (some false))))
set_option maxHeartbeats 8000000 in
set_option maxRecDepth 100000 in
theorem wharfingerlaw13_awake.calls  (r : Bool) (w : World) (hmet : WMet w) (h : wharfingerlaw13_awake.f  = some r) :
  Calls Tryd.prog 9 #[] w fun e w' => e = .returned (.bool r) ∧ Below w.heap.size w w' := by
 have HMET := Aside0.mk hmet
 clear hmet
 have hu26 := Tryd.underlying26
 have HB := Aside0.mk (Below.refl w.heap.size w)
 have H : ((conf_Why.f 0 0 0 0 ([] : List (S40)) 1 1 1 false).bind fun bt146 => ((wharfingerlaw13_Some.f).bind fun bt148 => ((conf_May.f bt148.1 bt148.2.1 bt148.2.2.1 bt148.2.2.2.1 bt148.2.2.2.2.1 bt148.2.2.2.2.2.1 bt148.2.2.2.2.2.2.1 bt148.2.2.2.2.2.2.2.1 bt148.2.2.2.2.2.2.2.2).bind fun t159 => (if t159 = true then (if bt146.1 = (-1) then (some (bt146.2 == 1)) else (some false)) else (some false))))) = some r := h
 clear h
 replace H := Option.bind_eq_some_iff.mp H
 obtain ⟨⟨t146, t147⟩, A10, H⟩ := H
 replace H : ((wharfingerlaw13_Some.f).bind fun bt148 => ((conf_May.f bt148.1 bt148.2.1 bt148.2.2.1 bt148.2.2.2.1 bt148.2.2.2.2.1 bt148.2.2.2.2.2.1 bt148.2.2.2.2.2.2.1 bt148.2.2.2.2.2.2.2.1 bt148.2.2.2.2.2.2.2.2).bind fun t159 => (if t159 = true then (if t146 = (-1) then (some (t147 == 1)) else (some false)) else (some false)))) = some r := H
 have A1 := Aside0.mk A10
 clear A10
 replace H := Option.bind_eq_some_iff.mp H
 obtain ⟨⟨t148, t149, t150, t151, t152, t155, t156, t157, t158⟩, A20, H⟩ := H
 replace H : ((conf_May.f t148 t149 t150 t151 t152 t155 t156 t157 t158).bind fun t159 => (if t159 = true then (if t146 = (-1) then (some (t147 == 1)) else (some false)) else (some false))) = some r := H
 have A2 := Aside0.mk A20
 clear A20
 replace H := Option.bind_eq_some_iff.mp H
 obtain ⟨t159, A30, H⟩ := H
 replace H : (if t159 = true then (if t146 = (-1) then (some (t147 == 1)) else (some false)) else (some false)) = some r := H
 have A3 := Aside0.mk A30
 clear A30
 by_cases c4 : t159 = true
 ·
  subst c4
  have H1 : (if t146 = (-1) then (some (t147 == 1)) else (some false)) = some r := by rw [if_pos rfl] at H; exact H
  clear H
  have H := H1
  clear H1
  by_cases c5 : t146 = (-1)
  ·
   rw [if_pos c5] at H
   have c5b0 : (t146 == (-1)) = true := beq_iff_eq.mpr c5
   have c5b1 : (t146 != (-1)) = false := bne_eq_false_iff_eq.mpr c5
   clear c5
   obtain rfl := Option.some.inj H
   go_enter Tryd.func9, Tryd.ntmps9
   go_wp2_with (first | ((with_reducible refine gate_callee (f := 11) rfl ?_); refine goesL_ (some 5) rfl rfl Tryd.func11 (by kernel_rfl) rfl #[.agg #[.int .u8 0, .int .u8 0, .int .u8 0, .int .u8 0, .slice none 0 0, .int .i64 1, .int .i64 1, .int .i64 1, .bool false]] rfl (by (try simp only [List.map_toArray, List.map_cons, List.map_nil]); first | done | rfl | (simp only [List.length_drop, List.length_take]; rfl)) ?_; (refine (conf_Why.calls 0 0 0 0 _ _ ([] : List (S40)) 1 1 1 false t146 t147 _ ?side1 ?side2 ?side3 A1.out).mono ?_); (case side1 => exact Kd.C_nil _ _); (case side2 => exact Nat.le_refl _); (case side3 => exact HMET.out.below (by repeat (first | (with_reducible first | exact HB.out | apply below_alloc | apply pw_below_drewN | apply below_drew1) | exact HB.out))); rintro e w6 ⟨rfl, hb⟩; refine ⟨_, rfl, ?_⟩; have n0_ := Aside0.mk (below_step (by repeat (first | (with_reducible first | exact HB.out | apply below_alloc | apply pw_below_drewN | apply below_drew1) | exact HB.out)) hb); clear HB; have HB := n0_; clear n0_; (try clear hb); (try clear hb2); (try clear hk); (try clear hi)) | ((with_reducible refine gate_callee (f := 17) rfl ?_); refine goesL_ (some 8) rfl rfl Tryd.func17 (by kernel_rfl) rfl #[] rfl (by (try simp only [List.map_toArray, List.map_cons, List.map_nil]); first | done | rfl | (simp only [List.length_drop, List.length_take]; rfl)) ?_; (with_reducible refine (wharfingerlaw13_Some.calls  t148 t149 t150 t151 t152 t155 t156 t157 t158 _ A2.out).mono ?_); rintro e w7 ⟨v153, rfl, ho0, hb⟩; refine ⟨_, rfl, ?_⟩; have n0_ := Aside0.mk (Kd.N_lower (Kd.N_mono (ok' := fun k_ => True) ho0 (fun k_ hk_ => trivial)) (below_size (by repeat (first | (with_reducible first | exact HB.out | apply below_alloc | apply pw_below_drewN | apply below_drew1) | exact HB.out)))); have n1_ := Aside0.mk (below_step (by repeat (first | (with_reducible first | exact HB.out | apply below_alloc | apply pw_below_drewN | apply below_drew1) | exact HB.out)) hb); clear HB; have HO154 := n0_; have HB := n1_; clear n0_ n1_; (try clear hb); (try clear hb2); (try clear hk); (try clear hi); (try clear ho0); obtain ⟨Ao8, co8, eo8⟩ := Kd.N_slice HO154.out; subst eo8) | ((with_reducible refine gate_callee (f := 14) rfl ?_); refine goesL_ (some 9) rfl rfl Tryd.func14 (by kernel_rfl) rfl #[.agg #[.int .u8 t148, .int .u8 t149, .int .u8 t150, .int .u8 t151, .slice Ao8 t152.length co8, .int .i64 t155, .int .i64 t156, .int .i64 t157, .bool t158]] rfl (by (try simp only [List.map_toArray, List.map_cons, List.map_nil]); first | done | rfl | (simp only [List.length_drop, List.length_take]; rfl)) ?_; (with_reducible refine (conf_May.calls t148 t149 t150 t151 _ _ t152 t155 t156 t157 t158 true _ ?side1 ?side2 ?side3 A3.out).mono ?_); (case side1 => repeat (first | exact (Kd.N_reads' HO154.out).2.2 | (with_reducible refine Kd.C_alloc ?_ _) | (with_reducible refine Kd.C_drewN ?_ _) | (with_reducible refine Kd.C_drew ?_))); (case side2 => exact (Kd.N_reads' HO154.out).2.1); (case side3 => exact HMET.out.below (by repeat (first | (with_reducible first | exact HB.out | apply below_alloc | apply pw_below_drewN | apply below_drew1) | exact HB.out))); rintro e w9 ⟨rfl, hb⟩; refine ⟨_, rfl, ?_⟩; have n0_ := Aside0.mk (Kd.N_below (by (with_reducible repeat (first | apply Kd.N_alloc | apply Kd.N_drewN | apply Kd.N_drew)); exact HO154.out) hb); have n1_ := Aside0.mk (below_step (by repeat (first | (with_reducible first | exact HB.out | apply below_alloc | apply pw_below_drewN | apply below_drew1) | exact HB.out)) hb); clear HO154; clear HB; have HO154 := n0_; have HB := n1_; clear n0_ n1_; (try clear hb); (try clear hb2); (try clear hk); (try clear hi)))
   go_ret
   exact ⟨by first | rfl | (simp [errW_none, errW_some] <;> rfl) | (simp [*, errW_none, errW_some] <;> rfl), by repeat (first | (with_reducible first | exact HB.out | apply below_alloc | apply pw_below_drewN | apply below_drew1) | exact HB.out)⟩
  ·
   rw [if_neg c5] at H
   have c5b0 : (t146 == (-1)) = false := beq_eq_false_iff_ne.mpr c5
   have c5b1 : (t146 != (-1)) = true := bne_iff_ne.mpr c5
   obtain rfl := Option.some.inj H
   go_enter Tryd.func9, Tryd.ntmps9
   go_wp2_with (first | ((with_reducible refine gate_callee (f := 11) rfl ?_); refine goesL_ (some 5) rfl rfl Tryd.func11 (by kernel_rfl) rfl #[.agg #[.int .u8 0, .int .u8 0, .int .u8 0, .int .u8 0, .slice none 0 0, .int .i64 1, .int .i64 1, .int .i64 1, .bool false]] rfl (by (try simp only [List.map_toArray, List.map_cons, List.map_nil]); first | done | rfl | (simp only [List.length_drop, List.length_take]; rfl)) ?_; (refine (conf_Why.calls 0 0 0 0 _ _ ([] : List (S40)) 1 1 1 false t146 t147 _ ?side1 ?side2 ?side3 A1.out).mono ?_); (case side1 => exact Kd.C_nil _ _); (case side2 => exact Nat.le_refl _); (case side3 => exact HMET.out.below (by repeat (first | (with_reducible first | exact HB.out | apply below_alloc | apply pw_below_drewN | apply below_drew1) | exact HB.out))); rintro e w10 ⟨rfl, hb⟩; refine ⟨_, rfl, ?_⟩; have n0_ := Aside0.mk (below_step (by repeat (first | (with_reducible first | exact HB.out | apply below_alloc | apply pw_below_drewN | apply below_drew1) | exact HB.out)) hb); clear HB; have HB := n0_; clear n0_; (try clear hb); (try clear hb2); (try clear hk); (try clear hi)) | ((with_reducible refine gate_callee (f := 17) rfl ?_); refine goesL_ (some 8) rfl rfl Tryd.func17 (by kernel_rfl) rfl #[] rfl (by (try simp only [List.map_toArray, List.map_cons, List.map_nil]); first | done | rfl | (simp only [List.length_drop, List.length_take]; rfl)) ?_; (with_reducible refine (wharfingerlaw13_Some.calls  t148 t149 t150 t151 t152 t155 t156 t157 t158 _ A2.out).mono ?_); rintro e w11 ⟨v153, rfl, ho0, hb⟩; refine ⟨_, rfl, ?_⟩; have n0_ := Aside0.mk (Kd.N_lower (Kd.N_mono (ok' := fun k_ => True) ho0 (fun k_ hk_ => trivial)) (below_size (by repeat (first | (with_reducible first | exact HB.out | apply below_alloc | apply pw_below_drewN | apply below_drew1) | exact HB.out)))); have n1_ := Aside0.mk (below_step (by repeat (first | (with_reducible first | exact HB.out | apply below_alloc | apply pw_below_drewN | apply below_drew1) | exact HB.out)) hb); clear HB; have HO154 := n0_; have HB := n1_; clear n0_ n1_; (try clear hb); (try clear hb2); (try clear hk); (try clear hi); (try clear ho0); obtain ⟨Ao12, co12, eo12⟩ := Kd.N_slice HO154.out; subst eo12) | ((with_reducible refine gate_callee (f := 14) rfl ?_); refine goesL_ (some 9) rfl rfl Tryd.func14 (by kernel_rfl) rfl #[.agg #[.int .u8 t148, .int .u8 t149, .int .u8 t150, .int .u8 t151, .slice Ao12 t152.length co12, .int .i64 t155, .int .i64 t156, .int .i64 t157, .bool t158]] rfl (by (try simp only [List.map_toArray, List.map_cons, List.map_nil]); first | done | rfl | (simp only [List.length_drop, List.length_take]; rfl)) ?_; (with_reducible refine (conf_May.calls t148 t149 t150 t151 _ _ t152 t155 t156 t157 t158 true _ ?side1 ?side2 ?side3 A3.out).mono ?_); (case side1 => repeat (first | exact (Kd.N_reads' HO154.out).2.2 | (with_reducible refine Kd.C_alloc ?_ _) | (with_reducible refine Kd.C_drewN ?_ _) | (with_reducible refine Kd.C_drew ?_))); (case side2 => exact (Kd.N_reads' HO154.out).2.1); (case side3 => exact HMET.out.below (by repeat (first | (with_reducible first | exact HB.out | apply below_alloc | apply pw_below_drewN | apply below_drew1) | exact HB.out))); rintro e w13 ⟨rfl, hb⟩; refine ⟨_, rfl, ?_⟩; have n0_ := Aside0.mk (Kd.N_below (by (with_reducible repeat (first | apply Kd.N_alloc | apply Kd.N_drewN | apply Kd.N_drew)); exact HO154.out) hb); have n1_ := Aside0.mk (below_step (by repeat (first | (with_reducible first | exact HB.out | apply below_alloc | apply pw_below_drewN | apply below_drew1) | exact HB.out)) hb); clear HO154; clear HB; have HO154 := n0_; have HB := n1_; clear n0_ n1_; (try clear hb); (try clear hb2); (try clear hk); (try clear hi)))
   go_ret
   exact ⟨by first | rfl | (simp [errW_none, errW_some] <;> rfl) | (simp [*, errW_none, errW_some] <;> rfl), by repeat (first | (with_reducible first | exact HB.out | apply below_alloc | apply pw_below_drewN | apply below_drew1) | exact HB.out)⟩
 ·
  replace c4 := Bool.eq_false_iff.mpr c4
  subst c4
  have H1 : (some false) = some r := by rw [if_neg (show ¬ (false = true) by decide)] at H; exact H
  clear H
  have H := H1
  clear H1
  obtain rfl := Option.some.inj H
  go_enter Tryd.func9, Tryd.ntmps9
  go_wp2_with (first | ((with_reducible refine gate_callee (f := 11) rfl ?_); refine goesL_ (some 5) rfl rfl Tryd.func11 (by kernel_rfl) rfl #[.agg #[.int .u8 0, .int .u8 0, .int .u8 0, .int .u8 0, .slice none 0 0, .int .i64 1, .int .i64 1, .int .i64 1, .bool false]] rfl (by (try simp only [List.map_toArray, List.map_cons, List.map_nil]); first | done | rfl | (simp only [List.length_drop, List.length_take]; rfl)) ?_; (refine (conf_Why.calls 0 0 0 0 _ _ ([] : List (S40)) 1 1 1 false t146 t147 _ ?side1 ?side2 ?side3 A1.out).mono ?_); (case side1 => exact Kd.C_nil _ _); (case side2 => exact Nat.le_refl _); (case side3 => exact HMET.out.below (by repeat (first | (with_reducible first | exact HB.out | apply below_alloc | apply pw_below_drewN | apply below_drew1) | exact HB.out))); rintro e w14 ⟨rfl, hb⟩; refine ⟨_, rfl, ?_⟩; have n0_ := Aside0.mk (below_step (by repeat (first | (with_reducible first | exact HB.out | apply below_alloc | apply pw_below_drewN | apply below_drew1) | exact HB.out)) hb); clear HB; have HB := n0_; clear n0_; (try clear hb); (try clear hb2); (try clear hk); (try clear hi)) | ((with_reducible refine gate_callee (f := 17) rfl ?_); refine goesL_ (some 8) rfl rfl Tryd.func17 (by kernel_rfl) rfl #[] rfl (by (try simp only [List.map_toArray, List.map_cons, List.map_nil]); first | done | rfl | (simp only [List.length_drop, List.length_take]; rfl)) ?_; (with_reducible refine (wharfingerlaw13_Some.calls  t148 t149 t150 t151 t152 t155 t156 t157 t158 _ A2.out).mono ?_); rintro e w15 ⟨v153, rfl, ho0, hb⟩; refine ⟨_, rfl, ?_⟩; have n0_ := Aside0.mk (Kd.N_lower (Kd.N_mono (ok' := fun k_ => True) ho0 (fun k_ hk_ => trivial)) (below_size (by repeat (first | (with_reducible first | exact HB.out | apply below_alloc | apply pw_below_drewN | apply below_drew1) | exact HB.out)))); have n1_ := Aside0.mk (below_step (by repeat (first | (with_reducible first | exact HB.out | apply below_alloc | apply pw_below_drewN | apply below_drew1) | exact HB.out)) hb); clear HB; have HO154 := n0_; have HB := n1_; clear n0_ n1_; (try clear hb); (try clear hb2); (try clear hk); (try clear hi); (try clear ho0); obtain ⟨Ao16, co16, eo16⟩ := Kd.N_slice HO154.out; subst eo16) | ((with_reducible refine gate_callee (f := 14) rfl ?_); refine goesL_ (some 9) rfl rfl Tryd.func14 (by kernel_rfl) rfl #[.agg #[.int .u8 t148, .int .u8 t149, .int .u8 t150, .int .u8 t151, .slice Ao16 t152.length co16, .int .i64 t155, .int .i64 t156, .int .i64 t157, .bool t158]] rfl (by (try simp only [List.map_toArray, List.map_cons, List.map_nil]); first | done | rfl | (simp only [List.length_drop, List.length_take]; rfl)) ?_; (with_reducible refine (conf_May.calls t148 t149 t150 t151 _ _ t152 t155 t156 t157 t158 false _ ?side1 ?side2 ?side3 A3.out).mono ?_); (case side1 => repeat (first | exact (Kd.N_reads' HO154.out).2.2 | (with_reducible refine Kd.C_alloc ?_ _) | (with_reducible refine Kd.C_drewN ?_ _) | (with_reducible refine Kd.C_drew ?_))); (case side2 => exact (Kd.N_reads' HO154.out).2.1); (case side3 => exact HMET.out.below (by repeat (first | (with_reducible first | exact HB.out | apply below_alloc | apply pw_below_drewN | apply below_drew1) | exact HB.out))); rintro e w17 ⟨rfl, hb⟩; refine ⟨_, rfl, ?_⟩; have n0_ := Aside0.mk (Kd.N_below (by (with_reducible repeat (first | apply Kd.N_alloc | apply Kd.N_drewN | apply Kd.N_drew)); exact HO154.out) hb); have n1_ := Aside0.mk (below_step (by repeat (first | (with_reducible first | exact HB.out | apply below_alloc | apply pw_below_drewN | apply below_drew1) | exact HB.out)) hb); clear HO154; clear HB; have HO154 := n0_; have HB := n1_; clear n0_ n1_; (try clear hb); (try clear hb2); (try clear hk); (try clear hi)))
  go_ret
  exact ⟨by first | rfl | (simp [errW_none, errW_some] <;> rfl) | (simp [*, errW_none, errW_some] <;> rfl), by repeat (first | (with_reducible first | exact HB.out | apply below_alloc | apply pw_below_drewN | apply below_drew1) | exact HB.out)⟩

end Go.Proofs.YtajaedebndeajaaDoor.Q

namespace Go.Proofs.YtajaedebndeajaaDoor.Pure
open Go Go.RowKit Go.Proofs.YtajaedebndeajaaDoor.Q Go.Proofs.YtajaedebndeajaaDoor.Quad Go.Proofs.YtajaedebndeajaaDoorW.PrintWords Go.Proofs.YtajaedebndeajaaDoorW.PrintLast Go.Proofs.YtajaedebndeajaaDoorW.PrintMore
set_option linter.unusedVariables false
set_option linter.unusedSimpArgs false

theorem awake_is : wharfingerlaw13_awake.f = some true := by decide +kernel
def fewR (r : S44) : Bool := decide (r.f1.size ≤ 300) && decide (r.f2.size ≤ 300)
def fewT (t : Ten) : Bool := decide (t.f5.length ≤ 20) && decide (t.f0.size ≤ 300) && decide (t.f1.size ≤ 300) && t.f5.all fewR
def fewS (l : List Ten) : Bool := decide (l.length ≤ 6) && l.all fewT
theorem few_ok {l : List Ten} (h : fewS l = true) : okAll l := by
  rw [fewS, Bool.and_eq_true, decide_eq_true_iff, List.all_eq_true] at h
  refine ⟨by omega, fun t ht => ?_⟩
  have := h.2 t ht
  rw [fewT, Bool.and_eq_true, Bool.and_eq_true, Bool.and_eq_true, decide_eq_true_iff, decide_eq_true_iff, decide_eq_true_iff, List.all_eq_true] at this
  obtain ⟨⟨⟨h1, h2⟩, h3⟩, h4⟩ := this
  refine ⟨by omega, by omega, by omega, fun r hr => ?_⟩
  have := h4 r hr
  rw [fewR, Bool.and_eq_true, decide_eq_true_iff, decide_eq_true_iff] at this
  exact ⟨by omega, by omega⟩
theorem few_l1 (o0 o1 o2 o3 : Int) (l : List Ten) (pre life idle : Int) (lf : Bool) (t : Ten) (i : Nat) (hi : i < 1000) (R : Bool) (hR : Ev (fun k => wharfingerlaw13_Few.l0 k ((i + 1 : Nat) : Int) o0 o1 o2 o3 l pre life idle lf) R) (ht : t.f5.length ≤ 1000) :
    ∀ d j : Nat, j + d = t.f5.length → Ev (fun k => wharfingerlaw13_Few.l1 k (i : Int) (j : Int) o0 o1 o2 o3 l pre life idle lf t.f0 t.f1 t.f2.f0.f0 t.f2.f0.f1 t.f2.f0.f2 t.f2.f0.f3 t.f2.f1 t.f3 t.f4 t.f5 t.f6 t.f7 t.f8 t.f9) ((t.f5.drop j).all fewR && R) := by
  intro d
  induction d with
  | zero =>
    intro j hj
    refine Ev.step (fun k => ?_) (by rw [List.drop_of_length_le (by omega), List.all_nil, Bool.true_and]; exact hR)
    simp only [wharfingerlaw13_Few.l1]
    rw [if_neg (by omega), wrap_up (by omega)]
  | succ d ih =>
    intro j hj
    have hlt : j < t.f5.length := by omega
    rw [List.drop_eq_getElem_cons hlt, List.all_cons]
    by_cases h1 : (t.f5[j]).f1.size ≤ 300
    · by_cases h2 : (t.f5[j]).f2.size ≤ 300
      · rw [fewR, decide_eq_true h1, decide_eq_true h2]
        refine Ev.step (fun k => ?_) (ih (j + 1) (by omega))
        simp only [wharfingerlaw13_Few.l1]
        rw [if_pos (by omega), if_pos (by omega), rd_rule _ j hlt, if_neg (by omega), if_neg (by omega), wrap_up (by omega)]
      · rw [fewR, decide_eq_true h1, decide_eq_false h2]
        refine Ev.step (f := fun _ => some false) (fun k => ?_) (Ev.now _)
        simp only [wharfingerlaw13_Few.l1]
        rw [if_pos (by omega), if_pos (by omega), rd_rule _ j hlt, if_neg (by omega), if_pos (by omega)]
    · rw [fewR, decide_eq_false h1]
      refine Ev.step (f := fun _ => some false) (fun k => ?_) (Ev.now _)
      simp only [wharfingerlaw13_Few.l1]
      rw [if_pos (by omega), if_pos (by omega), rd_rule _ j hlt, if_pos (by omega)]
theorem few_j1 (o0 o1 o2 o3 : Int) (l : List Ten) (pre life idle : Int) (lf : Bool) (t : Ten) (i : Nat) (hi : i < 1000) (R : Bool) (hR : Ev (fun k => wharfingerlaw13_Few.l0 k ((i + 1 : Nat) : Int) o0 o1 o2 o3 l pre life idle lf) R) (ht : t.f5.length ≤ 1000) (b : Bool) :
    Ev (fun k => wharfingerlaw13_Few.j1 k (i : Int) b o0 o1 o2 o3 l pre life idle lf t.f0 t.f1 t.f2.f0.f0 t.f2.f0.f1 t.f2.f0.f2 t.f2.f0.f3 t.f2.f1 t.f3 t.f4 t.f5 t.f6 t.f7 t.f8 t.f9) (!b && (t.f5.all fewR && R)) := by
  cases b
  · refine Ev.step (fun k => ?_) (by have := few_l1 o0 o1 o2 o3 l pre life idle lf t i hi R hR ht t.f5.length 0 (by omega); rwa [List.drop_zero] at this)
    simp only [wharfingerlaw13_Few.j1]
    rfl
  · refine Ev.step (f := fun _ => some false) (fun k => ?_) (Ev.now _)
    simp only [wharfingerlaw13_Few.j1]
    rfl
theorem few_j1t (o0 o1 o2 o3 : Int) (l : List Ten) (pre life idle : Int) (lf : Bool) (t : Ten) (i : Int) :
    Ev (fun k => wharfingerlaw13_Few.j1 k i true o0 o1 o2 o3 l pre life idle lf t.f0 t.f1 t.f2.f0.f0 t.f2.f0.f1 t.f2.f0.f2 t.f2.f0.f3 t.f2.f1 t.f3 t.f4 t.f5 t.f6 t.f7 t.f8 t.f9) false := by
  refine Ev.step (f := fun _ => some false) (fun k => ?_) (Ev.now _)
  simp only [wharfingerlaw13_Few.j1]
  rfl
theorem few_l0 (o0 o1 o2 o3 : Int) (l : List Ten) (pre life idle : Int) (lf : Bool) (hl : l.length ≤ 6) : ∀ d i : Nat, i + d = l.length → Ev (fun k => wharfingerlaw13_Few.l0 k (i : Int) o0 o1 o2 o3 l pre life idle lf) ((l.drop i).all fewT) := by
  intro d
  induction d with
  | zero =>
    intro i hi
    refine Ev.step (f := fun _ => some true) (fun k => ?_) (by rw [List.drop_of_length_le (by omega)]; exact Ev.now _)
    simp only [wharfingerlaw13_Few.l0]
    rw [if_neg (by omega)]
  | succ d ih =>
    intro i hi
    have hlt : i < l.length := by omega
    rw [List.drop_eq_getElem_cons hlt, List.all_cons]
    by_cases h1 : (l[i]).f5.length ≤ 20
    · by_cases h2 : (l[i]).f0.size ≤ 300
      · have := few_j1 o0 o1 o2 o3 l pre life idle lf l[i] i (by omega) _ (ih (i + 1) (by omega)) (by omega) (decide (((l[i]).f1.size : Int) > 300))
        refine Ev.step (fun k => ?_) (by
          rw [show (fewT l[i] && (l.drop (i + 1)).all fewT) = (!decide (((l[i]).f1.size : Int) > 300) && ((l[i]).f5.all fewR && (l.drop (i + 1)).all fewT)) from by
            rw [fewT, decide_eq_true h1, decide_eq_true h2, Bool.and_assoc, show decide ((l[i]).f1.size ≤ 300) = !decide (((l[i]).f1.size : Int) > 300) from by rw [← decide_not, decide_eq_decide]; omega]; rfl]
          exact this)
        simp only [wharfingerlaw13_Few.l0]
        rw [if_pos (by omega), if_pos (by omega), rd_ten _ i hlt, if_neg (by omega), if_neg (by omega)]
      · refine Ev.step (fun k => ?_) (by rw [fewT, decide_eq_true h1, decide_eq_false h2]; exact few_j1t o0 o1 o2 o3 l pre life idle lf l[i] i)
        simp only [wharfingerlaw13_Few.l0]
        rw [if_pos (by omega), if_pos (by omega), rd_ten _ i hlt, if_neg (by omega), if_pos (by omega)]
    · refine Ev.step (fun k => ?_) (by rw [fewT, decide_eq_false h1]; exact few_j1t o0 o1 o2 o3 l pre life idle lf l[i] i)
      simp only [wharfingerlaw13_Few.l0]
      rw [if_pos (by omega), if_pos (by omega), rd_ten _ i hlt, if_pos (by omega)]
theorem few_ev (o0 o1 o2 o3 : Int) (l : List Ten) (pre life idle : Int) (lf : Bool) : Ev (fun k => wharfingerlaw13_Few.f k o0 o1 o2 o3 l pre life idle lf) (fewS l) := by
  unfold wharfingerlaw13_Few.f fewS
  by_cases h : l.length ≤ 6
  · have h2 := few_l0 o0 o1 o2 o3 l pre life idle lf h l.length 0 (by omega)
    rw [List.drop_zero] at h2
    rw [decide_eq_true h, Bool.true_and]
    simp only [show ¬ ((l.length : Int) > 6) from by omega, ↓reduceIte]
    exact h2
  · rw [decide_eq_false h, Bool.false_and]
    simp only [show ((l.length : Int) > 6) from by omega, ↓reduceIte]
    exact Ev.now _

/-! ### The reference -/
end Go.Proofs.YtajaedebndeajaaDoor.Pure

namespace Go.Proofs.YtajaedebndeajaaDoor.Pure
open Go Go.RowKit Go.Proofs.YtajaedebndeajaaDoor.Q Go.Proofs.YtajaedebndeajaaDoor.Quad Go.Proofs.YtajaedebndeajaaDoorW.PrintWords Go.Proofs.YtajaedebndeajaaDoorW.PrintLast Go.Proofs.YtajaedebndeajaaDoorW.PrintMore
set_option linter.unusedVariables false
set_option linter.unusedSimpArgs false

theorem why_at (o0 o1 o2 o3 : Int) (l : List Ten) (pre life idle : Int) (lf : Bool) (hl : okAll l) : conf_Why.f o0 o1 o2 o3 l pre life idle lf = some (whyS l pre life idle) := if_pos hl
theorem may_at (o0 o1 o2 o3 : Int) (l : List Ten) (pre life idle : Int) (lf : Bool) (hl : okAll l) : conf_May.f o0 o1 o2 o3 l pre life idle lf = some ((whyS l pre life idle).2 == 0) := if_pos hl
theorem head_other {n m : Nat} {pre life idle : Int} (h : okHead n pre life idle = true) (h1 : 1 ≤ m) (h4 : m ≤ 4) : okHead m pre life idle = true := by
  rw [okHead, Bool.and_eq_true] at h ⊢
  refine ⟨h.1, ?_⟩
  rw [inR, decide_eq_true (by omega), decide_eq_true (by omega)]; rfl
/-- What it means that a conf may be. -/
theorem may_means {l : List Ten} {pre life idle : Int} (h : ((whyS l pre life idle).2 == 0) = true) : okHead l.length pre life idle = true ∧ ∀ j, j < l.length → fine l j := by
  rw [whyS] at h
  cases hh : okHead l.length pre life idle
  · rw [hh] at h; simp at h
  · rw [hh, if_pos rfl] at h
    refine ⟨rfl, ?_⟩
    rcases scan_goes l with ⟨_, hf⟩ | ⟨i, hi, hs, _⟩ | ⟨i, hi, hs, _⟩
    · exact hf
    · rw [hs] at h; simp at h
    · rw [hs] at h; simp at h
end Go.Proofs.YtajaedebndeajaaDoor.Pure
