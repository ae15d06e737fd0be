/- Contracts and plain facts that the law's proof needs. -/
import Derived.Test.YtajaedebndeajaaDoorM2
import Derived.Lib.IndexAny
import Derived.Stop.IfaceNil
namespace Go.Proofs.YtajaedebndeajaaDoor.Q
open Go.RowKit Go.Proofs.YtajaedebndeajaaDoor.AclMet Go.Proofs.YtajaedebndeajaaDoorW.PrintWords Go.Proofs.YtajaedebndeajaaDoorW.PrintLast Go.Proofs.YtajaedebndeajaaDoorW.PrintMore
attribute [local go_sem] max2_int min2_int max_two min_two max_three min_three max_four min_four   -- for this text's walks alone
set_option linter.unusedVariables false
set_option linter.unusedSimpArgs false

/-! ### conf_one: function 23 -/
def conf_one.j0 : Nat → Bool → ByteArray → ByteArray → Int → Int → Int → Int → Int → Int → Int → List (S44) → Int → Int → Int → Int → Option (Bool)
 | 0, _, _, _, _, _, _, _, _, _, _, _, _, _, _, _ => none
 | k + 1, x5, x121000, x121001, x121002, x121003, x121004, x121005, x121006, x121007, x121008, x121009, x121010, x121011, x121012, x121013 => (conf_in.f x121010 1 8).bind fun t124 => (if t124 = true then ((conf_in.f x121011 1 8).bind fun t125 => (if t125 = true then ((sat_May.f x121012).bind fun t126 => (if t126 = true then ((sat_May.f x121013).bind fun t127 => (if x5 = true then (if t127 = true then ((conf_in.f x121006 1 65535).bind fun t128 => (if t128 = true then ((acl_May.f k x121009).bind fun t129 => (some t129)) else (some false))) else (some false)) else (some false))) else (if x5 = true then (some false) else (some false)))) else (if x5 = true then (some false) else (some false)))) else (if x5 = true then (some false) else (some false)))
def conf_one.f (k : Nat) (a0_0 : ByteArray) (a0_1 : ByteArray) (a0_2 : Int) (a0_3 : Int) (a0_4 : Int) (a0_5 : Int) (a0_6 : Int) (a0_7 : Int) (a0_8 : Int) (l0_9 : List (S44)) (a0_10 : Int) (a0_11 : Int) (a0_12 : Int) (a0_13 : Int) (l1 : List (S40)) : Option (Bool) := (route_User.f k a0_0).bind fun t121 => (if t121 = true then ((route_Name.f k a0_1).bind fun t122 => (if t122 = true then ((route_Find.f l1 a0_1).bind fun t123 => (conf_one.j0 k (decide (t123 < 0)) a0_0 a0_1 a0_2 a0_3 a0_4 a0_5 a0_6 a0_7 a0_8 l0_9 a0_10 a0_11 a0_12 a0_13)) else (conf_one.j0 k false a0_0 a0_1 a0_2 a0_3 a0_4 a0_5 a0_6 a0_7 a0_8 l0_9 a0_10 a0_11 a0_12 a0_13))) else (conf_one.j0 k false a0_0 a0_1 a0_2 a0_3 a0_4 a0_5 a0_6 a0_7 a0_8 l0_9 a0_10 a0_11 a0_12 a0_13))
theorem conf_one.mono_l : ∀ k, (∀ y0 y1 y2 y3 y4 y5 y6 y7 y8 y9 y10 y11 y12 y13 y14, LeO (conf_one.j0 k y0 y1 y2 y3 y4 y5 y6 y7 y8 y9 y10 y11 y12 y13 y14) (conf_one.j0 (k + 1) y0 y1 y2 y3 y4 y5 y6 y7 y8 y9 y10 y11 y12 y13 y14))
 | 0 => fun _ _ _ _ _ _ _ _ _ _ _ _ _ _ _ r h => by simp [conf_one.j0] at h
 | k + 1 => by
  have ih0 := conf_one.mono_l k
  ·
   intro y0 y1 y2 y3 y4 y5 y6 y7 y8 y9 y10 y11 y12 y13 y14
   unfold conf_one.j0
   repeat' first
   | (with_reducible exact ih0 _ _ _ _ _ _ _ _ _ _ _ _ _ _ _)
   | (with_reducible exact acl_May.mono _ _)
   | (with_reducible exact route_Name.mono _ _)
   | (with_reducible exact route_User.mono _ _)
   | (with_reducible exact LeO.refl _)
   | (with_reducible exact LeO.none _)
   | (with_reducible refine LeO.ite ?_ ?_)
   | (with_reducible refine LeO.bind ?_ (fun _ => ?_))
   | exact ih0 _ _ _ _ _ _ _ _ _ _ _ _ _ _ _
   | exact acl_May.mono _ _
   | exact route_Name.mono _ _
   | exact route_User.mono _ _
   | exact LeO.none _
   | refine LeO.ite ?_ ?_
   | refine LeO.bind ?_ (fun _ => ?_)
theorem conf_one.mono : ∀ a0 a1 a2 a3 a4 a5 a6 a7 a8 a9 a10 a11 a12 a13 a14 k, LeO (conf_one.f k a0 a1 a2 a3 a4 a5 a6 a7 a8 a9 a10 a11 a12 a13 a14) (conf_one.f (k + 1) a0 a1 a2 a3 a4 a5 a6 a7 a8 a9 a10 a11 a12 a13 a14) := by
 intro a0 a1 a2 a3 a4 a5 a6 a7 a8 a9 a10 a11 a12 a13 a14 k
 have ih0 := conf_one.mono_l k
 unfold conf_one.f
 repeat' first
   | (with_reducible exact ih0 _ _ _ _ _ _ _ _ _ _ _ _ _ _ _)
   | (with_reducible exact acl_May.mono _ _)
   | (with_reducible exact route_Name.mono _ _)
   | (with_reducible exact route_User.mono _ _)
   | (with_reducible exact LeO.refl _)
   | (with_reducible exact LeO.none _)
   | (with_reducible refine LeO.ite ?_ ?_)
   | (with_reducible refine LeO.bind ?_ (fun _ => ?_))
   | exact ih0 _ _ _ _ _ _ _ _ _ _ _ _ _ _ _
   | exact acl_May.mono _ _
   | exact route_Name.mono _ _
   | exact route_User.mono _ _
   | exact LeO.none _
   | refine LeO.ite ?_ ?_
   | refine LeO.bind ?_ (fun _ => ?_)
set_option maxHeartbeats 8000000 in
set_option maxRecDepth 100000 in
theorem conf_one.calls (k : Nat) (a0_0 : ByteArray) (a0_1 : ByteArray) (a0_2 : Int) (a0_3 : Int) (a0_4 : Int) (a0_5 : Int) (a0_6 : Int) (a0_7 : Int) (a0_8 : Int) (A0_9 : Option Addr) (c0_9 : Nat) (l0_9 : List (S44)) (a0_10 : Int) (a0_11 : Int) (a0_12 : Int) (a0_13 : Int) (A1 : Option Addr) (c1 : Nat) (l1 : List (S40)) (r : Bool) (w : World) (hr0_9 : Kd.C k44 w A0_9 l0_9.length l0_9) (hc0_9 : l0_9.length ≤ c0_9) (hr1 : Kd.C k40 w A1 l1.length l1) (hc1 : l1.length ≤ c1) (hmet : WMet w) (h : conf_one.f k a0_0 a0_1 a0_2 a0_3 a0_4 a0_5 a0_6 a0_7 a0_8 l0_9 a0_10 a0_11 a0_12 a0_13 l1 = some r) :
  Calls Tryd.prog 23 #[.agg #[.string a0_0, .string a0_1, .int .u8 a0_2, .int .u8 a0_3, .int .u8 a0_4, .int .u8 a0_5, .int .i64 a0_6, .int .i64 a0_7, .int .i64 a0_8, .slice A0_9 l0_9.length c0_9, .int .i64 a0_10, .int .i64 a0_11, .int .i64 a0_12, .int .i64 a0_13], .slice A1 l1.length c1] w fun e w' => e = .returned (.bool r) ∧ Below w.heap.size w w' := by
 have HMET := Aside0.mk hmet
 clear hmet
 have hu40 := Tryd.underlying40
 have HR0_9 := Aside0.mk hr0_9
 have HC0_9 := Aside0.mk hc0_9
 clear hr0_9 hc0_9
 have HR1 := Aside0.mk hr1
 have HC1 := Aside0.mk hc1
 clear hr1 hc1
 have HB := Aside0.mk (Below.refl w.heap.size w)
 have H : ((route_User.f k a0_0).bind fun t121 => (if t121 = true then ((route_Name.f k a0_1).bind fun t122 => (if t122 = true then ((route_Find.f l1 a0_1).bind fun t123 => (conf_one.j0 k (decide (t123 < 0)) a0_0 a0_1 a0_2 a0_3 a0_4 a0_5 a0_6 a0_7 a0_8 l0_9 a0_10 a0_11 a0_12 a0_13)) else (conf_one.j0 k false a0_0 a0_1 a0_2 a0_3 a0_4 a0_5 a0_6 a0_7 a0_8 l0_9 a0_10 a0_11 a0_12 a0_13))) else (conf_one.j0 k false a0_0 a0_1 a0_2 a0_3 a0_4 a0_5 a0_6 a0_7 a0_8 l0_9 a0_10 a0_11 a0_12 a0_13))) = some r := h
 clear h
 have HC3 := Aside0.mk H
 clear H
 go_enter Tryd.func23, Tryd.ntmps23
 go_upto_region 1 with (first | ((with_reducible refine gate_dst (N := 2) rfl ?_); refine box_event ?hg (N := 2) ?hd (cs := #[.string a0_0, .string a0_1, .int .u8 a0_2, .int .u8 a0_3, .int .u8 a0_4, .int .u8 a0_5, .int .i64 a0_6, .int .i64 a0_7, .int .i64 a0_8, .slice A0_9 l0_9.length c0_9, .int .i64 a0_10, .int .i64 a0_11, .int .i64 a0_12, .int .i64 a0_13]) (t := 40) ?hr ?_; (case hd => rfl); (case hg => rfl); (case hr => first | (go_simp; done) | (go_simp; rfl)); intro gb120 hg w4 hbox hb; have n0_ := Aside0.mk (below_step (by repeat (first | (with_reducible first | exact HB.out | apply below_alloc | apply pw_below_drewN | apply below_drew1) | exact HB.out)) hb); have n1_ := Aside0.mk (hbox); have n2_ := Aside0.mk ((by rw [hg]; exact (below_size (by repeat (first | (with_reducible first | exact HB.out | apply below_alloc | apply pw_below_drewN | apply below_drew1) | exact HB.out))) : w.heap.size ≤ gb120)); have n3_ := Aside0.mk ((by rw [hg]; exact (below_size (by repeat (first | (with_reducible first | exact HB.out | apply below_alloc | apply pw_below_drewN | apply below_drew1) | exact HB.out))) : w.heap.size ≤ gb120)); clear HB; have HB := n0_; have BK120 := n1_; have GW120 := n2_; have GE120 := n3_; clear n0_ n1_ n2_ n3_; clear hb hbox hg))
 (try simp only [Act.put, List.setIfInBounds_toArray, List.set_cons_zero, List.set_cons_succ])
 go_cut [5] (fun v5 wc => ∃ (kq : Nat) (x5_2 : Bool), v5 = .bool x5_2 ∧ Aside0 (conf_one.j0 kq x5_2 a0_0 a0_1 a0_2 a0_3 a0_4 a0_5 a0_6 a0_7 a0_8 l0_9 a0_10 a0_11 a0_12 a0_13 = some r) ∧ Aside0 (kq ≤ k) ∧ Aside0 (wc.heap[gb120]? = some (.cells #[.string a0_0, .string a0_1, .int .u8 a0_2, .int .u8 a0_3, .int .u8 a0_4, .int .u8 a0_5, .int .i64 a0_6, .int .i64 a0_7, .int .i64 a0_8, (.slice A0_9 l0_9.length c0_9), .int .i64 a0_10, .int .i64 a0_11, .int .i64 a0_12, .int .i64 a0_13] 40 (0, 0))) ∧ Aside0 (Below w.heap.size w wc))
 case first =>
  have H := HC3.out
  clear HC3
  replace H := Option.bind_eq_some_iff.mp H
  obtain ⟨t121, A50, H⟩ := H
  replace H : (if t121 = true then ((route_Name.f k a0_1).bind fun t122 => (if t122 = true then ((route_Find.f l1 a0_1).bind fun t123 => (conf_one.j0 k (decide (t123 < 0)) a0_0 a0_1 a0_2 a0_3 a0_4 a0_5 a0_6 a0_7 a0_8 l0_9 a0_10 a0_11 a0_12 a0_13)) else (conf_one.j0 k false a0_0 a0_1 a0_2 a0_3 a0_4 a0_5 a0_6 a0_7 a0_8 l0_9 a0_10 a0_11 a0_12 a0_13))) else (conf_one.j0 k false a0_0 a0_1 a0_2 a0_3 a0_4 a0_5 a0_6 a0_7 a0_8 l0_9 a0_10 a0_11 a0_12 a0_13)) = some r := H
  have A5 := Aside0.mk A50
  clear A50
  by_cases c6 : t121 = true
  ·
   subst c6
   have H1 : ((route_Name.f k a0_1).bind fun t122 => (if t122 = true then ((route_Find.f l1 a0_1).bind fun t123 => (conf_one.j0 k (decide (t123 < 0)) a0_0 a0_1 a0_2 a0_3 a0_4 a0_5 a0_6 a0_7 a0_8 l0_9 a0_10 a0_11 a0_12 a0_13)) else (conf_one.j0 k false a0_0 a0_1 a0_2 a0_3 a0_4 a0_5 a0_6 a0_7 a0_8 l0_9 a0_10 a0_11 a0_12 a0_13))) = some r := by rw [if_pos rfl] at H; exact H
   clear H
   have H := H1
   clear H1
   replace H := Option.bind_eq_some_iff.mp H
   obtain ⟨t122, A70, H⟩ := H
   replace H : (if t122 = true then ((route_Find.f l1 a0_1).bind fun t123 => (conf_one.j0 k (decide (t123 < 0)) a0_0 a0_1 a0_2 a0_3 a0_4 a0_5 a0_6 a0_7 a0_8 l0_9 a0_10 a0_11 a0_12 a0_13)) else (conf_one.j0 k false a0_0 a0_1 a0_2 a0_3 a0_4 a0_5 a0_6 a0_7 a0_8 l0_9 a0_10 a0_11 a0_12 a0_13)) = some r := H
   have A7 := Aside0.mk A70
   clear A70
   by_cases c8 : t122 = true
   ·
    subst c8
    have H1 : ((route_Find.f l1 a0_1).bind fun t123 => (conf_one.j0 k (decide (t123 < 0)) a0_0 a0_1 a0_2 a0_3 a0_4 a0_5 a0_6 a0_7 a0_8 l0_9 a0_10 a0_11 a0_12 a0_13)) = some r := by rw [if_pos rfl] at H; exact H
    clear H
    have H := H1
    clear H1
    replace H := Option.bind_eq_some_iff.mp H
    obtain ⟨t123, A90, H⟩ := H
    replace H : (conf_one.j0 k (decide (t123 < 0)) a0_0 a0_1 a0_2 a0_3 a0_4 a0_5 a0_6 a0_7 a0_8 l0_9 a0_10 a0_11 a0_12 a0_13) = some r := H
    have A9 := Aside0.mk A90
    clear A90
    have H' := Aside0.mk H
    clear H
    have hcz10_0 : w4.cell? ⟨gb120, 0, none⟩ = some (.string a0_0) := (blk_cell BK120.out 0).trans rfl
    have hcz10_1 : w4.cell? ⟨gb120, 1, none⟩ = some (.string a0_1) := (blk_cell BK120.out 1).trans rfl
    have hcz10_2 : w4.cell? ⟨gb120, 2, none⟩ = some (.int .u8 a0_2) := (blk_cell BK120.out 2).trans rfl
    have hcz10_3 : w4.cell? ⟨gb120, 3, none⟩ = some (.int .u8 a0_3) := (blk_cell BK120.out 3).trans rfl
    have hcz10_4 : w4.cell? ⟨gb120, 4, none⟩ = some (.int .u8 a0_4) := (blk_cell BK120.out 4).trans rfl
    have hcz10_5 : w4.cell? ⟨gb120, 5, none⟩ = some (.int .u8 a0_5) := (blk_cell BK120.out 5).trans rfl
    have hcz10_6 : w4.cell? ⟨gb120, 6, none⟩ = some (.int .i64 a0_6) := (blk_cell BK120.out 6).trans rfl
    have hcz10_7 : w4.cell? ⟨gb120, 7, none⟩ = some (.int .i64 a0_7) := (blk_cell BK120.out 7).trans rfl
    have hcz10_8 : w4.cell? ⟨gb120, 8, none⟩ = some (.int .i64 a0_8) := (blk_cell BK120.out 8).trans rfl
    have hcz10_9 : w4.cell? ⟨gb120, 9, none⟩ = some (.slice A0_9 l0_9.length c0_9) := (blk_cell BK120.out 9).trans rfl
    have hcz10_10 : w4.cell? ⟨gb120, 10, none⟩ = some (.int .i64 a0_10) := (blk_cell BK120.out 10).trans rfl
    have hcz10_11 : w4.cell? ⟨gb120, 11, none⟩ = some (.int .i64 a0_11) := (blk_cell BK120.out 11).trans rfl
    have hcz10_12 : w4.cell? ⟨gb120, 12, none⟩ = some (.int .i64 a0_12) := (blk_cell BK120.out 12).trans rfl
    have hcz10_13 : w4.cell? ⟨gb120, 13, none⟩ = some (.int .i64 a0_13) := (blk_cell BK120.out 13).trans rfl
    have hfz10_0 := blk_frozen BK120.out 0
    have hfz10_1 := blk_frozen BK120.out 1
    have hfz10_2 := blk_frozen BK120.out 2
    have hfz10_3 := blk_frozen BK120.out 3
    have hfz10_4 := blk_frozen BK120.out 4
    have hfz10_5 := blk_frozen BK120.out 5
    have hfz10_6 := blk_frozen BK120.out 6
    have hfz10_7 := blk_frozen BK120.out 7
    have hfz10_8 := blk_frozen BK120.out 8
    have hfz10_9 := blk_frozen BK120.out 9
    have hfz10_10 := blk_frozen BK120.out 10
    have hfz10_11 := blk_frozen BK120.out 11
    have hfz10_12 := blk_frozen BK120.out 12
    have hfz10_13 := blk_frozen BK120.out 13
    go_wp2_with (first | ((with_reducible refine gate_callee (f := 35) rfl ?_); refine goesL_ (some 9) rfl rfl Tryd.func35 (by kernel_rfl) rfl #[.string a0_0] rfl (by (try simp only [List.map_toArray, List.map_cons, List.map_nil]); first | done | rfl | (simp only [List.length_drop, List.length_take]; rfl)) ?_; (with_reducible refine (route_User.calls k a0_0 true _ A5.out).mono ?_); rintro e w' ⟨rfl, ⟨nd, rfl⟩⟩; refine ⟨_, rfl, ?_⟩) | (go_at_call 36; (with_reducible refine (route_Name.calls k a0_1 true _ A7.out).mono ?_); rintro e w' ⟨rfl, ⟨nd, rfl⟩⟩) | (go_at_call 37; (with_reducible refine (route_Find.calls _ _ l1 a0_1 t123 _ ?side1 ?side2 A9.out).mono ?_); (case side1 => repeat (first | exact (Kd.C_below HR1.out (by repeat (first | (with_reducible first | exact HB.out | apply below_alloc | apply pw_below_drewN | apply below_drew1 | refine below_set ?_ GE120.out) | exact HB.out))) | (with_reducible refine Kd.C_alloc ?_ _) | (with_reducible refine Kd.C_drewN ?_ _) | (with_reducible refine Kd.C_drew ?_))); (case side2 => exact HC1.out); rintro e w11 ⟨rfl, hb⟩; have n0_ := Aside0.mk (blk_below (g := gb120) (o := .cells #[.string a0_0, .string a0_1, .int .u8 a0_2, .int .u8 a0_3, .int .u8 a0_4, .int .u8 a0_5, .int .i64 a0_6, .int .i64 a0_7, .int .i64 a0_8, .slice A0_9 l0_9.length c0_9, .int .i64 a0_10, .int .i64 a0_11, .int .i64 a0_12, .int .i64 a0_13] 40 (0, 0)) (by (with_reducible repeat (first | refine blk_drewN ?_ _ | refine blk_drew ?_ | refine blk_alloc ?_ _)); exact BK120.out) hb); have n1_ := Aside0.mk (below_step (by repeat (first | (with_reducible first | exact HB.out | apply below_alloc | apply pw_below_drewN | apply below_drew1 | refine below_set ?_ GE120.out) | exact HB.out)) hb); clear BK120; clear HB; have BK120 := n0_; have HB := n1_; clear n0_ n1_; (try clear hb); (try clear hb2); (try clear hk); (try clear hi)))
    go_meet
    case rel => exact ⟨_, (decide (t123 < 0)), (by first | rfl | (simp; done) | (simp [*]; done)), H', ⟨by first | omega | exact Nat.le_refl _⟩, ⟨by (with_reducible repeat (first | refine blk_drewN ?_ _ | refine blk_drew ?_ | refine blk_alloc ?_ _)); exact BK120.out⟩, ⟨by repeat (first | (with_reducible first | exact HB.out | apply below_alloc | apply pw_below_drewN | apply below_drew1 | refine below_set ?_ GE120.out) | exact HB.out)⟩⟩
   ·
    replace c8 := Bool.eq_false_iff.mpr c8
    subst c8
    have H1 : (conf_one.j0 k false a0_0 a0_1 a0_2 a0_3 a0_4 a0_5 a0_6 a0_7 a0_8 l0_9 a0_10 a0_11 a0_12 a0_13) = some r := by rw [if_neg (show ¬ (false = true) by decide)] at H; exact H
    clear H
    have H := H1
    clear H1
    have H' := Aside0.mk H
    clear H
    have hcz12_0 : w4.cell? ⟨gb120, 0, none⟩ = some (.string a0_0) := (blk_cell BK120.out 0).trans rfl
    have hcz12_1 : w4.cell? ⟨gb120, 1, none⟩ = some (.string a0_1) := (blk_cell BK120.out 1).trans rfl
    have hcz12_2 : w4.cell? ⟨gb120, 2, none⟩ = some (.int .u8 a0_2) := (blk_cell BK120.out 2).trans rfl
    have hcz12_3 : w4.cell? ⟨gb120, 3, none⟩ = some (.int .u8 a0_3) := (blk_cell BK120.out 3).trans rfl
    have hcz12_4 : w4.cell? ⟨gb120, 4, none⟩ = some (.int .u8 a0_4) := (blk_cell BK120.out 4).trans rfl
    have hcz12_5 : w4.cell? ⟨gb120, 5, none⟩ = some (.int .u8 a0_5) := (blk_cell BK120.out 5).trans rfl
    have hcz12_6 : w4.cell? ⟨gb120, 6, none⟩ = some (.int .i64 a0_6) := (blk_cell BK120.out 6).trans rfl
    have hcz12_7 : w4.cell? ⟨gb120, 7, none⟩ = some (.int .i64 a0_7) := (blk_cell BK120.out 7).trans rfl
    have hcz12_8 : w4.cell? ⟨gb120, 8, none⟩ = some (.int .i64 a0_8) := (blk_cell BK120.out 8).trans rfl
    have hcz12_9 : w4.cell? ⟨gb120, 9, none⟩ = some (.slice A0_9 l0_9.length c0_9) := (blk_cell BK120.out 9).trans rfl
    have hcz12_10 : w4.cell? ⟨gb120, 10, none⟩ = some (.int .i64 a0_10) := (blk_cell BK120.out 10).trans rfl
    have hcz12_11 : w4.cell? ⟨gb120, 11, none⟩ = some (.int .i64 a0_11) := (blk_cell BK120.out 11).trans rfl
    have hcz12_12 : w4.cell? ⟨gb120, 12, none⟩ = some (.int .i64 a0_12) := (blk_cell BK120.out 12).trans rfl
    have hcz12_13 : w4.cell? ⟨gb120, 13, none⟩ = some (.int .i64 a0_13) := (blk_cell BK120.out 13).trans rfl
    have hfz12_0 := blk_frozen BK120.out 0
    have hfz12_1 := blk_frozen BK120.out 1
    have hfz12_2 := blk_frozen BK120.out 2
    have hfz12_3 := blk_frozen BK120.out 3
    have hfz12_4 := blk_frozen BK120.out 4
    have hfz12_5 := blk_frozen BK120.out 5
    have hfz12_6 := blk_frozen BK120.out 6
    have hfz12_7 := blk_frozen BK120.out 7
    have hfz12_8 := blk_frozen BK120.out 8
    have hfz12_9 := blk_frozen BK120.out 9
    have hfz12_10 := blk_frozen BK120.out 10
    have hfz12_11 := blk_frozen BK120.out 11
    have hfz12_12 := blk_frozen BK120.out 12
    have hfz12_13 := blk_frozen BK120.out 13
    go_wp2_with (first | ((with_reducible refine gate_callee (f := 35) rfl ?_); refine goesL_ (some 9) rfl rfl Tryd.func35 (by kernel_rfl) rfl #[.string a0_0] rfl (by (try simp only [List.map_toArray, List.map_cons, List.map_nil]); first | done | rfl | (simp only [List.length_drop, List.length_take]; rfl)) ?_; (with_reducible refine (route_User.calls k a0_0 true _ A5.out).mono ?_); rintro e w' ⟨rfl, ⟨nd, rfl⟩⟩; refine ⟨_, rfl, ?_⟩) | (go_at_call 36; (with_reducible refine (route_Name.calls k a0_1 false _ A7.out).mono ?_); rintro e w' ⟨rfl, ⟨nd, rfl⟩⟩))
    go_meet
    case rel => exact ⟨_, (false), (by first | rfl | (simp; done) | (simp [*]; done)), H', ⟨by first | omega | exact Nat.le_refl _⟩, ⟨by (with_reducible repeat (first | refine blk_drewN ?_ _ | refine blk_drew ?_ | refine blk_alloc ?_ _)); exact BK120.out⟩, ⟨by repeat (first | (with_reducible first | exact HB.out | apply below_alloc | apply pw_below_drewN | apply below_drew1 | refine below_set ?_ GE120.out) | exact HB.out)⟩⟩
  ·
   replace c6 := Bool.eq_false_iff.mpr c6
   subst c6
   have H1 : (conf_one.j0 k false a0_0 a0_1 a0_2 a0_3 a0_4 a0_5 a0_6 a0_7 a0_8 l0_9 a0_10 a0_11 a0_12 a0_13) = some r := by rw [if_neg (show ¬ (false = true) by decide)] at H; exact H
   clear H
   have H := H1
   clear H1
   have H' := Aside0.mk H
   clear H
   have hcz13_0 : w4.cell? ⟨gb120, 0, none⟩ = some (.string a0_0) := (blk_cell BK120.out 0).trans rfl
   have hcz13_1 : w4.cell? ⟨gb120, 1, none⟩ = some (.string a0_1) := (blk_cell BK120.out 1).trans rfl
   have hcz13_2 : w4.cell? ⟨gb120, 2, none⟩ = some (.int .u8 a0_2) := (blk_cell BK120.out 2).trans rfl
   have hcz13_3 : w4.cell? ⟨gb120, 3, none⟩ = some (.int .u8 a0_3) := (blk_cell BK120.out 3).trans rfl
   have hcz13_4 : w4.cell? ⟨gb120, 4, none⟩ = some (.int .u8 a0_4) := (blk_cell BK120.out 4).trans rfl
   have hcz13_5 : w4.cell? ⟨gb120, 5, none⟩ = some (.int .u8 a0_5) := (blk_cell BK120.out 5).trans rfl
   have hcz13_6 : w4.cell? ⟨gb120, 6, none⟩ = some (.int .i64 a0_6) := (blk_cell BK120.out 6).trans rfl
   have hcz13_7 : w4.cell? ⟨gb120, 7, none⟩ = some (.int .i64 a0_7) := (blk_cell BK120.out 7).trans rfl
   have hcz13_8 : w4.cell? ⟨gb120, 8, none⟩ = some (.int .i64 a0_8) := (blk_cell BK120.out 8).trans rfl
   have hcz13_9 : w4.cell? ⟨gb120, 9, none⟩ = some (.slice A0_9 l0_9.length c0_9) := (blk_cell BK120.out 9).trans rfl
   have hcz13_10 : w4.cell? ⟨gb120, 10, none⟩ = some (.int .i64 a0_10) := (blk_cell BK120.out 10).trans rfl
   have hcz13_11 : w4.cell? ⟨gb120, 11, none⟩ = some (.int .i64 a0_11) := (blk_cell BK120.out 11).trans rfl
   have hcz13_12 : w4.cell? ⟨gb120, 12, none⟩ = some (.int .i64 a0_12) := (blk_cell BK120.out 12).trans rfl
   have hcz13_13 : w4.cell? ⟨gb120, 13, none⟩ = some (.int .i64 a0_13) := (blk_cell BK120.out 13).trans rfl
   have hfz13_0 := blk_frozen BK120.out 0
   have hfz13_1 := blk_frozen BK120.out 1
   have hfz13_2 := blk_frozen BK120.out 2
   have hfz13_3 := blk_frozen BK120.out 3
   have hfz13_4 := blk_frozen BK120.out 4
   have hfz13_5 := blk_frozen BK120.out 5
   have hfz13_6 := blk_frozen BK120.out 6
   have hfz13_7 := blk_frozen BK120.out 7
   have hfz13_8 := blk_frozen BK120.out 8
   have hfz13_9 := blk_frozen BK120.out 9
   have hfz13_10 := blk_frozen BK120.out 10
   have hfz13_11 := blk_frozen BK120.out 11
   have hfz13_12 := blk_frozen BK120.out 12
   have hfz13_13 := blk_frozen BK120.out 13
   go_wp2_with (first | ((with_reducible refine gate_callee (f := 35) rfl ?_); refine goesL_ (some 9) rfl rfl Tryd.func35 (by kernel_rfl) rfl #[.string a0_0] rfl (by (try simp only [List.map_toArray, List.map_cons, List.map_nil]); first | done | rfl | (simp only [List.length_drop, List.length_take]; rfl)) ?_; (with_reducible refine (route_User.calls k a0_0 false _ A5.out).mono ?_); rintro e w' ⟨rfl, ⟨nd, rfl⟩⟩; refine ⟨_, rfl, ?_⟩))
   go_meet
   case rel => exact ⟨_, (false), (by first | rfl | (simp; done) | (simp [*]; done)), H', ⟨by first | omega | exact Nat.le_refl _⟩, ⟨by (with_reducible repeat (first | refine blk_drewN ?_ _ | refine blk_drew ?_ | refine blk_alloc ?_ _)); exact BK120.out⟩, ⟨by repeat (first | (with_reducible first | exact HB.out | apply below_alloc | apply pw_below_drewN | apply below_drew1 | refine below_set ?_ GE120.out) | exact HB.out)⟩⟩
 case rest =>
  clear HC3
  try clear c1
  try clear c2
  try clear p2
  try clear c3
  try clear c6
  try clear c8
  try clear hcz10_0
  try clear hcz10_1
  try clear hcz10_10
  try clear hcz10_11
  try clear hcz10_12
  try clear hcz10_13
  try clear hcz10_2
  try clear hcz10_3
  try clear hcz10_4
  try clear hcz10_5
  try clear hcz10_6
  try clear hcz10_7
  try clear hcz10_8
  try clear hcz10_9
  try clear hcz12_0
  try clear hcz12_1
  try clear hcz12_10
  try clear hcz12_11
  try clear hcz12_12
  try clear hcz12_13
  try clear hcz12_2
  try clear hcz12_3
  try clear hcz12_4
  try clear hcz12_5
  try clear hcz12_6
  try clear hcz12_7
  try clear hcz12_8
  try clear hcz12_9
  try clear hcz13_0
  try clear hcz13_1
  try clear hcz13_10
  try clear hcz13_11
  try clear hcz13_12
  try clear hcz13_13
  try clear hcz13_2
  try clear hcz13_3
  try clear hcz13_4
  try clear hcz13_5
  try clear hcz13_6
  try clear hcz13_7
  try clear hcz13_8
  try clear hcz13_9
  try clear hfz10_0
  try clear hfz10_1
  try clear hfz10_10
  try clear hfz10_11
  try clear hfz10_12
  try clear hfz10_13
  try clear hfz10_2
  try clear hfz10_3
  try clear hfz10_4
  try clear hfz10_5
  try clear hfz10_6
  try clear hfz10_7
  try clear hfz10_8
  try clear hfz10_9
  try clear hfz12_0
  try clear hfz12_1
  try clear hfz12_10
  try clear hfz12_11
  try clear hfz12_12
  try clear hfz12_13
  try clear hfz12_2
  try clear hfz12_3
  try clear hfz12_4
  try clear hfz12_5
  try clear hfz12_6
  try clear hfz12_7
  try clear hfz12_8
  try clear hfz12_9
  try clear hfz13_0
  try clear hfz13_1
  try clear hfz13_10
  try clear hfz13_11
  try clear hfz13_12
  try clear hfz13_13
  try clear hfz13_2
  try clear hfz13_3
  try clear hfz13_4
  try clear hfz13_5
  try clear hfz13_6
  try clear hfz13_7
  try clear hfz13_8
  try clear hfz13_9
  obtain ⟨kq, x5_2, rfl, HA, HJ2, BK120, HB⟩ := hcut
  cases kq with
  | zero => exact absurd HA.out (by simp [conf_one.j0])
  | succ kj2 =>
   have H := HA.out
   clear HA
   simp only [conf_one.j0] at H
   replace H := Option.bind_eq_some_iff.mp H
   obtain ⟨t124, A140, H⟩ := H
   replace H : (if t124 = true then ((conf_in.f a0_11 1 8).bind fun t125 => (if t125 = true then ((sat_May.f a0_12).bind fun t126 => (if t126 = true then ((sat_May.f a0_13).bind fun t127 => (if x5_2 = true then (if t127 = true then ((conf_in.f a0_6 1 65535).bind fun t128 => (if t128 = true then ((acl_May.f kj2 l0_9).bind fun t129 => (some t129)) else (some false))) else (some false)) else (some false))) else (if x5_2 = true then (some false) else (some false)))) else (if x5_2 = true then (some false) else (some false)))) else (if x5_2 = true then (some false) else (some false))) = some r := H
   have A14 := Aside0.mk A140
   clear A140
   by_cases c15 : t124 = true
   ·
    subst c15
    have H1 : ((conf_in.f a0_11 1 8).bind fun t125 => (if t125 = true then ((sat_May.f a0_12).bind fun t126 => (if t126 = true then ((sat_May.f a0_13).bind fun t127 => (if x5_2 = true then (if t127 = true then ((conf_in.f a0_6 1 65535).bind fun t128 => (if t128 = true then ((acl_May.f kj2 l0_9).bind fun t129 => (some t129)) else (some false))) else (some false)) else (some false))) else (if x5_2 = true then (some false) else (some false)))) else (if x5_2 = true then (some false) else (some false)))) = some r := by rw [if_pos rfl] at H; exact H
    clear H
    have H := H1
    clear H1
    replace H := Option.bind_eq_some_iff.mp H
    obtain ⟨t125, A160, H⟩ := H
    replace H : (if t125 = true then ((sat_May.f a0_12).bind fun t126 => (if t126 = true then ((sat_May.f a0_13).bind fun t127 => (if x5_2 = true then (if t127 = true then ((conf_in.f a0_6 1 65535).bind fun t128 => (if t128 = true then ((acl_May.f kj2 l0_9).bind fun t129 => (some t129)) else (some false))) else (some false)) else (some false))) else (if x5_2 = true then (some false) else (some false)))) else (if x5_2 = true then (some false) else (some false))) = some r := H
    have A16 := Aside0.mk A160
    clear A160
    by_cases c17 : t125 = true
    ·
     subst c17
     have H1 : ((sat_May.f a0_12).bind fun t126 => (if t126 = true then ((sat_May.f a0_13).bind fun t127 => (if x5_2 = true then (if t127 = true then ((conf_in.f a0_6 1 65535).bind fun t128 => (if t128 = true then ((acl_May.f kj2 l0_9).bind fun t129 => (some t129)) else (some false))) else (some false)) else (some false))) else (if x5_2 = true then (some false) else (some false)))) = some r := by rw [if_pos rfl] at H; exact H
     clear H
     have H := H1
     clear H1
     replace H := Option.bind_eq_some_iff.mp H
     obtain ⟨t126, A180, H⟩ := H
     replace H : (if t126 = true then ((sat_May.f a0_13).bind fun t127 => (if x5_2 = true then (if t127 = true then ((conf_in.f a0_6 1 65535).bind fun t128 => (if t128 = true then ((acl_May.f kj2 l0_9).bind fun t129 => (some t129)) else (some false))) else (some false)) else (some false))) else (if x5_2 = true then (some false) else (some false))) = some r := H
     have A18 := Aside0.mk A180
     clear A180
     by_cases c19 : t126 = true
     ·
      subst c19
      have H1 : ((sat_May.f a0_13).bind fun t127 => (if x5_2 = true then (if t127 = true then ((conf_in.f a0_6 1 65535).bind fun t128 => (if t128 = true then ((acl_May.f kj2 l0_9).bind fun t129 => (some t129)) else (some false))) else (some false)) else (some false))) = some r := by rw [if_pos rfl] at H; exact H
      clear H
      have H := H1
      clear H1
      replace H := Option.bind_eq_some_iff.mp H
      obtain ⟨t127, A200, H⟩ := H
      replace H : (if x5_2 = true then (if t127 = true then ((conf_in.f a0_6 1 65535).bind fun t128 => (if t128 = true then ((acl_May.f kj2 l0_9).bind fun t129 => (some t129)) else (some false))) else (some false)) else (some false)) = some r := H
      have A20 := Aside0.mk A200
      clear A200
      by_cases c21 : x5_2 = true
      ·
       subst c21
       have H1 : (if t127 = true then ((conf_in.f a0_6 1 65535).bind fun t128 => (if t128 = true then ((acl_May.f kj2 l0_9).bind fun t129 => (some t129)) else (some false))) else (some false)) = some r := by rw [if_pos rfl] at H; exact H
       clear H
       have H := H1
       clear H1
       by_cases c22 : t127 = true
       ·
        subst c22
        have H1 : ((conf_in.f a0_6 1 65535).bind fun t128 => (if t128 = true then ((acl_May.f kj2 l0_9).bind fun t129 => (some t129)) else (some false))) = some r := by rw [if_pos rfl] at H; exact H
        clear H
        have H := H1
        clear H1
        replace H := Option.bind_eq_some_iff.mp H
        obtain ⟨t128, A230, H⟩ := H
        replace H : (if t128 = true then ((acl_May.f kj2 l0_9).bind fun t129 => (some t129)) else (some false)) = some r := H
        have A23 := Aside0.mk A230
        clear A230
        by_cases c24 : t128 = true
        ·
         subst c24
         have H1 : ((acl_May.f kj2 l0_9).bind fun t129 => (some t129)) = some r := by rw [if_pos rfl] at H; exact H
         clear H
         have H := H1
         clear H1
         replace H := Option.bind_eq_some_iff.mp H
         obtain ⟨t129, A250, H⟩ := H
         replace H : (some t129) = some r := H
         have A25 := Aside0.mk A250
         clear A250
         obtain rfl := Option.some.inj H
         have hcz26_0 : wc.cell? ⟨gb120, 0, none⟩ = some (.string a0_0) := (blk_cell BK120.out 0).trans rfl
         have hcz26_1 : wc.cell? ⟨gb120, 1, none⟩ = some (.string a0_1) := (blk_cell BK120.out 1).trans rfl
         have hcz26_2 : wc.cell? ⟨gb120, 2, none⟩ = some (.int .u8 a0_2) := (blk_cell BK120.out 2).trans rfl
         have hcz26_3 : wc.cell? ⟨gb120, 3, none⟩ = some (.int .u8 a0_3) := (blk_cell BK120.out 3).trans rfl
         have hcz26_4 : wc.cell? ⟨gb120, 4, none⟩ = some (.int .u8 a0_4) := (blk_cell BK120.out 4).trans rfl
         have hcz26_5 : wc.cell? ⟨gb120, 5, none⟩ = some (.int .u8 a0_5) := (blk_cell BK120.out 5).trans rfl
         have hcz26_6 : wc.cell? ⟨gb120, 6, none⟩ = some (.int .i64 a0_6) := (blk_cell BK120.out 6).trans rfl
         have hcz26_7 : wc.cell? ⟨gb120, 7, none⟩ = some (.int .i64 a0_7) := (blk_cell BK120.out 7).trans rfl
         have hcz26_8 : wc.cell? ⟨gb120, 8, none⟩ = some (.int .i64 a0_8) := (blk_cell BK120.out 8).trans rfl
         have hcz26_9 : wc.cell? ⟨gb120, 9, none⟩ = some (.slice A0_9 l0_9.length c0_9) := (blk_cell BK120.out 9).trans rfl
         have hcz26_10 : wc.cell? ⟨gb120, 10, none⟩ = some (.int .i64 a0_10) := (blk_cell BK120.out 10).trans rfl
         have hcz26_11 : wc.cell? ⟨gb120, 11, none⟩ = some (.int .i64 a0_11) := (blk_cell BK120.out 11).trans rfl
         have hcz26_12 : wc.cell? ⟨gb120, 12, none⟩ = some (.int .i64 a0_12) := (blk_cell BK120.out 12).trans rfl
         have hcz26_13 : wc.cell? ⟨gb120, 13, none⟩ = some (.int .i64 a0_13) := (blk_cell BK120.out 13).trans rfl
         have hfz26_0 := blk_frozen BK120.out 0
         have hfz26_1 := blk_frozen BK120.out 1
         have hfz26_2 := blk_frozen BK120.out 2
         have hfz26_3 := blk_frozen BK120.out 3
         have hfz26_4 := blk_frozen BK120.out 4
         have hfz26_5 := blk_frozen BK120.out 5
         have hfz26_6 := blk_frozen BK120.out 6
         have hfz26_7 := blk_frozen BK120.out 7
         have hfz26_8 := blk_frozen BK120.out 8
         have hfz26_9 := blk_frozen BK120.out 9
         have hfz26_10 := blk_frozen BK120.out 10
         have hfz26_11 := blk_frozen BK120.out 11
         have hfz26_12 := blk_frozen BK120.out 12
         have hfz26_13 := blk_frozen BK120.out 13
         go_wp2_with (first | ((with_reducible refine gate_callee (f := 22) rfl ?_); refine goesL_ (some 24) rfl rfl Tryd.func22 (by kernel_rfl) rfl #[.int .i64 a0_10, .int .i64 1, .int .i64 8] rfl (by (try simp only [List.map_toArray, List.map_cons, List.map_nil]); first | done | rfl | (simp only [List.length_drop, List.length_take]; rfl)) ?_; (with_reducible refine (conf_in.calls a0_10 1 8 true _ A14.out).mono ?_); rintro e w' ⟨rfl, ⟨nd, rfl⟩⟩; refine ⟨_, rfl, ?_⟩) | (go_at_call 22; (with_reducible refine (conf_in.calls a0_11 1 8 true _ A16.out).mono ?_); rintro e w' ⟨rfl, ⟨nd, rfl⟩⟩) | (go_at_call 38; (with_reducible refine (sat_May.calls a0_12 true _ A18.out).mono ?_); rintro e w' ⟨rfl, ⟨nd, rfl⟩⟩) | (go_at_call 38; (with_reducible refine (sat_May.calls a0_13 true _ A20.out).mono ?_); rintro e w' ⟨rfl, ⟨nd, rfl⟩⟩) | (go_at_call 22; (with_reducible refine (conf_in.calls a0_6 1 65535 true _ A23.out).mono ?_); rintro e w' ⟨rfl, ⟨nd, rfl⟩⟩) | (go_at_call 39; (with_reducible refine (acl_May.calls kj2 _ _ l0_9 t129 _ ?side1 ?side2 ?side3 A25.out).mono ?_); (case side1 => repeat (first | exact (Kd.C_below HR0_9.out (by repeat (first | (with_reducible first | exact HB.out | apply below_alloc | apply pw_below_drewN | apply below_drew1 | refine below_set ?_ GE120.out) | exact HB.out))) | (with_reducible refine Kd.C_alloc ?_ _) | (with_reducible refine Kd.C_drewN ?_ _) | (with_reducible refine Kd.C_drew ?_))); (case side2 => exact HC0_9.out); (case side3 => exact HMET.out.below (by repeat (first | (with_reducible first | exact HB.out | apply below_alloc | apply pw_below_drewN | apply below_drew1 | refine below_set ?_ GE120.out) | exact HB.out))); rintro e w27 ⟨rfl, hb⟩; have n0_ := Aside0.mk (blk_below (g := gb120) (o := .cells #[.string a0_0, .string a0_1, .int .u8 a0_2, .int .u8 a0_3, .int .u8 a0_4, .int .u8 a0_5, .int .i64 a0_6, .int .i64 a0_7, .int .i64 a0_8, .slice A0_9 l0_9.length c0_9, .int .i64 a0_10, .int .i64 a0_11, .int .i64 a0_12, .int .i64 a0_13] 40 (0, 0)) (by (with_reducible repeat (first | refine blk_drewN ?_ _ | refine blk_drew ?_ | refine blk_alloc ?_ _)); exact BK120.out) hb); have n1_ := Aside0.mk (below_step (by repeat (first | (with_reducible first | exact HB.out | apply below_alloc | apply pw_below_drewN | apply below_drew1 | refine below_set ?_ GE120.out) | exact HB.out)) hb); clear BK120; clear HB; have BK120 := n0_; have HB := n1_; clear n0_ n1_; (try clear hb); (try clear hb2); (try clear hk); (try clear hi)))
         go_ret
         exact ⟨by first | rfl | (simp [errW_none, errW_some] <;> rfl) | (simp [*, errW_none, errW_some] <;> rfl), by repeat (first | (with_reducible first | exact HB.out | apply below_alloc | apply pw_below_drewN | apply below_drew1 | refine below_set ?_ GE120.out) | exact HB.out)⟩
        ·
         replace c24 := Bool.eq_false_iff.mpr c24
         subst c24
         have H1 : (some false) = some r := by rw [if_neg (show ¬ (false = true) by decide)] at H; exact H
         clear H
         have H := H1
         clear H1
         obtain rfl := Option.some.inj H
         have hcz28_0 : wc.cell? ⟨gb120, 0, none⟩ = some (.string a0_0) := (blk_cell BK120.out 0).trans rfl
         have hcz28_1 : wc.cell? ⟨gb120, 1, none⟩ = some (.string a0_1) := (blk_cell BK120.out 1).trans rfl
         have hcz28_2 : wc.cell? ⟨gb120, 2, none⟩ = some (.int .u8 a0_2) := (blk_cell BK120.out 2).trans rfl
         have hcz28_3 : wc.cell? ⟨gb120, 3, none⟩ = some (.int .u8 a0_3) := (blk_cell BK120.out 3).trans rfl
         have hcz28_4 : wc.cell? ⟨gb120, 4, none⟩ = some (.int .u8 a0_4) := (blk_cell BK120.out 4).trans rfl
         have hcz28_5 : wc.cell? ⟨gb120, 5, none⟩ = some (.int .u8 a0_5) := (blk_cell BK120.out 5).trans rfl
         have hcz28_6 : wc.cell? ⟨gb120, 6, none⟩ = some (.int .i64 a0_6) := (blk_cell BK120.out 6).trans rfl
         have hcz28_7 : wc.cell? ⟨gb120, 7, none⟩ = some (.int .i64 a0_7) := (blk_cell BK120.out 7).trans rfl
         have hcz28_8 : wc.cell? ⟨gb120, 8, none⟩ = some (.int .i64 a0_8) := (blk_cell BK120.out 8).trans rfl
         have hcz28_9 : wc.cell? ⟨gb120, 9, none⟩ = some (.slice A0_9 l0_9.length c0_9) := (blk_cell BK120.out 9).trans rfl
         have hcz28_10 : wc.cell? ⟨gb120, 10, none⟩ = some (.int .i64 a0_10) := (blk_cell BK120.out 10).trans rfl
         have hcz28_11 : wc.cell? ⟨gb120, 11, none⟩ = some (.int .i64 a0_11) := (blk_cell BK120.out 11).trans rfl
         have hcz28_12 : wc.cell? ⟨gb120, 12, none⟩ = some (.int .i64 a0_12) := (blk_cell BK120.out 12).trans rfl
         have hcz28_13 : wc.cell? ⟨gb120, 13, none⟩ = some (.int .i64 a0_13) := (blk_cell BK120.out 13).trans rfl
         have hfz28_0 := blk_frozen BK120.out 0
         have hfz28_1 := blk_frozen BK120.out 1
         have hfz28_2 := blk_frozen BK120.out 2
         have hfz28_3 := blk_frozen BK120.out 3
         have hfz28_4 := blk_frozen BK120.out 4
         have hfz28_5 := blk_frozen BK120.out 5
         have hfz28_6 := blk_frozen BK120.out 6
         have hfz28_7 := blk_frozen BK120.out 7
         have hfz28_8 := blk_frozen BK120.out 8
         have hfz28_9 := blk_frozen BK120.out 9
         have hfz28_10 := blk_frozen BK120.out 10
         have hfz28_11 := blk_frozen BK120.out 11
         have hfz28_12 := blk_frozen BK120.out 12
         have hfz28_13 := blk_frozen BK120.out 13
         go_wp2_with (first | ((with_reducible refine gate_callee (f := 22) rfl ?_); refine goesL_ (some 24) rfl rfl Tryd.func22 (by kernel_rfl) rfl #[.int .i64 a0_10, .int .i64 1, .int .i64 8] rfl (by (try simp only [List.map_toArray, List.map_cons, List.map_nil]); first | done | rfl | (simp only [List.length_drop, List.length_take]; rfl)) ?_; (with_reducible refine (conf_in.calls a0_10 1 8 true _ A14.out).mono ?_); rintro e w' ⟨rfl, ⟨nd, rfl⟩⟩; refine ⟨_, rfl, ?_⟩) | (go_at_call 22; (with_reducible refine (conf_in.calls a0_11 1 8 true _ A16.out).mono ?_); rintro e w' ⟨rfl, ⟨nd, rfl⟩⟩) | (go_at_call 38; (with_reducible refine (sat_May.calls a0_12 true _ A18.out).mono ?_); rintro e w' ⟨rfl, ⟨nd, rfl⟩⟩) | (go_at_call 38; (with_reducible refine (sat_May.calls a0_13 true _ A20.out).mono ?_); rintro e w' ⟨rfl, ⟨nd, rfl⟩⟩) | (go_at_call 22; (with_reducible refine (conf_in.calls a0_6 1 65535 false _ A23.out).mono ?_); rintro e w' ⟨rfl, ⟨nd, rfl⟩⟩))
         go_ret
         exact ⟨by first | rfl | (simp [errW_none, errW_some] <;> rfl) | (simp [*, errW_none, errW_some] <;> rfl), by repeat (first | (with_reducible first | exact HB.out | apply below_alloc | apply pw_below_drewN | apply below_drew1 | refine below_set ?_ GE120.out) | exact HB.out)⟩
       ·
        replace c22 := Bool.eq_false_iff.mpr c22
        subst c22
        have H1 : (some false) = some r := by rw [if_neg (show ¬ (false = true) by decide)] at H; exact H
        clear H
        have H := H1
        clear H1
        obtain rfl := Option.some.inj H
        have hcz29_0 : wc.cell? ⟨gb120, 0, none⟩ = some (.string a0_0) := (blk_cell BK120.out 0).trans rfl
        have hcz29_1 : wc.cell? ⟨gb120, 1, none⟩ = some (.string a0_1) := (blk_cell BK120.out 1).trans rfl
        have hcz29_2 : wc.cell? ⟨gb120, 2, none⟩ = some (.int .u8 a0_2) := (blk_cell BK120.out 2).trans rfl
        have hcz29_3 : wc.cell? ⟨gb120, 3, none⟩ = some (.int .u8 a0_3) := (blk_cell BK120.out 3).trans rfl
        have hcz29_4 : wc.cell? ⟨gb120, 4, none⟩ = some (.int .u8 a0_4) := (blk_cell BK120.out 4).trans rfl
        have hcz29_5 : wc.cell? ⟨gb120, 5, none⟩ = some (.int .u8 a0_5) := (blk_cell BK120.out 5).trans rfl
        have hcz29_6 : wc.cell? ⟨gb120, 6, none⟩ = some (.int .i64 a0_6) := (blk_cell BK120.out 6).trans rfl
        have hcz29_7 : wc.cell? ⟨gb120, 7, none⟩ = some (.int .i64 a0_7) := (blk_cell BK120.out 7).trans rfl
        have hcz29_8 : wc.cell? ⟨gb120, 8, none⟩ = some (.int .i64 a0_8) := (blk_cell BK120.out 8).trans rfl
        have hcz29_9 : wc.cell? ⟨gb120, 9, none⟩ = some (.slice A0_9 l0_9.length c0_9) := (blk_cell BK120.out 9).trans rfl
        have hcz29_10 : wc.cell? ⟨gb120, 10, none⟩ = some (.int .i64 a0_10) := (blk_cell BK120.out 10).trans rfl
        have hcz29_11 : wc.cell? ⟨gb120, 11, none⟩ = some (.int .i64 a0_11) := (blk_cell BK120.out 11).trans rfl
        have hcz29_12 : wc.cell? ⟨gb120, 12, none⟩ = some (.int .i64 a0_12) := (blk_cell BK120.out 12).trans rfl
        have hcz29_13 : wc.cell? ⟨gb120, 13, none⟩ = some (.int .i64 a0_13) := (blk_cell BK120.out 13).trans rfl
        have hfz29_0 := blk_frozen BK120.out 0
        have hfz29_1 := blk_frozen BK120.out 1
        have hfz29_2 := blk_frozen BK120.out 2
        have hfz29_3 := blk_frozen BK120.out 3
        have hfz29_4 := blk_frozen BK120.out 4
        have hfz29_5 := blk_frozen BK120.out 5
        have hfz29_6 := blk_frozen BK120.out 6
        have hfz29_7 := blk_frozen BK120.out 7
        have hfz29_8 := blk_frozen BK120.out 8
        have hfz29_9 := blk_frozen BK120.out 9
        have hfz29_10 := blk_frozen BK120.out 10
        have hfz29_11 := blk_frozen BK120.out 11
        have hfz29_12 := blk_frozen BK120.out 12
        have hfz29_13 := blk_frozen BK120.out 13
        go_wp2_with (first | ((with_reducible refine gate_callee (f := 22) rfl ?_); refine goesL_ (some 24) rfl rfl Tryd.func22 (by kernel_rfl) rfl #[.int .i64 a0_10, .int .i64 1, .int .i64 8] rfl (by (try simp only [List.map_toArray, List.map_cons, List.map_nil]); first | done | rfl | (simp only [List.length_drop, List.length_take]; rfl)) ?_; (with_reducible refine (conf_in.calls a0_10 1 8 true _ A14.out).mono ?_); rintro e w' ⟨rfl, ⟨nd, rfl⟩⟩; refine ⟨_, rfl, ?_⟩) | (go_at_call 22; (with_reducible refine (conf_in.calls a0_11 1 8 true _ A16.out).mono ?_); rintro e w' ⟨rfl, ⟨nd, rfl⟩⟩) | (go_at_call 38; (with_reducible refine (sat_May.calls a0_12 true _ A18.out).mono ?_); rintro e w' ⟨rfl, ⟨nd, rfl⟩⟩) | (go_at_call 38; (with_reducible refine (sat_May.calls a0_13 false _ A20.out).mono ?_); rintro e w' ⟨rfl, ⟨nd, rfl⟩⟩))
        go_ret
        exact ⟨by first | rfl | (simp [errW_none, errW_some] <;> rfl) | (simp [*, errW_none, errW_some] <;> rfl), by repeat (first | (with_reducible first | exact HB.out | apply below_alloc | apply pw_below_drewN | apply below_drew1 | refine below_set ?_ GE120.out) | exact HB.out)⟩
      ·
       replace c21 := Bool.eq_false_iff.mpr c21
       subst c21
       have H1 : (some false) = some r := by rw [if_neg (show ¬ (false = true) by decide)] at H; exact H
       clear H
       have H := H1
       clear H1
       obtain rfl := Option.some.inj H
       have hcz30_0 : wc.cell? ⟨gb120, 0, none⟩ = some (.string a0_0) := (blk_cell BK120.out 0).trans rfl
       have hcz30_1 : wc.cell? ⟨gb120, 1, none⟩ = some (.string a0_1) := (blk_cell BK120.out 1).trans rfl
       have hcz30_2 : wc.cell? ⟨gb120, 2, none⟩ = some (.int .u8 a0_2) := (blk_cell BK120.out 2).trans rfl
       have hcz30_3 : wc.cell? ⟨gb120, 3, none⟩ = some (.int .u8 a0_3) := (blk_cell BK120.out 3).trans rfl
       have hcz30_4 : wc.cell? ⟨gb120, 4, none⟩ = some (.int .u8 a0_4) := (blk_cell BK120.out 4).trans rfl
       have hcz30_5 : wc.cell? ⟨gb120, 5, none⟩ = some (.int .u8 a0_5) := (blk_cell BK120.out 5).trans rfl
       have hcz30_6 : wc.cell? ⟨gb120, 6, none⟩ = some (.int .i64 a0_6) := (blk_cell BK120.out 6).trans rfl
       have hcz30_7 : wc.cell? ⟨gb120, 7, none⟩ = some (.int .i64 a0_7) := (blk_cell BK120.out 7).trans rfl
       have hcz30_8 : wc.cell? ⟨gb120, 8, none⟩ = some (.int .i64 a0_8) := (blk_cell BK120.out 8).trans rfl
       have hcz30_9 : wc.cell? ⟨gb120, 9, none⟩ = some (.slice A0_9 l0_9.length c0_9) := (blk_cell BK120.out 9).trans rfl
       have hcz30_10 : wc.cell? ⟨gb120, 10, none⟩ = some (.int .i64 a0_10) := (blk_cell BK120.out 10).trans rfl
       have hcz30_11 : wc.cell? ⟨gb120, 11, none⟩ = some (.int .i64 a0_11) := (blk_cell BK120.out 11).trans rfl
       have hcz30_12 : wc.cell? ⟨gb120, 12, none⟩ = some (.int .i64 a0_12) := (blk_cell BK120.out 12).trans rfl
       have hcz30_13 : wc.cell? ⟨gb120, 13, none⟩ = some (.int .i64 a0_13) := (blk_cell BK120.out 13).trans rfl
       have hfz30_0 := blk_frozen BK120.out 0
       have hfz30_1 := blk_frozen BK120.out 1
       have hfz30_2 := blk_frozen BK120.out 2
       have hfz30_3 := blk_frozen BK120.out 3
       have hfz30_4 := blk_frozen BK120.out 4
       have hfz30_5 := blk_frozen BK120.out 5
       have hfz30_6 := blk_frozen BK120.out 6
       have hfz30_7 := blk_frozen BK120.out 7
       have hfz30_8 := blk_frozen BK120.out 8
       have hfz30_9 := blk_frozen BK120.out 9
       have hfz30_10 := blk_frozen BK120.out 10
       have hfz30_11 := blk_frozen BK120.out 11
       have hfz30_12 := blk_frozen BK120.out 12
       have hfz30_13 := blk_frozen BK120.out 13
       go_wp2_with (first | ((with_reducible refine gate_callee (f := 22) rfl ?_); refine goesL_ (some 24) rfl rfl Tryd.func22 (by kernel_rfl) rfl #[.int .i64 a0_10, .int .i64 1, .int .i64 8] rfl (by (try simp only [List.map_toArray, List.map_cons, List.map_nil]); first | done | rfl | (simp only [List.length_drop, List.length_take]; rfl)) ?_; (with_reducible refine (conf_in.calls a0_10 1 8 true _ A14.out).mono ?_); rintro e w' ⟨rfl, ⟨nd, rfl⟩⟩; refine ⟨_, rfl, ?_⟩) | (go_at_call 22; (with_reducible refine (conf_in.calls a0_11 1 8 true _ A16.out).mono ?_); rintro e w' ⟨rfl, ⟨nd, rfl⟩⟩) | (go_at_call 38; (with_reducible refine (sat_May.calls a0_12 true _ A18.out).mono ?_); rintro e w' ⟨rfl, ⟨nd, rfl⟩⟩) | (go_at_call 38; (with_reducible refine (sat_May.calls a0_13 t127 _ A20.out).mono ?_); rintro e w' ⟨rfl, ⟨nd, rfl⟩⟩))
       go_ret
       exact ⟨by first | rfl | (simp [errW_none, errW_some] <;> rfl) | (simp [*, errW_none, errW_some] <;> rfl), by repeat (first | (with_reducible first | exact HB.out | apply below_alloc | apply pw_below_drewN | apply below_drew1 | refine below_set ?_ GE120.out) | exact HB.out)⟩
     ·
      replace c19 := Bool.eq_false_iff.mpr c19
      subst c19
      have H1 : (if x5_2 = true then (some false) else (some false)) = some r := by rw [if_neg (show ¬ (false = true) by decide)] at H; exact H
      clear H
      have H := H1
      clear H1
      by_cases c31 : x5_2 = true
      ·
       subst c31
       have H1 : (some false) = some r := by rw [if_pos rfl] at H; exact H
       clear H
       have H := H1
       clear H1
       obtain rfl := Option.some.inj H
       have hcz32_0 : wc.cell? ⟨gb120, 0, none⟩ = some (.string a0_0) := (blk_cell BK120.out 0).trans rfl
       have hcz32_1 : wc.cell? ⟨gb120, 1, none⟩ = some (.string a0_1) := (blk_cell BK120.out 1).trans rfl
       have hcz32_2 : wc.cell? ⟨gb120, 2, none⟩ = some (.int .u8 a0_2) := (blk_cell BK120.out 2).trans rfl
       have hcz32_3 : wc.cell? ⟨gb120, 3, none⟩ = some (.int .u8 a0_3) := (blk_cell BK120.out 3).trans rfl
       have hcz32_4 : wc.cell? ⟨gb120, 4, none⟩ = some (.int .u8 a0_4) := (blk_cell BK120.out 4).trans rfl
       have hcz32_5 : wc.cell? ⟨gb120, 5, none⟩ = some (.int .u8 a0_5) := (blk_cell BK120.out 5).trans rfl
       have hcz32_6 : wc.cell? ⟨gb120, 6, none⟩ = some (.int .i64 a0_6) := (blk_cell BK120.out 6).trans rfl
       have hcz32_7 : wc.cell? ⟨gb120, 7, none⟩ = some (.int .i64 a0_7) := (blk_cell BK120.out 7).trans rfl
       have hcz32_8 : wc.cell? ⟨gb120, 8, none⟩ = some (.int .i64 a0_8) := (blk_cell BK120.out 8).trans rfl
       have hcz32_9 : wc.cell? ⟨gb120, 9, none⟩ = some (.slice A0_9 l0_9.length c0_9) := (blk_cell BK120.out 9).trans rfl
       have hcz32_10 : wc.cell? ⟨gb120, 10, none⟩ = some (.int .i64 a0_10) := (blk_cell BK120.out 10).trans rfl
       have hcz32_11 : wc.cell? ⟨gb120, 11, none⟩ = some (.int .i64 a0_11) := (blk_cell BK120.out 11).trans rfl
       have hcz32_12 : wc.cell? ⟨gb120, 12, none⟩ = some (.int .i64 a0_12) := (blk_cell BK120.out 12).trans rfl
       have hcz32_13 : wc.cell? ⟨gb120, 13, none⟩ = some (.int .i64 a0_13) := (blk_cell BK120.out 13).trans rfl
       have hfz32_0 := blk_frozen BK120.out 0
       have hfz32_1 := blk_frozen BK120.out 1
       have hfz32_2 := blk_frozen BK120.out 2
       have hfz32_3 := blk_frozen BK120.out 3
       have hfz32_4 := blk_frozen BK120.out 4
       have hfz32_5 := blk_frozen BK120.out 5
       have hfz32_6 := blk_frozen BK120.out 6
       have hfz32_7 := blk_frozen BK120.out 7
       have hfz32_8 := blk_frozen BK120.out 8
       have hfz32_9 := blk_frozen BK120.out 9
       have hfz32_10 := blk_frozen BK120.out 10
       have hfz32_11 := blk_frozen BK120.out 11
       have hfz32_12 := blk_frozen BK120.out 12
       have hfz32_13 := blk_frozen BK120.out 13
       go_wp2_with (first | ((with_reducible refine gate_callee (f := 22) rfl ?_); refine goesL_ (some 24) rfl rfl Tryd.func22 (by kernel_rfl) rfl #[.int .i64 a0_10, .int .i64 1, .int .i64 8] rfl (by (try simp only [List.map_toArray, List.map_cons, List.map_nil]); first | done | rfl | (simp only [List.length_drop, List.length_take]; rfl)) ?_; (with_reducible refine (conf_in.calls a0_10 1 8 true _ A14.out).mono ?_); rintro e w' ⟨rfl, ⟨nd, rfl⟩⟩; refine ⟨_, rfl, ?_⟩) | (go_at_call 22; (with_reducible refine (conf_in.calls a0_11 1 8 true _ A16.out).mono ?_); rintro e w' ⟨rfl, ⟨nd, rfl⟩⟩) | (go_at_call 38; (with_reducible refine (sat_May.calls a0_12 false _ A18.out).mono ?_); rintro e w' ⟨rfl, ⟨nd, rfl⟩⟩))
       go_ret
       exact ⟨by first | rfl | (simp [errW_none, errW_some] <;> rfl) | (simp [*, errW_none, errW_some] <;> rfl), by repeat (first | (with_reducible first | exact HB.out | apply below_alloc | apply pw_below_drewN | apply below_drew1 | refine below_set ?_ GE120.out) | exact HB.out)⟩
      ·
       replace c31 := Bool.eq_false_iff.mpr c31
       subst c31
       have H1 : (some false) = some r := by rw [if_neg (show ¬ (false = true) by decide)] at H; exact H
       clear H
       have H := H1
       clear H1
       obtain rfl := Option.some.inj H
       have hcz33_0 : wc.cell? ⟨gb120, 0, none⟩ = some (.string a0_0) := (blk_cell BK120.out 0).trans rfl
       have hcz33_1 : wc.cell? ⟨gb120, 1, none⟩ = some (.string a0_1) := (blk_cell BK120.out 1).trans rfl
       have hcz33_2 : wc.cell? ⟨gb120, 2, none⟩ = some (.int .u8 a0_2) := (blk_cell BK120.out 2).trans rfl
       have hcz33_3 : wc.cell? ⟨gb120, 3, none⟩ = some (.int .u8 a0_3) := (blk_cell BK120.out 3).trans rfl
       have hcz33_4 : wc.cell? ⟨gb120, 4, none⟩ = some (.int .u8 a0_4) := (blk_cell BK120.out 4).trans rfl
       have hcz33_5 : wc.cell? ⟨gb120, 5, none⟩ = some (.int .u8 a0_5) := (blk_cell BK120.out 5).trans rfl
       have hcz33_6 : wc.cell? ⟨gb120, 6, none⟩ = some (.int .i64 a0_6) := (blk_cell BK120.out 6).trans rfl
       have hcz33_7 : wc.cell? ⟨gb120, 7, none⟩ = some (.int .i64 a0_7) := (blk_cell BK120.out 7).trans rfl
       have hcz33_8 : wc.cell? ⟨gb120, 8, none⟩ = some (.int .i64 a0_8) := (blk_cell BK120.out 8).trans rfl
       have hcz33_9 : wc.cell? ⟨gb120, 9, none⟩ = some (.slice A0_9 l0_9.length c0_9) := (blk_cell BK120.out 9).trans rfl
       have hcz33_10 : wc.cell? ⟨gb120, 10, none⟩ = some (.int .i64 a0_10) := (blk_cell BK120.out 10).trans rfl
       have hcz33_11 : wc.cell? ⟨gb120, 11, none⟩ = some (.int .i64 a0_11) := (blk_cell BK120.out 11).trans rfl
       have hcz33_12 : wc.cell? ⟨gb120, 12, none⟩ = some (.int .i64 a0_12) := (blk_cell BK120.out 12).trans rfl
       have hcz33_13 : wc.cell? ⟨gb120, 13, none⟩ = some (.int .i64 a0_13) := (blk_cell BK120.out 13).trans rfl
       have hfz33_0 := blk_frozen BK120.out 0
       have hfz33_1 := blk_frozen BK120.out 1
       have hfz33_2 := blk_frozen BK120.out 2
       have hfz33_3 := blk_frozen BK120.out 3
       have hfz33_4 := blk_frozen BK120.out 4
       have hfz33_5 := blk_frozen BK120.out 5
       have hfz33_6 := blk_frozen BK120.out 6
       have hfz33_7 := blk_frozen BK120.out 7
       have hfz33_8 := blk_frozen BK120.out 8
       have hfz33_9 := blk_frozen BK120.out 9
       have hfz33_10 := blk_frozen BK120.out 10
       have hfz33_11 := blk_frozen BK120.out 11
       have hfz33_12 := blk_frozen BK120.out 12
       have hfz33_13 := blk_frozen BK120.out 13
       go_wp2_with (first | ((with_reducible refine gate_callee (f := 22) rfl ?_); refine goesL_ (some 24) rfl rfl Tryd.func22 (by kernel_rfl) rfl #[.int .i64 a0_10, .int .i64 1, .int .i64 8] rfl (by (try simp only [List.map_toArray, List.map_cons, List.map_nil]); first | done | rfl | (simp only [List.length_drop, List.length_take]; rfl)) ?_; (with_reducible refine (conf_in.calls a0_10 1 8 true _ A14.out).mono ?_); rintro e w' ⟨rfl, ⟨nd, rfl⟩⟩; refine ⟨_, rfl, ?_⟩) | (go_at_call 22; (with_reducible refine (conf_in.calls a0_11 1 8 true _ A16.out).mono ?_); rintro e w' ⟨rfl, ⟨nd, rfl⟩⟩) | (go_at_call 38; (with_reducible refine (sat_May.calls a0_12 false _ A18.out).mono ?_); rintro e w' ⟨rfl, ⟨nd, rfl⟩⟩))
       go_ret
       exact ⟨by first | rfl | (simp [errW_none, errW_some] <;> rfl) | (simp [*, errW_none, errW_some] <;> rfl), by repeat (first | (with_reducible first | exact HB.out | apply below_alloc | apply pw_below_drewN | apply below_drew1 | refine below_set ?_ GE120.out) | exact HB.out)⟩
    ·
     replace c17 := Bool.eq_false_iff.mpr c17
     subst c17
     have H1 : (if x5_2 = true then (some false) else (some false)) = some r := by rw [if_neg (show ¬ (false = true) by decide)] at H; exact H
     clear H
     have H := H1
     clear H1
     by_cases c34 : x5_2 = true
     ·
      subst c34
      have H1 : (some false) = some r := by rw [if_pos rfl] at H; exact H
      clear H
      have H := H1
      clear H1
      obtain rfl := Option.some.inj H
      have hcz35_0 : wc.cell? ⟨gb120, 0, none⟩ = some (.string a0_0) := (blk_cell BK120.out 0).trans rfl
      have hcz35_1 : wc.cell? ⟨gb120, 1, none⟩ = some (.string a0_1) := (blk_cell BK120.out 1).trans rfl
      have hcz35_2 : wc.cell? ⟨gb120, 2, none⟩ = some (.int .u8 a0_2) := (blk_cell BK120.out 2).trans rfl
      have hcz35_3 : wc.cell? ⟨gb120, 3, none⟩ = some (.int .u8 a0_3) := (blk_cell BK120.out 3).trans rfl
      have hcz35_4 : wc.cell? ⟨gb120, 4, none⟩ = some (.int .u8 a0_4) := (blk_cell BK120.out 4).trans rfl
      have hcz35_5 : wc.cell? ⟨gb120, 5, none⟩ = some (.int .u8 a0_5) := (blk_cell BK120.out 5).trans rfl
      have hcz35_6 : wc.cell? ⟨gb120, 6, none⟩ = some (.int .i64 a0_6) := (blk_cell BK120.out 6).trans rfl
      have hcz35_7 : wc.cell? ⟨gb120, 7, none⟩ = some (.int .i64 a0_7) := (blk_cell BK120.out 7).trans rfl
      have hcz35_8 : wc.cell? ⟨gb120, 8, none⟩ = some (.int .i64 a0_8) := (blk_cell BK120.out 8).trans rfl
      have hcz35_9 : wc.cell? ⟨gb120, 9, none⟩ = some (.slice A0_9 l0_9.length c0_9) := (blk_cell BK120.out 9).trans rfl
      have hcz35_10 : wc.cell? ⟨gb120, 10, none⟩ = some (.int .i64 a0_10) := (blk_cell BK120.out 10).trans rfl
      have hcz35_11 : wc.cell? ⟨gb120, 11, none⟩ = some (.int .i64 a0_11) := (blk_cell BK120.out 11).trans rfl
      have hcz35_12 : wc.cell? ⟨gb120, 12, none⟩ = some (.int .i64 a0_12) := (blk_cell BK120.out 12).trans rfl
      have hcz35_13 : wc.cell? ⟨gb120, 13, none⟩ = some (.int .i64 a0_13) := (blk_cell BK120.out 13).trans rfl
      have hfz35_0 := blk_frozen BK120.out 0
      have hfz35_1 := blk_frozen BK120.out 1
      have hfz35_2 := blk_frozen BK120.out 2
      have hfz35_3 := blk_frozen BK120.out 3
      have hfz35_4 := blk_frozen BK120.out 4
      have hfz35_5 := blk_frozen BK120.out 5
      have hfz35_6 := blk_frozen BK120.out 6
      have hfz35_7 := blk_frozen BK120.out 7
      have hfz35_8 := blk_frozen BK120.out 8
      have hfz35_9 := blk_frozen BK120.out 9
      have hfz35_10 := blk_frozen BK120.out 10
      have hfz35_11 := blk_frozen BK120.out 11
      have hfz35_12 := blk_frozen BK120.out 12
      have hfz35_13 := blk_frozen BK120.out 13
      go_wp2_with (first | ((with_reducible refine gate_callee (f := 22) rfl ?_); refine goesL_ (some 24) rfl rfl Tryd.func22 (by kernel_rfl) rfl #[.int .i64 a0_10, .int .i64 1, .int .i64 8] rfl (by (try simp only [List.map_toArray, List.map_cons, List.map_nil]); first | done | rfl | (simp only [List.length_drop, List.length_take]; rfl)) ?_; (with_reducible refine (conf_in.calls a0_10 1 8 true _ A14.out).mono ?_); rintro e w' ⟨rfl, ⟨nd, rfl⟩⟩; refine ⟨_, rfl, ?_⟩) | (go_at_call 22; (with_reducible refine (conf_in.calls a0_11 1 8 false _ A16.out).mono ?_); rintro e w' ⟨rfl, ⟨nd, rfl⟩⟩))
      go_ret
      exact ⟨by first | rfl | (simp [errW_none, errW_some] <;> rfl) | (simp [*, errW_none, errW_some] <;> rfl), by repeat (first | (with_reducible first | exact HB.out | apply below_alloc | apply pw_below_drewN | apply below_drew1 | refine below_set ?_ GE120.out) | exact HB.out)⟩
     ·
      replace c34 := Bool.eq_false_iff.mpr c34
      subst c34
      have H1 : (some false) = some r := by rw [if_neg (show ¬ (false = true) by decide)] at H; exact H
      clear H
      have H := H1
      clear H1
      obtain rfl := Option.some.inj H
      have hcz36_0 : wc.cell? ⟨gb120, 0, none⟩ = some (.string a0_0) := (blk_cell BK120.out 0).trans rfl
      have hcz36_1 : wc.cell? ⟨gb120, 1, none⟩ = some (.string a0_1) := (blk_cell BK120.out 1).trans rfl
      have hcz36_2 : wc.cell? ⟨gb120, 2, none⟩ = some (.int .u8 a0_2) := (blk_cell BK120.out 2).trans rfl
      have hcz36_3 : wc.cell? ⟨gb120, 3, none⟩ = some (.int .u8 a0_3) := (blk_cell BK120.out 3).trans rfl
      have hcz36_4 : wc.cell? ⟨gb120, 4, none⟩ = some (.int .u8 a0_4) := (blk_cell BK120.out 4).trans rfl
      have hcz36_5 : wc.cell? ⟨gb120, 5, none⟩ = some (.int .u8 a0_5) := (blk_cell BK120.out 5).trans rfl
      have hcz36_6 : wc.cell? ⟨gb120, 6, none⟩ = some (.int .i64 a0_6) := (blk_cell BK120.out 6).trans rfl
      have hcz36_7 : wc.cell? ⟨gb120, 7, none⟩ = some (.int .i64 a0_7) := (blk_cell BK120.out 7).trans rfl
      have hcz36_8 : wc.cell? ⟨gb120, 8, none⟩ = some (.int .i64 a0_8) := (blk_cell BK120.out 8).trans rfl
      have hcz36_9 : wc.cell? ⟨gb120, 9, none⟩ = some (.slice A0_9 l0_9.length c0_9) := (blk_cell BK120.out 9).trans rfl
      have hcz36_10 : wc.cell? ⟨gb120, 10, none⟩ = some (.int .i64 a0_10) := (blk_cell BK120.out 10).trans rfl
      have hcz36_11 : wc.cell? ⟨gb120, 11, none⟩ = some (.int .i64 a0_11) := (blk_cell BK120.out 11).trans rfl
      have hcz36_12 : wc.cell? ⟨gb120, 12, none⟩ = some (.int .i64 a0_12) := (blk_cell BK120.out 12).trans rfl
      have hcz36_13 : wc.cell? ⟨gb120, 13, none⟩ = some (.int .i64 a0_13) := (blk_cell BK120.out 13).trans rfl
      have hfz36_0 := blk_frozen BK120.out 0
      have hfz36_1 := blk_frozen BK120.out 1
      have hfz36_2 := blk_frozen BK120.out 2
      have hfz36_3 := blk_frozen BK120.out 3
      have hfz36_4 := blk_frozen BK120.out 4
      have hfz36_5 := blk_frozen BK120.out 5
      have hfz36_6 := blk_frozen BK120.out 6
      have hfz36_7 := blk_frozen BK120.out 7
      have hfz36_8 := blk_frozen BK120.out 8
      have hfz36_9 := blk_frozen BK120.out 9
      have hfz36_10 := blk_frozen BK120.out 10
      have hfz36_11 := blk_frozen BK120.out 11
      have hfz36_12 := blk_frozen BK120.out 12
      have hfz36_13 := blk_frozen BK120.out 13
      go_wp2_with (first | ((with_reducible refine gate_callee (f := 22) rfl ?_); refine goesL_ (some 24) rfl rfl Tryd.func22 (by kernel_rfl) rfl #[.int .i64 a0_10, .int .i64 1, .int .i64 8] rfl (by (try simp only [List.map_toArray, List.map_cons, List.map_nil]); first | done | rfl | (simp only [List.length_drop, List.length_take]; rfl)) ?_; (with_reducible refine (conf_in.calls a0_10 1 8 true _ A14.out).mono ?_); rintro e w' ⟨rfl, ⟨nd, rfl⟩⟩; refine ⟨_, rfl, ?_⟩) | (go_at_call 22; (with_reducible refine (conf_in.calls a0_11 1 8 false _ A16.out).mono ?_); rintro e w' ⟨rfl, ⟨nd, rfl⟩⟩))
      go_ret
      exact ⟨by first | rfl | (simp [errW_none, errW_some] <;> rfl) | (simp [*, errW_none, errW_some] <;> rfl), by repeat (first | (with_reducible first | exact HB.out | apply below_alloc | apply pw_below_drewN | apply below_drew1 | refine below_set ?_ GE120.out) | exact HB.out)⟩
   ·
    replace c15 := Bool.eq_false_iff.mpr c15
    subst c15
    have H1 : (if x5_2 = true then (some false) else (some false)) = some r := by rw [if_neg (show ¬ (false = true) by decide)] at H; exact H
    clear H
    have H := H1
    clear H1
    by_cases c37 : x5_2 = true
    ·
     subst c37
     have H1 : (some false) = some r := by rw [if_pos rfl] at H; exact H
     clear H
     have H := H1
     clear H1
     obtain rfl := Option.some.inj H
     have hcz38_0 : wc.cell? ⟨gb120, 0, none⟩ = some (.string a0_0) := (blk_cell BK120.out 0).trans rfl
     have hcz38_1 : wc.cell? ⟨gb120, 1, none⟩ = some (.string a0_1) := (blk_cell BK120.out 1).trans rfl
     have hcz38_2 : wc.cell? ⟨gb120, 2, none⟩ = some (.int .u8 a0_2) := (blk_cell BK120.out 2).trans rfl
     have hcz38_3 : wc.cell? ⟨gb120, 3, none⟩ = some (.int .u8 a0_3) := (blk_cell BK120.out 3).trans rfl
     have hcz38_4 : wc.cell? ⟨gb120, 4, none⟩ = some (.int .u8 a0_4) := (blk_cell BK120.out 4).trans rfl
     have hcz38_5 : wc.cell? ⟨gb120, 5, none⟩ = some (.int .u8 a0_5) := (blk_cell BK120.out 5).trans rfl
     have hcz38_6 : wc.cell? ⟨gb120, 6, none⟩ = some (.int .i64 a0_6) := (blk_cell BK120.out 6).trans rfl
     have hcz38_7 : wc.cell? ⟨gb120, 7, none⟩ = some (.int .i64 a0_7) := (blk_cell BK120.out 7).trans rfl
     have hcz38_8 : wc.cell? ⟨gb120, 8, none⟩ = some (.int .i64 a0_8) := (blk_cell BK120.out 8).trans rfl
     have hcz38_9 : wc.cell? ⟨gb120, 9, none⟩ = some (.slice A0_9 l0_9.length c0_9) := (blk_cell BK120.out 9).trans rfl
     have hcz38_10 : wc.cell? ⟨gb120, 10, none⟩ = some (.int .i64 a0_10) := (blk_cell BK120.out 10).trans rfl
     have hcz38_11 : wc.cell? ⟨gb120, 11, none⟩ = some (.int .i64 a0_11) := (blk_cell BK120.out 11).trans rfl
     have hcz38_12 : wc.cell? ⟨gb120, 12, none⟩ = some (.int .i64 a0_12) := (blk_cell BK120.out 12).trans rfl
     have hcz38_13 : wc.cell? ⟨gb120, 13, none⟩ = some (.int .i64 a0_13) := (blk_cell BK120.out 13).trans rfl
     have hfz38_0 := blk_frozen BK120.out 0
     have hfz38_1 := blk_frozen BK120.out 1
     have hfz38_2 := blk_frozen BK120.out 2
     have hfz38_3 := blk_frozen BK120.out 3
     have hfz38_4 := blk_frozen BK120.out 4
     have hfz38_5 := blk_frozen BK120.out 5
     have hfz38_6 := blk_frozen BK120.out 6
     have hfz38_7 := blk_frozen BK120.out 7
     have hfz38_8 := blk_frozen BK120.out 8
     have hfz38_9 := blk_frozen BK120.out 9
     have hfz38_10 := blk_frozen BK120.out 10
     have hfz38_11 := blk_frozen BK120.out 11
     have hfz38_12 := blk_frozen BK120.out 12
     have hfz38_13 := blk_frozen BK120.out 13
     go_wp2_with (first | ((with_reducible refine gate_callee (f := 22) rfl ?_); refine goesL_ (some 24) rfl rfl Tryd.func22 (by kernel_rfl) rfl #[.int .i64 a0_10, .int .i64 1, .int .i64 8] rfl (by (try simp only [List.map_toArray, List.map_cons, List.map_nil]); first | done | rfl | (simp only [List.length_drop, List.length_take]; rfl)) ?_; (with_reducible refine (conf_in.calls a0_10 1 8 false _ A14.out).mono ?_); rintro e w' ⟨rfl, ⟨nd, rfl⟩⟩; refine ⟨_, rfl, ?_⟩))
     go_ret
     exact ⟨by first | rfl | (simp [errW_none, errW_some] <;> rfl) | (simp [*, errW_none, errW_some] <;> rfl), by repeat (first | (with_reducible first | exact HB.out | apply below_alloc | apply pw_below_drewN | apply below_drew1 | refine below_set ?_ GE120.out) | exact HB.out)⟩
    ·
     replace c37 := Bool.eq_false_iff.mpr c37
     subst c37
     have H1 : (some false) = some r := by rw [if_neg (show ¬ (false = true) by decide)] at H; exact H
     clear H
     have H := H1
     clear H1
     obtain rfl := Option.some.inj H
     have hcz39_0 : wc.cell? ⟨gb120, 0, none⟩ = some (.string a0_0) := (blk_cell BK120.out 0).trans rfl
     have hcz39_1 : wc.cell? ⟨gb120, 1, none⟩ = some (.string a0_1) := (blk_cell BK120.out 1).trans rfl
     have hcz39_2 : wc.cell? ⟨gb120, 2, none⟩ = some (.int .u8 a0_2) := (blk_cell BK120.out 2).trans rfl
     have hcz39_3 : wc.cell? ⟨gb120, 3, none⟩ = some (.int .u8 a0_3) := (blk_cell BK120.out 3).trans rfl
     have hcz39_4 : wc.cell? ⟨gb120, 4, none⟩ = some (.int .u8 a0_4) := (blk_cell BK120.out 4).trans rfl
     have hcz39_5 : wc.cell? ⟨gb120, 5, none⟩ = some (.int .u8 a0_5) := (blk_cell BK120.out 5).trans rfl
     have hcz39_6 : wc.cell? ⟨gb120, 6, none⟩ = some (.int .i64 a0_6) := (blk_cell BK120.out 6).trans rfl
     have hcz39_7 : wc.cell? ⟨gb120, 7, none⟩ = some (.int .i64 a0_7) := (blk_cell BK120.out 7).trans rfl
     have hcz39_8 : wc.cell? ⟨gb120, 8, none⟩ = some (.int .i64 a0_8) := (blk_cell BK120.out 8).trans rfl
     have hcz39_9 : wc.cell? ⟨gb120, 9, none⟩ = some (.slice A0_9 l0_9.length c0_9) := (blk_cell BK120.out 9).trans rfl
     have hcz39_10 : wc.cell? ⟨gb120, 10, none⟩ = some (.int .i64 a0_10) := (blk_cell BK120.out 10).trans rfl
     have hcz39_11 : wc.cell? ⟨gb120, 11, none⟩ = some (.int .i64 a0_11) := (blk_cell BK120.out 11).trans rfl
     have hcz39_12 : wc.cell? ⟨gb120, 12, none⟩ = some (.int .i64 a0_12) := (blk_cell BK120.out 12).trans rfl
     have hcz39_13 : wc.cell? ⟨gb120, 13, none⟩ = some (.int .i64 a0_13) := (blk_cell BK120.out 13).trans rfl
     have hfz39_0 := blk_frozen BK120.out 0
     have hfz39_1 := blk_frozen BK120.out 1
     have hfz39_2 := blk_frozen BK120.out 2
     have hfz39_3 := blk_frozen BK120.out 3
     have hfz39_4 := blk_frozen BK120.out 4
     have hfz39_5 := blk_frozen BK120.out 5
     have hfz39_6 := blk_frozen BK120.out 6
     have hfz39_7 := blk_frozen BK120.out 7
     have hfz39_8 := blk_frozen BK120.out 8
     have hfz39_9 := blk_frozen BK120.out 9
     have hfz39_10 := blk_frozen BK120.out 10
     have hfz39_11 := blk_frozen BK120.out 11
     have hfz39_12 := blk_frozen BK120.out 12
     have hfz39_13 := blk_frozen BK120.out 13
     go_wp2_with (first | ((with_reducible refine gate_callee (f := 22) rfl ?_); refine goesL_ (some 24) rfl rfl Tryd.func22 (by kernel_rfl) rfl #[.int .i64 a0_10, .int .i64 1, .int .i64 8] rfl (by (try simp only [List.map_toArray, List.map_cons, List.map_nil]); first | done | rfl | (simp only [List.length_drop, List.length_take]; rfl)) ?_; (with_reducible refine (conf_in.calls a0_10 1 8 false _ A14.out).mono ?_); rintro e w' ⟨rfl, ⟨nd, rfl⟩⟩; refine ⟨_, rfl, ?_⟩))
     go_ret
     exact ⟨by first | rfl | (simp [errW_none, errW_some] <;> rfl) | (simp [*, errW_none, errW_some] <;> rfl), by repeat (first | (with_reducible first | exact HB.out | apply below_alloc | apply pw_below_drewN | apply below_drew1 | refine below_set ?_ GE120.out) | exact HB.out)⟩

end Go.Proofs.YtajaedebndeajaaDoor.Q

namespace Go.Proofs.YtajaedebndeajaaDoor.Q
open Go.RowKit Go.Proofs.YtajaedebndeajaaDoor.AclMet Go.Proofs.YtajaedebndeajaaDoorW.PrintWords Go.Proofs.YtajaedebndeajaaDoorW.PrintLast Go.Proofs.YtajaedebndeajaaDoorW.PrintMore
attribute [local go_sem] max2_int min2_int max_two min_two max_three min_three max_four min_four   -- for this text's walks alone
set_option linter.unusedVariables false
set_option linter.unusedSimpArgs false

/-! ### conf_ports: function 24 -/
def conf_ports.l0 : Nat → List (S40) → Int → Int → ByteArray → ByteArray → Int → Int → Int → Int → Int → Int → Int → List (S44) → Int → Int → Int → Int → Option (Bool)
 | 0, _, _, _, _, _, _, _, _, _, _, _, _, _, _, _, _, _ => none
 | k + 1, x7, x8, x9, x131000, x131001, x131002, x131003, x131004, x131005, x131006, x131007, x131008, x131009, x131010, x131011, x131012, x131013 => if x9 < x8 then (if 0 ≤ x9 then (if x9 < (x7.length : Int) then (if (mx x131007 ((rd_T40 x7 x9).f3)) ≤ (mn x131008 ((rd_T40 x7 x9).f4)) then (some false) else (conf_ports.l0 k x7 x8 (wrap64 (x9 + 1)) x131000 x131001 x131002 x131003 x131004 x131005 x131006 x131007 x131008 x131009 x131010 x131011 x131012 x131013)) else (none)) else (none)) else ((conf_in.f x131007 1024 x131008).bind fun t133 => (if t133 = true then (some (decide (x131008 ≤ 65535))) else (some false)))
def conf_ports.f (k : Nat) (a0_0 : ByteArray) (a0_1 : ByteArray) (a0_2 : Int) (a0_3 : Int) (a0_4 : Int) (a0_5 : Int) (a0_6 : Int) (a0_7 : Int) (a0_8 : Int) (l0_9 : List (S44)) (a0_10 : Int) (a0_11 : Int) (a0_12 : Int) (a0_13 : Int) (l1 : List (S40)) : Option (Bool) := conf_ports.l0 k l1 (l1.length : Int) 0 a0_0 a0_1 a0_2 a0_3 a0_4 a0_5 a0_6 a0_7 a0_8 l0_9 a0_10 a0_11 a0_12 a0_13
theorem conf_ports.mono_l : ∀ k, (∀ y0 y1 y2 y3 y4 y5 y6 y7 y8 y9 y10 y11 y12 y13 y14 y15 y16, LeO (conf_ports.l0 k y0 y1 y2 y3 y4 y5 y6 y7 y8 y9 y10 y11 y12 y13 y14 y15 y16) (conf_ports.l0 (k + 1) y0 y1 y2 y3 y4 y5 y6 y7 y8 y9 y10 y11 y12 y13 y14 y15 y16))
 | 0 => fun _ _ _ _ _ _ _ _ _ _ _ _ _ _ _ _ _ r h => by simp [conf_ports.l0] at h
 | k + 1 => by
  have ih0 := conf_ports.mono_l k
  ·
   intro y0 y1 y2 y3 y4 y5 y6 y7 y8 y9 y10 y11 y12 y13 y14 y15 y16
   unfold conf_ports.l0
   repeat' first
   | (with_reducible exact ih0 _ _ _ _ _ _ _ _ _ _ _ _ _ _ _ _ _)
   | (with_reducible exact LeO.refl _)
   | (with_reducible exact LeO.none _)
   | (with_reducible refine LeO.ite ?_ ?_)
   | (with_reducible refine LeO.bind ?_ (fun _ => ?_))
   | exact ih0 _ _ _ _ _ _ _ _ _ _ _ _ _ _ _ _ _
   | exact LeO.none _
   | refine LeO.ite ?_ ?_
   | refine LeO.bind ?_ (fun _ => ?_)
theorem conf_ports.mono : ∀ a0 a1 a2 a3 a4 a5 a6 a7 a8 a9 a10 a11 a12 a13 a14 k, LeO (conf_ports.f k a0 a1 a2 a3 a4 a5 a6 a7 a8 a9 a10 a11 a12 a13 a14) (conf_ports.f (k + 1) a0 a1 a2 a3 a4 a5 a6 a7 a8 a9 a10 a11 a12 a13 a14) := by
 intro a0 a1 a2 a3 a4 a5 a6 a7 a8 a9 a10 a11 a12 a13 a14 k
 have ih0 := conf_ports.mono_l k
 unfold conf_ports.f
 repeat' first
   | (with_reducible exact ih0 _ _ _ _ _ _ _ _ _ _ _ _ _ _ _ _ _)
   | (with_reducible exact LeO.refl _)
   | (with_reducible exact LeO.none _)
   | (with_reducible refine LeO.ite ?_ ?_)
   | (with_reducible refine LeO.bind ?_ (fun _ => ?_))
   | exact ih0 _ _ _ _ _ _ _ _ _ _ _ _ _ _ _ _ _
   | exact LeO.none _
   | refine LeO.ite ?_ ?_
   | refine LeO.bind ?_ (fun _ => ?_)
set_option maxHeartbeats 8000000 in
set_option maxRecDepth 100000 in
theorem conf_ports.calls (k : Nat) (a0_0 : ByteArray) (a0_1 : ByteArray) (a0_2 : Int) (a0_3 : Int) (a0_4 : Int) (a0_5 : Int) (a0_6 : Int) (a0_7 : Int) (a0_8 : Int) (A0_9 : Option Addr) (c0_9 : Nat) (l0_9 : List (S44)) (a0_10 : Int) (a0_11 : Int) (a0_12 : Int) (a0_13 : Int) (A1 : Option Addr) (c1 : Nat) (l1 : List (S40)) (r : Bool) (w : World) (hr0_9 : Kd.C k44 w A0_9 l0_9.length l0_9) (hc0_9 : l0_9.length ≤ c0_9) (hr1 : Kd.C k40 w A1 l1.length l1) (hc1 : l1.length ≤ c1) (h : conf_ports.f k a0_0 a0_1 a0_2 a0_3 a0_4 a0_5 a0_6 a0_7 a0_8 l0_9 a0_10 a0_11 a0_12 a0_13 l1 = some r) :
  Calls Tryd.prog 24 #[.agg #[.string a0_0, .string a0_1, .int .u8 a0_2, .int .u8 a0_3, .int .u8 a0_4, .int .u8 a0_5, .int .i64 a0_6, .int .i64 a0_7, .int .i64 a0_8, .slice A0_9 l0_9.length c0_9, .int .i64 a0_10, .int .i64 a0_11, .int .i64 a0_12, .int .i64 a0_13], .slice A1 l1.length c1] w fun e w' => e = .returned (.bool r) ∧ Below w.heap.size w w' := by
 have hu40 := Tryd.underlying40
 have HR0_9 := Aside0.mk hr0_9
 have HC0_9 := Aside0.mk hc0_9
 clear hr0_9 hc0_9
 have HR1 := Aside0.mk hr1
 have HC1 := Aside0.mk hc1
 clear hr1 hc1
 have HB := Aside0.mk (Below.refl w.heap.size w)
 have H : (conf_ports.l0 k l1 (l1.length : Int) 0 a0_0 a0_1 a0_2 a0_3 a0_4 a0_5 a0_6 a0_7 a0_8 l0_9 a0_10 a0_11 a0_12 a0_13) = some r := h
 clear h
 have H' := Aside0.mk H
 clear H
 go_enter Tryd.func24, Tryd.ntmps24
 go_wp2_with (first | ((with_reducible refine gate_dst (N := 2) rfl ?_); refine box_event ?hg (N := 2) ?hd (cs := #[.string a0_0, .string a0_1, .int .u8 a0_2, .int .u8 a0_3, .int .u8 a0_4, .int .u8 a0_5, .int .i64 a0_6, .int .i64 a0_7, .int .i64 a0_8, .slice A0_9 l0_9.length c0_9, .int .i64 a0_10, .int .i64 a0_11, .int .i64 a0_12, .int .i64 a0_13]) (t := 40) ?hr ?_; (case hd => rfl); (case hg => rfl); (case hr => first | (go_simp; done) | (go_simp; rfl)); intro gb130 hg w3 hbox hb; have n0_ := Aside0.mk (below_step (by repeat (first | (with_reducible first | exact HB.out | apply below_alloc | apply pw_below_drewN | apply below_drew1) | exact HB.out)) hb); have n1_ := Aside0.mk (hbox); have n2_ := Aside0.mk ((by rw [hg]; exact (below_size (by repeat (first | (with_reducible first | exact HB.out | apply below_alloc | apply pw_below_drewN | apply below_drew1) | exact HB.out))) : w.heap.size ≤ gb130)); have n3_ := Aside0.mk ((by rw [hg]; exact (below_size (by repeat (first | (with_reducible first | exact HB.out | apply below_alloc | apply pw_below_drewN | apply below_drew1) | exact HB.out))) : w.heap.size ≤ gb130)); clear HB; have HB := n0_; have BK130 := n1_; have GW130 := n2_; have GE130 := n3_; clear n0_ n1_ n2_ n3_; clear hb hbox hg))
 go_loopg [9] k (fun kq v9 w' => ∃ (x9_1 : Int), v9 = .int .i64 x9_1 ∧ Aside0 (conf_ports.l0 kq l1 (l1.length : Int) x9_1 a0_0 a0_1 a0_2 a0_3 a0_4 a0_5 a0_6 a0_7 a0_8 l0_9 a0_10 a0_11 a0_12 a0_13 = some r) ∧ Aside0 (kq ≤ k) ∧ Aside0 (w'.heap[gb130]? = some (.cells #[.string a0_0, .string a0_1, .int .u8 a0_2, .int .u8 a0_3, .int .u8 a0_4, .int .u8 a0_5, .int .i64 a0_6, .int .i64 a0_7, .int .i64 a0_8, (.slice A0_9 l0_9.length c0_9), .int .i64 a0_10, .int .i64 a0_11, .int .i64 a0_12, .int .i64 a0_13] 40 (0, 0))) ∧ Aside0 (Below w.heap.size w w'))
 case atStart => exact ⟨(0), (by first | rfl | (simp; done) | (simp [*]; done)), H', ⟨Nat.le_refl _⟩, ⟨by (with_reducible repeat (first | refine blk_drewN ?_ _ | refine blk_drew ?_ | refine blk_alloc ?_ _)); exact BK130.out⟩, ⟨by repeat (first | (with_reducible first | exact HB.out | apply below_alloc | apply pw_below_drewN | apply below_drew1 | refine below_set ?_ GE130.out) | exact HB.out)⟩⟩
 case round =>
  clear H'
  try clear c1
  try clear c2
  try clear p2
  obtain ⟨x9_1, rfl, HA, HK1, BK130, HB⟩ := hrel
  cases gk with
  | zero => exact absurd HA.out (by simp [conf_ports.l0])
  | succ k1 =>
   have H := HA.out
   clear HA
   simp only [conf_ports.l0] at H
   by_cases c4 : x9_1 < (l1.length : Int)
   ·
    rw [if_pos c4] at H
    have c4b0 : decide (x9_1 < (l1.length : Int)) = true := decide_eq_true c4
    clear c4
    by_cases c5 : 0 ≤ x9_1
    ·
     rw [if_pos c5] at H
     have c5b0 : decide (0 ≤ x9_1) = true := decide_eq_true c5
     clear c5
     by_cases c6 : x9_1 < (l1.length : Int)
     ·
      rw [if_pos c6] at H
      have c6b0 : decide (x9_1 < (l1.length : Int)) = true := decide_eq_true c6
      clear c6
      obtain ⟨ji7, hji7⟩ : ∃ j_ : Int, (mx a0_7 ((rd_T40 l1 x9_1).f3)) = j_ := ⟨_, rfl⟩
      replace H : (if (ji7) ≤ (mn a0_8 ((rd_T40 l1 x9_1).f4)) then (some false) else (conf_ports.l0 k1 l1 (l1.length : Int) (wrap64 (x9_1 + 1)) a0_0 a0_1 a0_2 a0_3 a0_4 a0_5 a0_6 a0_7 a0_8 l0_9 a0_10 a0_11 a0_12 a0_13)) = some r := by first | (rw [hji7] at H; exact H) | (simp only [hji7] at H ⊢; exact H)
      have hji7_ : (if a0_7 < ((rd_T40 l1 x9_1).f3) then ((rd_T40 l1 x9_1).f3) else a0_7) = ji7 := hji7
      obtain ⟨ji8, hji8⟩ : ∃ j_ : Int, (mn a0_8 ((rd_T40 l1 x9_1).f4)) = j_ := ⟨_, rfl⟩
      replace H : (if (ji7) ≤ (ji8) then (some false) else (conf_ports.l0 k1 l1 (l1.length : Int) (wrap64 (x9_1 + 1)) a0_0 a0_1 a0_2 a0_3 a0_4 a0_5 a0_6 a0_7 a0_8 l0_9 a0_10 a0_11 a0_12 a0_13)) = some r := by first | (rw [hji8] at H; exact H) | (simp only [hji8] at H ⊢; exact H)
      have hji8_ : (if ((rd_T40 l1 x9_1).f4) < a0_8 then ((rd_T40 l1 x9_1).f4) else a0_8) = ji8 := hji8
      by_cases c9 : (ji7) ≤ (ji8)
      ·
       rw [if_pos c9] at H
       have c9b0 : decide ((ji7) ≤ (ji8)) = true := decide_eq_true c9
       clear c9
       obtain rfl := Option.some.inj H
       have p131 : 0 ≤ (x9_1 : Int) := of_decide_eq_true (by first | (with_reducible assumption) | assumption)
       have q131 : x9_1 < (l1.length : Int) := of_decide_eq_true (by first | (with_reducible assumption) | assumption)
       obtain ⟨ad131, A131_9, c131_9, e131, hx131_0, hx131_1, hx131_2, hx131_3, hx131_4, hx131_5, hx131_6, hx131_7, hx131_8, hx131_9, hx131_10, hx131_11, hx131_12, hx131_13, hl131_9, hi131_9⟩ := at_T40 HR1.out x9_1 p131 q131
       cases e131
       replace hx131_0 := (HB.out.cell (World.block_lt_of_cell? w _ hx131_0)).trans hx131_0
       replace hx131_1 := (HB.out.cell (World.block_lt_of_cell? w _ hx131_1)).trans hx131_1
       replace hx131_2 := (HB.out.cell (World.block_lt_of_cell? w _ hx131_2)).trans hx131_2
       replace hx131_3 := (HB.out.cell (World.block_lt_of_cell? w _ hx131_3)).trans hx131_3
       replace hx131_4 := (HB.out.cell (World.block_lt_of_cell? w _ hx131_4)).trans hx131_4
       replace hx131_5 := (HB.out.cell (World.block_lt_of_cell? w _ hx131_5)).trans hx131_5
       replace hx131_6 := (HB.out.cell (World.block_lt_of_cell? w _ hx131_6)).trans hx131_6
       replace hx131_7 := (HB.out.cell (World.block_lt_of_cell? w _ hx131_7)).trans hx131_7
       replace hx131_8 := (HB.out.cell (World.block_lt_of_cell? w _ hx131_8)).trans hx131_8
       replace hx131_9 := (HB.out.cell (World.block_lt_of_cell? w _ hx131_9)).trans hx131_9
       replace hx131_10 := (HB.out.cell (World.block_lt_of_cell? w _ hx131_10)).trans hx131_10
       replace hx131_11 := (HB.out.cell (World.block_lt_of_cell? w _ hx131_11)).trans hx131_11
       replace hx131_12 := (HB.out.cell (World.block_lt_of_cell? w _ hx131_12)).trans hx131_12
       replace hx131_13 := (HB.out.cell (World.block_lt_of_cell? w _ hx131_13)).trans hx131_13
       have HR131_9 := Aside0.mk hi131_9
       have HC131_9 := Aside0.mk hl131_9
       clear hi131_9 hl131_9
       replace p131 := eq_true p131
       replace q131 := eq_true q131
       go_wp2_with (first | ((with_reducible refine gate_dst (N := 6) rfl ?_); refine box_event ?hg (N := 6) ?hd (cs := #[.string (⟨#[]⟩ : ByteArray), .string (⟨#[]⟩ : ByteArray), .int .u8 0, .int .u8 0, .int .u8 0, .int .u8 0, .int .i64 0, .int .i64 0, .int .i64 0, .slice none 0 0, .int .i64 0, .int .i64 0, .int .i64 0, .int .i64 0]) (t := 40) ?hr ?_; (case hd => rfl); (case hg => rfl); (case hr => first | (go_simp; done) | (go_simp; rfl)); intro gb132 hg w10 hbox hb; have n0_ := Aside0.mk (blk_below (g := gb130) (o := .cells #[.string a0_0, .string a0_1, .int .u8 a0_2, .int .u8 a0_3, .int .u8 a0_4, .int .u8 a0_5, .int .i64 a0_6, .int .i64 a0_7, .int .i64 a0_8, .slice A0_9 l0_9.length c0_9, .int .i64 a0_10, .int .i64 a0_11, .int .i64 a0_12, .int .i64 a0_13] 40 (0, 0)) (by (with_reducible repeat (first | refine blk_drewN ?_ _ | refine blk_drew ?_ | refine blk_alloc ?_ _)); exact BK130.out) hb); have n1_ := Aside0.mk (below_step (by repeat (first | (with_reducible first | exact HB.out | apply below_alloc | apply pw_below_drewN | apply below_drew1 | refine below_set ?_ GE130.out) | exact HB.out)) hb); have n2_ := Aside0.mk (hbox); have n3_ := Aside0.mk ((by rw [hg]; exact (below_size (by repeat (first | (with_reducible first | exact HB.out | apply below_alloc | apply pw_below_drewN | apply below_drew1 | refine below_set ?_ GE130.out) | exact HB.out))) : w.heap.size ≤ gb132)); have n4_ := Aside0.mk ((by rw [hg]; exact (below_size (by repeat (first | (with_reducible first | exact HB.out | apply below_alloc | apply pw_below_drewN | apply below_drew1 | refine below_set ?_ GE130.out) | exact HB.out))) : w.heap.size ≤ gb132)); have n5_ := Aside0.mk ((by rw [hg]; exact Nat.ne_of_lt (blk_lt (g := gb130) (o := .cells #[.string a0_0, .string a0_1, .int .u8 a0_2, .int .u8 a0_3, .int .u8 a0_4, .int .u8 a0_5, .int .i64 a0_6, .int .i64 a0_7, .int .i64 a0_8, .slice A0_9 l0_9.length c0_9, .int .i64 a0_10, .int .i64 a0_11, .int .i64 a0_12, .int .i64 a0_13] 40 (0, 0)) (by (with_reducible repeat (first | refine blk_drewN ?_ _ | refine blk_drew ?_ | refine blk_alloc ?_ _)); exact BK130.out)) : gb130 ≠ gb132)); have n6_ := Aside0.mk ((by rw [hg]; exact Nat.ne_of_gt (blk_lt (g := gb130) (o := .cells #[.string a0_0, .string a0_1, .int .u8 a0_2, .int .u8 a0_3, .int .u8 a0_4, .int .u8 a0_5, .int .i64 a0_6, .int .i64 a0_7, .int .i64 a0_8, .slice A0_9 l0_9.length c0_9, .int .i64 a0_10, .int .i64 a0_11, .int .i64 a0_12, .int .i64 a0_13] 40 (0, 0)) (by (with_reducible repeat (first | refine blk_drewN ?_ _ | refine blk_drew ?_ | refine blk_alloc ?_ _)); exact BK130.out)) : gb132 ≠ gb130)); clear BK130; clear HB; have BK130 := n0_; have HB := n1_; have BK132 := n2_; have GW132 := n3_; have GE132 := n4_; have NB130_132 := n5_; have NB132_130 := n6_; clear n0_ n1_ n2_ n3_ n4_ n5_ n6_; clear hb hbox hg; have hnb11 := NB132_130.out; have hnc11 := NB130_132.out; obtain ⟨hcz12_0, hcz12_1, hcz12_2, hcz12_3, hcz12_4, hcz12_5, hcz12_6, hcz12_7, hcz12_8, hcz12_9, hcz12_10, hcz12_11, hcz12_12, hcz12_13⟩ := cl_14 (.string (⟨#[]⟩ : ByteArray)) (.string (⟨#[]⟩ : ByteArray)) (.int .u8 0) (.int .u8 0) (.int .u8 0) (.int .u8 0) (.int .i64 0) (.int .i64 0) (.int .i64 0) (.slice none 0 0) (.int .i64 0) (.int .i64 0) (.int .i64 0) (.int .i64 0) BK132.out; obtain ⟨hfz12_0, hfz12_1, hfz12_2, hfz12_3, hfz12_4, hfz12_5, hfz12_6, hfz12_7, hfz12_8, hfz12_9, hfz12_10, hfz12_11, hfz12_12, hfz12_13⟩ := fz_14 BK132.out; obtain ⟨hcz13_0, hcz13_1, hcz13_2, hcz13_3, hcz13_4, hcz13_5, hcz13_6, hcz13_7, hcz13_8, hcz13_9, hcz13_10, hcz13_11, hcz13_12, hcz13_13⟩ := cl_14 (.string a0_0) (.string a0_1) (.int .u8 a0_2) (.int .u8 a0_3) (.int .u8 a0_4) (.int .u8 a0_5) (.int .i64 a0_6) (.int .i64 a0_7) (.int .i64 a0_8) (.slice A0_9 l0_9.length c0_9) (.int .i64 a0_10) (.int .i64 a0_11) (.int .i64 a0_12) (.int .i64 a0_13) BK130.out; obtain ⟨hfz13_0, hfz13_1, hfz13_2, hfz13_3, hfz13_4, hfz13_5, hfz13_6, hfz13_7, hfz13_8, hfz13_9, hfz13_10, hfz13_11, hfz13_12, hfz13_13⟩ := fz_14 BK130.out))
       go_ret
       exact ⟨by first | rfl | (simp [errW_none, errW_some] <;> rfl) | (simp only [← hji7, ← hji8]; first | rfl | (simp [errW_none, errW_some] <;> rfl)) | (simp [*, errW_none, errW_some] <;> rfl), by repeat (first | (with_reducible first | exact HB.out | apply below_alloc | apply pw_below_drewN | apply below_drew1 | refine below_set ?_ GE130.out | refine below_set ?_ GE132.out) | exact HB.out)⟩
      ·
       rw [if_neg c9] at H
       have c9b0 : decide ((ji7) ≤ (ji8)) = false := decide_eq_false c9
       clear c9
       have H' := Aside0.mk H
       clear H
       have p131 : 0 ≤ (x9_1 : Int) := of_decide_eq_true (by first | (with_reducible assumption) | assumption)
       have q131 : x9_1 < (l1.length : Int) := of_decide_eq_true (by first | (with_reducible assumption) | assumption)
       obtain ⟨ad131, A131_9, c131_9, e131, hx131_0, hx131_1, hx131_2, hx131_3, hx131_4, hx131_5, hx131_6, hx131_7, hx131_8, hx131_9, hx131_10, hx131_11, hx131_12, hx131_13, hl131_9, hi131_9⟩ := at_T40 HR1.out x9_1 p131 q131
       cases e131
       replace hx131_0 := (HB.out.cell (World.block_lt_of_cell? w _ hx131_0)).trans hx131_0
       replace hx131_1 := (HB.out.cell (World.block_lt_of_cell? w _ hx131_1)).trans hx131_1
       replace hx131_2 := (HB.out.cell (World.block_lt_of_cell? w _ hx131_2)).trans hx131_2
       replace hx131_3 := (HB.out.cell (World.block_lt_of_cell? w _ hx131_3)).trans hx131_3
       replace hx131_4 := (HB.out.cell (World.block_lt_of_cell? w _ hx131_4)).trans hx131_4
       replace hx131_5 := (HB.out.cell (World.block_lt_of_cell? w _ hx131_5)).trans hx131_5
       replace hx131_6 := (HB.out.cell (World.block_lt_of_cell? w _ hx131_6)).trans hx131_6
       replace hx131_7 := (HB.out.cell (World.block_lt_of_cell? w _ hx131_7)).trans hx131_7
       replace hx131_8 := (HB.out.cell (World.block_lt_of_cell? w _ hx131_8)).trans hx131_8
       replace hx131_9 := (HB.out.cell (World.block_lt_of_cell? w _ hx131_9)).trans hx131_9
       replace hx131_10 := (HB.out.cell (World.block_lt_of_cell? w _ hx131_10)).trans hx131_10
       replace hx131_11 := (HB.out.cell (World.block_lt_of_cell? w _ hx131_11)).trans hx131_11
       replace hx131_12 := (HB.out.cell (World.block_lt_of_cell? w _ hx131_12)).trans hx131_12
       replace hx131_13 := (HB.out.cell (World.block_lt_of_cell? w _ hx131_13)).trans hx131_13
       have HR131_9 := Aside0.mk hi131_9
       have HC131_9 := Aside0.mk hl131_9
       clear hi131_9 hl131_9
       replace p131 := eq_true p131
       replace q131 := eq_true q131
       go_wp2_with (first | ((with_reducible refine gate_dst (N := 6) rfl ?_); refine box_event ?hg (N := 6) ?hd (cs := #[.string (⟨#[]⟩ : ByteArray), .string (⟨#[]⟩ : ByteArray), .int .u8 0, .int .u8 0, .int .u8 0, .int .u8 0, .int .i64 0, .int .i64 0, .int .i64 0, .slice none 0 0, .int .i64 0, .int .i64 0, .int .i64 0, .int .i64 0]) (t := 40) ?hr ?_; (case hd => rfl); (case hg => rfl); (case hr => first | (go_simp; done) | (go_simp; rfl)); intro gb132 hg w14 hbox hb; have n0_ := Aside0.mk (blk_below (g := gb130) (o := .cells #[.string a0_0, .string a0_1, .int .u8 a0_2, .int .u8 a0_3, .int .u8 a0_4, .int .u8 a0_5, .int .i64 a0_6, .int .i64 a0_7, .int .i64 a0_8, .slice A0_9 l0_9.length c0_9, .int .i64 a0_10, .int .i64 a0_11, .int .i64 a0_12, .int .i64 a0_13] 40 (0, 0)) (by (with_reducible repeat (first | refine blk_drewN ?_ _ | refine blk_drew ?_ | refine blk_alloc ?_ _)); exact BK130.out) hb); have n1_ := Aside0.mk (below_step (by repeat (first | (with_reducible first | exact HB.out | apply below_alloc | apply pw_below_drewN | apply below_drew1 | refine below_set ?_ GE130.out) | exact HB.out)) hb); have n2_ := Aside0.mk (hbox); have n3_ := Aside0.mk ((by rw [hg]; exact (below_size (by repeat (first | (with_reducible first | exact HB.out | apply below_alloc | apply pw_below_drewN | apply below_drew1 | refine below_set ?_ GE130.out) | exact HB.out))) : w.heap.size ≤ gb132)); have n4_ := Aside0.mk ((by rw [hg]; exact (below_size (by repeat (first | (with_reducible first | exact HB.out | apply below_alloc | apply pw_below_drewN | apply below_drew1 | refine below_set ?_ GE130.out) | exact HB.out))) : w.heap.size ≤ gb132)); have n5_ := Aside0.mk ((by rw [hg]; exact Nat.ne_of_lt (blk_lt (g := gb130) (o := .cells #[.string a0_0, .string a0_1, .int .u8 a0_2, .int .u8 a0_3, .int .u8 a0_4, .int .u8 a0_5, .int .i64 a0_6, .int .i64 a0_7, .int .i64 a0_8, .slice A0_9 l0_9.length c0_9, .int .i64 a0_10, .int .i64 a0_11, .int .i64 a0_12, .int .i64 a0_13] 40 (0, 0)) (by (with_reducible repeat (first | refine blk_drewN ?_ _ | refine blk_drew ?_ | refine blk_alloc ?_ _)); exact BK130.out)) : gb130 ≠ gb132)); have n6_ := Aside0.mk ((by rw [hg]; exact Nat.ne_of_gt (blk_lt (g := gb130) (o := .cells #[.string a0_0, .string a0_1, .int .u8 a0_2, .int .u8 a0_3, .int .u8 a0_4, .int .u8 a0_5, .int .i64 a0_6, .int .i64 a0_7, .int .i64 a0_8, .slice A0_9 l0_9.length c0_9, .int .i64 a0_10, .int .i64 a0_11, .int .i64 a0_12, .int .i64 a0_13] 40 (0, 0)) (by (with_reducible repeat (first | refine blk_drewN ?_ _ | refine blk_drew ?_ | refine blk_alloc ?_ _)); exact BK130.out)) : gb132 ≠ gb130)); clear BK130; clear HB; have BK130 := n0_; have HB := n1_; have BK132 := n2_; have GW132 := n3_; have GE132 := n4_; have NB130_132 := n5_; have NB132_130 := n6_; clear n0_ n1_ n2_ n3_ n4_ n5_ n6_; clear hb hbox hg; have hnb15 := NB132_130.out; have hnc15 := NB130_132.out; obtain ⟨hcz16_0, hcz16_1, hcz16_2, hcz16_3, hcz16_4, hcz16_5, hcz16_6, hcz16_7, hcz16_8, hcz16_9, hcz16_10, hcz16_11, hcz16_12, hcz16_13⟩ := cl_14 (.string (⟨#[]⟩ : ByteArray)) (.string (⟨#[]⟩ : ByteArray)) (.int .u8 0) (.int .u8 0) (.int .u8 0) (.int .u8 0) (.int .i64 0) (.int .i64 0) (.int .i64 0) (.slice none 0 0) (.int .i64 0) (.int .i64 0) (.int .i64 0) (.int .i64 0) BK132.out; obtain ⟨hfz16_0, hfz16_1, hfz16_2, hfz16_3, hfz16_4, hfz16_5, hfz16_6, hfz16_7, hfz16_8, hfz16_9, hfz16_10, hfz16_11, hfz16_12, hfz16_13⟩ := fz_14 BK132.out; obtain ⟨hcz17_0, hcz17_1, hcz17_2, hcz17_3, hcz17_4, hcz17_5, hcz17_6, hcz17_7, hcz17_8, hcz17_9, hcz17_10, hcz17_11, hcz17_12, hcz17_13⟩ := cl_14 (.string a0_0) (.string a0_1) (.int .u8 a0_2) (.int .u8 a0_3) (.int .u8 a0_4) (.int .u8 a0_5) (.int .i64 a0_6) (.int .i64 a0_7) (.int .i64 a0_8) (.slice A0_9 l0_9.length c0_9) (.int .i64 a0_10) (.int .i64 a0_11) (.int .i64 a0_12) (.int .i64 a0_13) BK130.out; obtain ⟨hfz17_0, hfz17_1, hfz17_2, hfz17_3, hfz17_4, hfz17_5, hfz17_6, hfz17_7, hfz17_8, hfz17_9, hfz17_10, hfz17_11, hfz17_12, hfz17_13⟩ := fz_14 BK130.out))
       go_roundg k1
       case measure => have := HK1.out; omega
       case rel => exact ⟨(wrap64 (x9_1 + 1)), (by first | rfl | (simp; done) | (simp [*]; done)), H', ⟨by have := HK1.out; omega⟩, ⟨by (iterate 14 ((with_reducible repeat (first | refine blk_drewN ?_ _ | refine blk_drew ?_ | refine blk_alloc ?_ _)); refine blk_far ?_ NB130_132.out _)); (with_reducible repeat (first | refine blk_drewN ?_ _ | refine blk_drew ?_ | refine blk_alloc ?_ _)); exact BK130.out⟩, ⟨by repeat (first | (with_reducible first | exact HB.out | apply below_alloc | apply pw_below_drewN | apply below_drew1 | refine below_set ?_ GE130.out | refine below_set ?_ GE132.out) | exact HB.out)⟩⟩
     ·
      rw [if_neg c6] at H
      exact absurd H (by simp)
    ·
     rw [if_neg c5] at H
     exact absurd H (by simp)
   ·
    rw [if_neg c4] at H
    have c4b0 : decide (x9_1 < (l1.length : Int)) = false := decide_eq_false c4
    clear c4
    replace H := Option.bind_eq_some_iff.mp H
    obtain ⟨t133, A180, H⟩ := H
    replace H : (if t133 = true then (some (decide (a0_8 ≤ 65535))) else (some false)) = some r := H
    have A18 := Aside0.mk A180
    clear A180
    by_cases c19 : t133 = true
    ·
     subst c19
     have H1 : (some (decide (a0_8 ≤ 65535))) = some r := by rw [if_pos rfl] at H; exact H
     clear H
     have H := H1
     clear H1
     obtain rfl := Option.some.inj H
     have hcz20_0 : wr.cell? ⟨gb130, 0, none⟩ = some (.string a0_0) := (blk_cell BK130.out 0).trans rfl
     have hcz20_1 : wr.cell? ⟨gb130, 1, none⟩ = some (.string a0_1) := (blk_cell BK130.out 1).trans rfl
     have hcz20_2 : wr.cell? ⟨gb130, 2, none⟩ = some (.int .u8 a0_2) := (blk_cell BK130.out 2).trans rfl
     have hcz20_3 : wr.cell? ⟨gb130, 3, none⟩ = some (.int .u8 a0_3) := (blk_cell BK130.out 3).trans rfl
     have hcz20_4 : wr.cell? ⟨gb130, 4, none⟩ = some (.int .u8 a0_4) := (blk_cell BK130.out 4).trans rfl
     have hcz20_5 : wr.cell? ⟨gb130, 5, none⟩ = some (.int .u8 a0_5) := (blk_cell BK130.out 5).trans rfl
     have hcz20_6 : wr.cell? ⟨gb130, 6, none⟩ = some (.int .i64 a0_6) := (blk_cell BK130.out 6).trans rfl
     have hcz20_7 : wr.cell? ⟨gb130, 7, none⟩ = some (.int .i64 a0_7) := (blk_cell BK130.out 7).trans rfl
     have hcz20_8 : wr.cell? ⟨gb130, 8, none⟩ = some (.int .i64 a0_8) := (blk_cell BK130.out 8).trans rfl
     have hcz20_9 : wr.cell? ⟨gb130, 9, none⟩ = some (.slice A0_9 l0_9.length c0_9) := (blk_cell BK130.out 9).trans rfl
     have hcz20_10 : wr.cell? ⟨gb130, 10, none⟩ = some (.int .i64 a0_10) := (blk_cell BK130.out 10).trans rfl
     have hcz20_11 : wr.cell? ⟨gb130, 11, none⟩ = some (.int .i64 a0_11) := (blk_cell BK130.out 11).trans rfl
     have hcz20_12 : wr.cell? ⟨gb130, 12, none⟩ = some (.int .i64 a0_12) := (blk_cell BK130.out 12).trans rfl
     have hcz20_13 : wr.cell? ⟨gb130, 13, none⟩ = some (.int .i64 a0_13) := (blk_cell BK130.out 13).trans rfl
     have hfz20_0 := blk_frozen BK130.out 0
     have hfz20_1 := blk_frozen BK130.out 1
     have hfz20_2 := blk_frozen BK130.out 2
     have hfz20_3 := blk_frozen BK130.out 3
     have hfz20_4 := blk_frozen BK130.out 4
     have hfz20_5 := blk_frozen BK130.out 5
     have hfz20_6 := blk_frozen BK130.out 6
     have hfz20_7 := blk_frozen BK130.out 7
     have hfz20_8 := blk_frozen BK130.out 8
     have hfz20_9 := blk_frozen BK130.out 9
     have hfz20_10 := blk_frozen BK130.out 10
     have hfz20_11 := blk_frozen BK130.out 11
     have hfz20_12 := blk_frozen BK130.out 12
     have hfz20_13 := blk_frozen BK130.out 13
     go_wp2_with (first | ((with_reducible refine gate_callee (f := 22) rfl ?_); refine goesL_ (some 29) rfl rfl Tryd.func22 (by kernel_rfl) rfl #[.int .i64 a0_7, .int .i64 1024, .int .i64 a0_8] rfl (by (try simp only [List.map_toArray, List.map_cons, List.map_nil]); first | done | rfl | (simp only [List.length_drop, List.length_take]; rfl)) ?_; (with_reducible refine (conf_in.calls a0_7 1024 a0_8 true _ A18.out).mono ?_); rintro e w' ⟨rfl, ⟨nd, rfl⟩⟩; refine ⟨_, rfl, ?_⟩))
     go_ret
     exact ⟨by first | rfl | (simp [errW_none, errW_some] <;> rfl) | (simp [*, errW_none, errW_some] <;> rfl), by repeat (first | (with_reducible first | exact HB.out | apply below_alloc | apply pw_below_drewN | apply below_drew1 | refine below_set ?_ GE130.out) | exact HB.out)⟩
    ·
     replace c19 := Bool.eq_false_iff.mpr c19
     subst c19
     have H1 : (some false) = some r := by rw [if_neg (show ¬ (false = true) by decide)] at H; exact H
     clear H
     have H := H1
     clear H1
     obtain rfl := Option.some.inj H
     have hcz21_0 : wr.cell? ⟨gb130, 0, none⟩ = some (.string a0_0) := (blk_cell BK130.out 0).trans rfl
     have hcz21_1 : wr.cell? ⟨gb130, 1, none⟩ = some (.string a0_1) := (blk_cell BK130.out 1).trans rfl
     have hcz21_2 : wr.cell? ⟨gb130, 2, none⟩ = some (.int .u8 a0_2) := (blk_cell BK130.out 2).trans rfl
     have hcz21_3 : wr.cell? ⟨gb130, 3, none⟩ = some (.int .u8 a0_3) := (blk_cell BK130.out 3).trans rfl
     have hcz21_4 : wr.cell? ⟨gb130, 4, none⟩ = some (.int .u8 a0_4) := (blk_cell BK130.out 4).trans rfl
     have hcz21_5 : wr.cell? ⟨gb130, 5, none⟩ = some (.int .u8 a0_5) := (blk_cell BK130.out 5).trans rfl
     have hcz21_6 : wr.cell? ⟨gb130, 6, none⟩ = some (.int .i64 a0_6) := (blk_cell BK130.out 6).trans rfl
     have hcz21_7 : wr.cell? ⟨gb130, 7, none⟩ = some (.int .i64 a0_7) := (blk_cell BK130.out 7).trans rfl
     have hcz21_8 : wr.cell? ⟨gb130, 8, none⟩ = some (.int .i64 a0_8) := (blk_cell BK130.out 8).trans rfl
     have hcz21_9 : wr.cell? ⟨gb130, 9, none⟩ = some (.slice A0_9 l0_9.length c0_9) := (blk_cell BK130.out 9).trans rfl
     have hcz21_10 : wr.cell? ⟨gb130, 10, none⟩ = some (.int .i64 a0_10) := (blk_cell BK130.out 10).trans rfl
     have hcz21_11 : wr.cell? ⟨gb130, 11, none⟩ = some (.int .i64 a0_11) := (blk_cell BK130.out 11).trans rfl
     have hcz21_12 : wr.cell? ⟨gb130, 12, none⟩ = some (.int .i64 a0_12) := (blk_cell BK130.out 12).trans rfl
     have hcz21_13 : wr.cell? ⟨gb130, 13, none⟩ = some (.int .i64 a0_13) := (blk_cell BK130.out 13).trans rfl
     have hfz21_0 := blk_frozen BK130.out 0
     have hfz21_1 := blk_frozen BK130.out 1
     have hfz21_2 := blk_frozen BK130.out 2
     have hfz21_3 := blk_frozen BK130.out 3
     have hfz21_4 := blk_frozen BK130.out 4
     have hfz21_5 := blk_frozen BK130.out 5
     have hfz21_6 := blk_frozen BK130.out 6
     have hfz21_7 := blk_frozen BK130.out 7
     have hfz21_8 := blk_frozen BK130.out 8
     have hfz21_9 := blk_frozen BK130.out 9
     have hfz21_10 := blk_frozen BK130.out 10
     have hfz21_11 := blk_frozen BK130.out 11
     have hfz21_12 := blk_frozen BK130.out 12
     have hfz21_13 := blk_frozen BK130.out 13
     go_wp2_with (first | ((with_reducible refine gate_callee (f := 22) rfl ?_); refine goesL_ (some 29) rfl rfl Tryd.func22 (by kernel_rfl) rfl #[.int .i64 a0_7, .int .i64 1024, .int .i64 a0_8] rfl (by (try simp only [List.map_toArray, List.map_cons, List.map_nil]); first | done | rfl | (simp only [List.length_drop, List.length_take]; rfl)) ?_; (with_reducible refine (conf_in.calls a0_7 1024 a0_8 false _ A18.out).mono ?_); rintro e w' ⟨rfl, ⟨nd, rfl⟩⟩; refine ⟨_, rfl, ?_⟩))
     go_ret
     exact ⟨by first | rfl | (simp [errW_none, errW_some] <;> rfl) | (simp [*, errW_none, errW_some] <;> rfl), by repeat (first | (with_reducible first | exact HB.out | apply below_alloc | apply pw_below_drewN | apply below_drew1 | refine below_set ?_ GE130.out) | exact HB.out)⟩

end Go.Proofs.YtajaedebndeajaaDoor.Q

namespace Go.Proofs.YtajaedebndeajaaDoor.Pure
open Go Go.RowKit Go.Proofs.YtajaedebndeajaaDoor.Q Go.Proofs.YtajaedebndeajaaDoor.Quad Go.Proofs.YtajaedebndeajaaDoorW.PrintWords Go.Proofs.YtajaedebndeajaaDoorW.PrintLast Go.Proofs.YtajaedebndeajaaDoorW.PrintMore
set_option linter.unusedVariables false
set_option linter.unusedSimpArgs false

abbrev Ten := S40
theorem rd_ten (l : List Ten) (i : Nat) (h : i < l.length) : rd_T40 l (i : Int) = l[i] := by
  rw [rd_T40, Int.toNat_natCast, List.getD_eq_getElem?_getD, List.getElem?_eq_getElem h]; rfl
def inR (n lo hi : Int) : Bool := decide (lo ≤ n) && decide (n ≤ hi)
theorem in_is (n lo hi : Int) : conf_in.f n lo hi = some (inR n lo hi) := by
  rw [conf_in.f, inR]
  by_cases h : n ≥ lo
  · rw [if_pos h, decide_eq_true (show lo ≤ n from h)]; rfl
  · rw [if_neg h, decide_eq_false (show ¬ lo ≤ n from h)]; rfl
theorem sat_is (n : Int) : sat_May.f n = some (inR n 0 1099511627776) := by
  rw [sat_May.f, inR]
  by_cases h : n ≥ 0
  · rw [if_pos h, decide_eq_true (show 0 ≤ n from h)]; rfl
  · rw [if_neg h, decide_eq_false (show ¬ 0 ≤ n from h)]; rfl
def longS (s : ByteArray) : Bool := decide (1 ≤ s.size) && decide (s.size ≤ 60)
theorem long_is (s : ByteArray) : route_long.f s = some (longS s) := by
  have hl := data_length s
  rw [route_long.f, longS, ByteArray.toList_eq]
  by_cases h : s.data.toList = []
  · rw [if_pos h, decide_eq_false (by rw [h] at hl; simp at hl; omega)]; rfl
  · have h0 : s.data.toList.length ≠ 0 := fun hh => h (List.length_eq_zero_iff.1 hh)
    rw [if_neg h, decide_eq_true (show 1 ≤ s.size by omega), Bool.true_and]
    congr 1
    rw [Bool.eq_iff_iff, decide_eq_true_iff, decide_eq_true_iff]; omega
def clean1 (c : UInt8) : Bool := decide (32 ≤ c.toNat) && decide (c.toNat ≤ 126)
def name1 (c : UInt8) : Bool := (decide (97 ≤ c.toNat) && decide (c.toNat ≤ 122)) || (decide (48 ≤ c.toNat) && decide (c.toNat ≤ 57)) || c.toNat == 46 || c.toNat == 45
def space1 (c : UInt8) : Bool := c.toNat == 32
def userS (s : ByteArray) : Bool := longS s && s.data.toList.all clean1 && !s.data.toList.any space1
def nameS (s : ByteArray) : Bool := longS s && s.data.toList.all name1
theorem signs_name : ∀ n : Nat, n < 256 → (Lib.indexByte [97, 98, 99, 100, 101, 102, 103, 104, 105, 106, 107, 108, 109, 110, 111, 112, 113, 114, 115, 116, 117, 118, 119, 120, 121, 122, 48, 49, 50, 51, 52, 53, 54, 55, 56, 57, 46, 45] n.toUInt8 < 0) = (name1 n.toUInt8 = false) := by decide +kernel
theorem sign_is (c : UInt8) : strings_IndexByte.f (⟨#[97, 98, 99, 100, 101, 102, 103, 104, 105, 106, 107, 108, 109, 110, 111, 112, 113, 114, 115, 116, 117, 118, 119, 120, 121, 122, 48, 49, 50, 51, 52, 53, 54, 55, 56, 57, 46, 45]⟩ : ByteArray) (c.toNat : Int) = some (Lib.indexByte [97, 98, 99, 100, 101, 102, 103, 104, 105, 106, 107, 108, 109, 110, 111, 112, 113, 114, 115, 116, 117, 118, 119, 120, 121, 122, 48, 49, 50, 51, 52, 53, 54, 55, 56, 57, 46, 45] c) := by
  rw [strings_IndexByte.f, Int.toNat_natCast]
  simp
theorem sign_lt (c : UInt8) : (Lib.indexByte [97, 98, 99, 100, 101, 102, 103, 104, 105, 106, 107, 108, 109, 110, 111, 112, 113, 114, 115, 116, 117, 118, 119, 120, 121, 122, 48, 49, 50, 51, 52, 53, 54, 55, 56, 57, 46, 45] c < 0) = (name1 c = false) := by
  have := signs_name c.toNat c.toNat_lt
  simpa using this
theorem clean_ev (s : ByteArray) (hs : s.size ≤ 1000000) : Ev (fun k => cmd_Clean.f k s) (s.data.toList.all clean1) := by
  have hl := data_length s
  have key : ∀ d i : Nat, i + d = s.size → Ev (fun k => cmd_Clean.l0 k s (s.size : Int) (i : Int)) ((s.data.toList.drop i).all clean1) := by
    intro d
    induction d with
    | zero =>
      intro i hi
      refine Ev.step (f := fun _ => some true) (fun k => ?_) (by rw [List.drop_of_length_le (by omega)]; exact Ev.now _)
      simp only [cmd_Clean.l0]
      rw [if_neg (by omega)]
    | succ d ih =>
      intro i hi
      have hlt : i < s.data.toList.length := by omega
      rw [List.drop_eq_getElem_cons hlt, List.all_cons]
      have hb := bt_byte s i hlt
      by_cases h1 : 32 ≤ (s.data.toList[i]).toNat
      · by_cases h2 : (s.data.toList[i]).toNat ≤ 126
        · rw [clean1, decide_eq_true h1, decide_eq_true h2]
          refine Ev.step (fun k => ?_) (ih (i + 1) (by omega))
          simp only [cmd_Clean.l0]
          rw [if_pos (by omega), if_pos (by omega), if_pos (by omega), hb, if_neg (by omega), if_neg (by omega), wrap_up (by omega)]
        · rw [clean1, decide_eq_true h1, decide_eq_false h2]
          refine Ev.step (f := fun _ => some false) (fun k => ?_) (Ev.now _)
          simp only [cmd_Clean.l0]
          rw [if_pos (by omega), if_pos (by omega), if_pos (by omega), hb, if_neg (by omega), if_pos (by omega)]
      · rw [clean1, decide_eq_false h1]
        refine Ev.step (f := fun _ => some false) (fun k => ?_) (Ev.now _)
        simp only [cmd_Clean.l0]
        rw [if_pos (by omega), if_pos (by omega), if_pos (by omega), hb, if_pos (by omega)]
  have := key s.size 0 (by omega)
  rwa [List.drop_zero] at this
theorem name_ev (s : ByteArray) (hs : s.size ≤ 1000000) : Ev (fun k => route_Name.f k s) (nameS s) := by
  have hl := data_length s
  have key : ∀ d i : Nat, i + d = s.size → Ev (fun k => route_Name.l0 k s (s.size : Int) (i : Int)) (longS s && (s.data.toList.drop i).all name1) := by
    intro d
    induction d with
    | zero =>
      intro i hi
      refine Ev.step (f := fun _ => some (longS s)) (fun k => ?_) (by rw [List.drop_of_length_le (by omega), List.all_nil, Bool.and_true]; exact Ev.now _)
      simp only [route_Name.l0]
      rw [if_neg (by omega), long_is]; rfl
    | succ d ih =>
      intro i hi
      have hlt : i < s.data.toList.length := by omega
      rw [List.drop_eq_getElem_cons hlt, List.all_cons]
      have hb := bt_byte s i hlt
      have hg := sign_is s.data.toList[i]
      have hz := sign_lt s.data.toList[i]
      cases hn : name1 s.data.toList[i]
      · refine Ev.step (f := fun _ => some false) (fun k => ?_) (by rw [Bool.false_and, Bool.and_false]; exact Ev.now _)
        simp only [route_Name.l0]
        rw [if_pos (by omega), if_pos (by omega), if_pos (by omega), hb, hg]
        simp only [Option.bind_some]
        rw [if_pos (by rw [hz]; exact hn)]
      · rw [Bool.true_and]
        refine Ev.step (fun k => ?_) (ih (i + 1) (by omega))
        simp only [route_Name.l0]
        rw [if_pos (by omega), if_pos (by omega), if_pos (by omega), hb, hg]
        simp only [Option.bind_some]
        rw [if_neg (by rw [hz, hn]; exact Bool.false_ne_true.symm), wrap_up (by omega)]
  have := key s.size 0 (by omega)
  rwa [List.drop_zero] at this
theorem space_idx (l : List UInt8) : decide (0 ≤ Lib.indexByte l 32) = l.any space1 := by
  rw [← Lib.contains_iff_indexByte]
  induction l with
  | nil => rfl
  | cons c l ih =>
    rw [List.contains_cons, List.any_cons, ih]
    congr 1
    rw [Bool.eq_iff_iff, beq_iff_eq, space1, beq_iff_eq]
    exact ⟨fun h => h ▸ rfl, fun h => (UInt8.toNat_inj.1 (h.trans rfl)).symm⟩
theorem contains_is (s : ByteArray) : strings_Contains.f s (⟨#[32]⟩ : ByteArray) = some (s.data.toList.any space1) := by
  rw [← space_idx]; rfl
theorem user_ev (s : ByteArray) (hs : s.size ≤ 1000000) : Ev (fun k => route_User.f k s) (userS s) := by
  unfold route_User.f userS
  simp only [long_is, contains_is, Option.bind_some]
  cases hl : longS s
  · simp only [Bool.false_eq_true, ↓reduceIte, Bool.false_and]
    exact Ev.now _
  · simp only [↓reduceIte, Bool.true_and]
    refine Ev.bind (clean_ev s hs) ?_
    cases hc : s.data.toList.all clean1
    · simp only [Bool.false_eq_true, ↓reduceIte, Bool.false_and]
      exact Ev.now _
    · simp only [↓reduceIte, Bool.true_and]
      exact Ev.now _
def oneS (t : Ten) (ahead : List Ten) : Bool := userS t.f0 && (nameS t.f1 && !ahead.any (isHost t.f1)) && (inR t.f6 1 8 && inR t.f7 1 8 && inR t.f8 0 1099511627776 && inR t.f9 0 1099511627776 && inR t.f2.f1 1 65535 && mayS t.f5)
theorem find_neg (l : List Ten) (host : ByteArray) : decide (findI l host < 0) = !l.any (isHost host) := by
  rw [findI]
  cases h : l.findIdx? (isHost host) with
  | none =>
    rw [List.findIdx?_eq_none_iff] at h
    rw [show l.any (isHost host) = false from List.any_eq_false.2 fun x hx => by rw [h x hx]; exact Bool.false_ne_true]; rfl
  | some i =>
    obtain ⟨hi, hx, _⟩ := List.findIdx?_eq_some_iff_getElem.1 h
    rw [show l.any (isHost host) = true from List.any_eq_true.2 ⟨l[i], List.getElem_mem _, hx⟩, Bool.not_true, decide_eq_false_iff_not]
    exact fun hh : (i : Int) < 0 => absurd hh (by omega)
theorem one_j0 (b : Bool) (t : Ten) (hr : okL t.f5) : Ev (fun k => conf_one.j0 k b t.f0 t.f1 t.f2.f0.f0 t.f2.f0.f1 t.f2.f0.f2 t.f2.f0.f3 t.f2.f1 t.f3 t.f4 t.f5 t.f6 t.f7 t.f8 t.f9) (b && (inR t.f6 1 8 && inR t.f7 1 8 && inR t.f8 0 1099511627776 && inR t.f9 0 1099511627776 && inR t.f2.f1 1 65535 && mayS t.f5)) := by
  have hst : ∀ k, conf_one.j0 (k + 1) b t.f0 t.f1 t.f2.f0.f0 t.f2.f0.f1 t.f2.f0.f2 t.f2.f0.f3 t.f2.f1 t.f3 t.f4 t.f5 t.f6 t.f7 t.f8 t.f9 = if (b && inR t.f6 1 8 && inR t.f7 1 8 && inR t.f8 0 1099511627776 && inR t.f9 0 1099511627776 && inR t.f2.f1 1 65535) = true then acl_May.f k t.f5 else some false := fun k => by
    simp only [conf_one.j0, in_is, sat_is, Option.bind_some]
    generalize acl_May.f k t.f5 = m
    generalize inR t.f6 1 8 = h1
    generalize inR t.f7 1 8 = h2
    generalize inR t.f8 0 1099511627776 = h3
    generalize inR t.f9 0 1099511627776 = h4
    generalize inR t.f2.f1 1 65535 = h5
    cases b <;> cases h1 <;> cases h2 <;> cases h3 <;> cases h4 <;> cases h5 <;> first | rfl | (cases m <;> rfl)
  cases h : (b && inR t.f6 1 8 && inR t.f7 1 8 && inR t.f8 0 1099511627776 && inR t.f9 0 1099511627776 && inR t.f2.f1 1 65535)
  · refine Ev.step (f := fun _ => some false) (fun k => ?_) ?_
    · rw [hst, h]; rfl
    · have e : (b && (inR t.f6 1 8 && inR t.f7 1 8 && inR t.f8 0 1099511627776 && inR t.f9 0 1099511627776 && inR t.f2.f1 1 65535 && mayS t.f5)) = false := by
        rw [← Bool.and_assoc, ← Bool.and_assoc, ← Bool.and_assoc, ← Bool.and_assoc, ← Bool.and_assoc, h, Bool.false_and]
      rw [e]; exact Ev.now _
  · refine Ev.step (f := fun k => acl_May.f k t.f5) (fun k => ?_) ?_
    · rw [hst, h]; rfl
    · have e : (b && (inR t.f6 1 8 && inR t.f7 1 8 && inR t.f8 0 1099511627776 && inR t.f9 0 1099511627776 && inR t.f2.f1 1 65535 && mayS t.f5)) = mayS t.f5 := by
        rw [← Bool.and_assoc, ← Bool.and_assoc, ← Bool.and_assoc, ← Bool.and_assoc, ← Bool.and_assoc, h, Bool.true_and]
      rw [e]; exact may_ev t.f5 hr
/-- Is a tenant small? -/
def okTen (t : Ten) : Prop := t.f0.size ≤ 1000000 ∧ t.f1.size ≤ 1000000 ∧ okL t.f5
theorem one_ev (t : Ten) (ahead : List Ten) (ht : okTen t) (ha : ahead.length ≤ 1000000) : Ev (fun k => conf_one.f k t.f0 t.f1 t.f2.f0.f0 t.f2.f0.f1 t.f2.f0.f2 t.f2.f0.f3 t.f2.f1 t.f3 t.f4 t.f5 t.f6 t.f7 t.f8 t.f9 ahead) (oneS t ahead) := by
  have hf : route_Find.f ahead t.f1 = some (findI ahead t.f1) := if_pos ha
  unfold conf_one.f oneS
  simp only [hf, Option.bind_some, find_neg]
  refine Ev.bind (user_ev t.f0 ht.1) ?_
  cases hu : userS t.f0
  · simp only [Bool.false_eq_true, ↓reduceIte, Bool.false_and]
    have := one_j0 false t ht.2.2
    rwa [Bool.false_and] at this
  · simp only [↓reduceIte, Bool.true_and]
    refine Ev.bind (name_ev t.f1 ht.2.1) ?_
    cases hn : nameS t.f1
    · simp only [Bool.false_eq_true, ↓reduceIte, Bool.false_and]
      have := one_j0 false t ht.2.2
      rwa [Bool.false_and] at this
    · simp only [↓reduceIte, Bool.true_and]
      exact one_j0 _ t ht.2.2
/-- Do the ports of two tenants meet? -/
def meets (t x : Ten) : Bool := decide (mx t.f3 x.f3 ≤ mn t.f4 x.f4)
def portsS (t : Ten) (ahead : List Ten) : Bool := !ahead.any (meets t) && (inR t.f3 1024 t.f4 && decide (t.f4 ≤ 65535))
theorem ports_ev (t : Ten) (ahead : List Ten) (ha : ahead.length ≤ 1000000) : Ev (fun k => conf_ports.f k t.f0 t.f1 t.f2.f0.f0 t.f2.f0.f1 t.f2.f0.f2 t.f2.f0.f3 t.f2.f1 t.f3 t.f4 t.f5 t.f6 t.f7 t.f8 t.f9 ahead) (portsS t ahead) := by
  have key : ∀ d i : Nat, i + d = ahead.length → Ev (fun k => conf_ports.l0 k ahead (ahead.length : Int) (i : Int) t.f0 t.f1 t.f2.f0.f0 t.f2.f0.f1 t.f2.f0.f2 t.f2.f0.f3 t.f2.f1 t.f3 t.f4 t.f5 t.f6 t.f7 t.f8 t.f9) (!(ahead.drop i).any (meets t) && (inR t.f3 1024 t.f4 && decide (t.f4 ≤ 65535))) := by
    intro d
    induction d with
    | zero =>
      intro i hi
      refine Ev.step (f := fun _ => some (inR t.f3 1024 t.f4 && decide (t.f4 ≤ 65535))) (fun k => ?_) (by rw [List.drop_of_length_le (by omega), List.any_nil, Bool.not_false, Bool.true_and]; exact Ev.now _)
      simp only [conf_ports.l0]
      rw [if_neg (by omega), in_is]
      simp only [Option.bind_some]
      cases inR t.f3 1024 t.f4 <;> rfl
    | succ d ih =>
      intro i hi
      have hlt : i < ahead.length := by omega
      rw [List.drop_eq_getElem_cons hlt, List.any_cons]
      by_cases hm : mx t.f3 (ahead[i]).f3 ≤ mn t.f4 (ahead[i]).f4
      · refine Ev.step (f := fun _ => some false) (fun k => ?_) (by rw [meets, decide_eq_true hm, Bool.true_or, Bool.not_true, Bool.false_and]; exact Ev.now _)
        simp only [conf_ports.l0]
        rw [if_pos (by omega), if_pos (by omega), if_pos (by omega), rd_ten _ i hlt, if_pos hm]
      · rw [show meets t ahead[i] = false from decide_eq_false hm, Bool.false_or]
        refine Ev.step (fun k => ?_) (ih (i + 1) (by omega))
        simp only [conf_ports.l0]
        rw [if_pos (by omega), if_pos (by omega), if_pos (by omega), rd_ten _ i hlt, if_neg hm, wrap_up (by omega)]
  have := key ahead.length 0 (by omega)
  rwa [List.drop_zero] at this
/-- The first tenant that may not be, from number i on. -/
def scanS (l : List Ten) : Nat → Nat → Int × Int
  | 0, _ => (-1, 0)
  | d + 1, i => match l[i]? with
    | none => (-1, 0)
    | some t => if oneS t (l.take i) = true then (if portsS t (l.take i) = true then scanS l d (i + 1) else ((i : Int), 3)) else ((i : Int), 2)
def okHead (n : Nat) (pre life idle : Int) : Bool := inR pre 1 8 && inR life 1 1099511627776 && inR idle 1 1099511627776 && inR n 1 4
def whyS (l : List Ten) (pre life idle : Int) : Int × Int := if okHead l.length pre life idle = true then scanS l l.length 0 else (-1, 1)
def okAll (l : List Ten) : Prop := l.length ≤ 1000000 ∧ ∀ t ∈ l, okTen t
def fine (l : List Ten) (i : Nat) : Prop := ∀ t, l[i]? = some t → oneS t (l.take i) = true ∧ portsS t (l.take i) = true
theorem scan_skip (l : List Ten) : ∀ d i : Nat, ∀ n, n ≤ d → (∀ j, i ≤ j → j < i + n → j < l.length ∧ fine l j) → scanS l d i = scanS l (d - n) (i + n)
  | d, i, 0, _, _ => rfl
  | 0, i, n + 1, h, _ => by omega
  | d + 1, i, n + 1, hn, h => by
    obtain ⟨hi, hf⟩ := h i (Nat.le_refl _) (by omega)
    have e := List.getElem?_eq_getElem hi
    obtain ⟨h1, h2⟩ := hf _ e
    rw [scanS, e]
    simp only [h1, h2, ↓reduceIte]
    rw [scan_skip l d (i + 1) n (by omega) (fun j hj hj2 => h j (by omega) (by omega)), Nat.add_sub_add_right, Nat.add_right_comm, Nat.add_assoc]
theorem scan_none (l : List Ten) (h : ∀ j, j < l.length → fine l j) : scanS l l.length 0 = (-1, 0) := by
  rw [scan_skip l l.length 0 l.length (Nat.le_refl _) (fun j _ hj => ⟨by omega, h j (by omega)⟩), Nat.sub_self]; rfl
theorem scan_two (l : List Ten) (i : Nat) (hi : i < l.length) (h : ∀ j, j < i → fine l j) (h1 : oneS l[i] (l.take i) = false) : scanS l l.length 0 = ((i : Int), 2) := by
  obtain ⟨d, hd⟩ : ∃ d, l.length - i = d + 1 := ⟨l.length - i - 1, by omega⟩
  rw [scan_skip l l.length 0 i (by omega) (fun j _ hj => ⟨by omega, h j (by omega)⟩), hd, Nat.zero_add, scanS, List.getElem?_eq_getElem hi]
  simp [h1]
theorem scan_three (l : List Ten) (i : Nat) (hi : i < l.length) (h : ∀ j, j < i → fine l j) (h1 : oneS l[i] (l.take i) = true) (h2 : portsS l[i] (l.take i) = false) : scanS l l.length 0 = ((i : Int), 3) := by
  obtain ⟨d, hd⟩ : ∃ d, l.length - i = d + 1 := ⟨l.length - i - 1, by omega⟩
  rw [scan_skip l l.length 0 i (by omega) (fun j _ hj => ⟨by omega, h j (by omega)⟩), hd, Nat.zero_add, scanS, List.getElem?_eq_getElem hi]
  simp [h1, h2]
theorem fine_of {l : List Ten} {i : Nat} (hi : i < l.length) (h1 : oneS l[i] (l.take i) = true) (h2 : portsS l[i] (l.take i) = true) : fine l i := by
  intro t ht
  rw [List.getElem?_eq_getElem hi] at ht
  cases ht
  exact ⟨h1, h2⟩
/-- What a scan finds. -/
theorem scan_goes (l : List Ten) : (scanS l l.length 0 = (-1, 0) ∧ ∀ j, j < l.length → fine l j) ∨ (∃ i, ∃ h : i < l.length, scanS l l.length 0 = ((i : Int), 2) ∧ (∀ j, j < i → fine l j) ∧ oneS l[i] (l.take i) = false) ∨
    ∃ i, ∃ h : i < l.length, scanS l l.length 0 = ((i : Int), 3) ∧ (∀ j, j < i → fine l j) ∧ oneS l[i] (l.take i) = true ∧ portsS l[i] (l.take i) = false := by
  have key : ∀ n, n ≤ l.length → (∀ j, j < n → fine l j) ∨ ∃ i, i < n ∧ (∀ j, j < i → fine l j) ∧ ¬ fine l i := by
    intro n
    induction n with
    | zero => exact fun _ => .inl (fun j hj => by omega)
    | succ n ih =>
      intro hn
      rcases ih (by omega) with h | ⟨i, hi, h⟩
      · by_cases hf : fine l n
        · exact .inl (fun j hj => by
            rcases Nat.lt_or_ge j n with h' | h'
            · exact h j h'
            · obtain rfl : j = n := by omega
              exact hf)
        · exact .inr ⟨n, by omega, h, hf⟩
      · exact .inr ⟨i, by omega, h⟩
  rcases key l.length (Nat.le_refl _) with h | ⟨i, hi, h, hf⟩
  · exact .inl ⟨scan_none l h, h⟩
  · cases h1 : oneS l[i] (l.take i)
    · exact .inr (.inl ⟨i, hi, scan_two l i hi h h1, h, h1⟩)
    · cases h2 : portsS l[i] (l.take i)
      · exact .inr (.inr ⟨i, hi, scan_three l i hi h h1 h2, h, h1, h2⟩)
      · exact absurd (fine_of hi h1 h2) hf
end Go.Proofs.YtajaedebndeajaaDoor.Pure

namespace Go.Proofs.YtajaedebndeajaaDoor.Conf
open Go Go.RowKit Go.Proofs.YtajaedebndeajaaDoor.Q Go.Proofs.YtajaedebndeajaaDoor.Pure Go.Proofs.YtajaedebndeajaaDoor.AclMet Go.Proofs.YtajaedebndeajaaDoorW.PrintWords Go.Proofs.YtajaedebndeajaaDoorW.PrintLast Go.Proofs.YtajaedebndeajaaDoorW.PrintMore
set_option linter.unusedVariables false
set_option linter.unusedSimpArgs false

/-- How an error comes back: none, or a *bad of a tenant's number and one of the three. -/
inductive Bad (w : World) (a1 a2 a3 : Addr) : Int × Int → Value → Prop
  | nil : Bad w a1 a2 a3 (-1, 0) .nilIface
  | one (pb : Nat) (i : Int) : w.heap[pb]? = some (.cells #[.int .i64 i, .iface 120 (.pointer (some a1))] 50 (0, 0)) → Bad w a1 a2 a3 (i, 1) (.iface 45 (.pointer (some ⟨pb, 0, none⟩)))
  | two (pb : Nat) (i : Int) : w.heap[pb]? = some (.cells #[.int .i64 i, .iface 120 (.pointer (some a2))] 50 (0, 0)) → Bad w a1 a2 a3 (i, 2) (.iface 45 (.pointer (some ⟨pb, 0, none⟩)))
  | three (pb : Nat) (i : Int) : w.heap[pb]? = some (.cells #[.int .i64 i, .iface 120 (.pointer (some a3))] 50 (0, 0)) → Bad w a1 a2 a3 (i, 3) (.iface 45 (.pointer (some ⟨pb, 0, none⟩)))
theorem Bad.below {w w' : World} {a1 a2 a3 : Addr} {n : Int × Int} {e : Value} (h : Bad w a1 a2 a3 n e) (hb : Below w.heap.size w w') : Bad w' a1 a2 a3 n e := by
  cases h with
  | nil => exact .nil
  | one pb i hk => exact .one pb i (blk_below hk hb)
  | two pb i hk => exact .two pb i (blk_below hk hb)
  | three pb i hk => exact .three pb i (blk_below hk hb)

theorem blk_new_at (w : World) (o : Obj) {n : Nat} (h : n = w.heap.size) : (w.alloc o).heap[n]? = some o := h ▸ blk_new w o
theorem in_calls (n lo hi : Int) (w : World) : Calls Tryd.prog 22 #[.int .i64 n, .int .i64 lo, .int .i64 hi] w fun e w' => e = .returned (.bool (inR n lo hi)) ∧ w' = w := by
  by_cases h0 : lo ≤ n
  · have h0' := decide_eq_true h0
    rw [inR, h0', Bool.true_and]
    clear h0
    go_enter Tryd.func22, Tryd.ntmps22
    go_wp2
    go_ret
    exact ⟨rfl, rfl⟩
  · have h0' := decide_eq_false h0
    rw [inR, h0', Bool.false_and]
    clear h0
    go_enter Tryd.func22, Tryd.ntmps22
    go_wp2
    go_ret
    exact ⟨rfl, rfl⟩

theorem one_calls (t : Ten) (l : List Ten) (k : Nat) (hk : k ≤ l.length) (A A9 : Option Addr) (cap c9 : Nat) (W : World) (hr : Kd.C k40 W A l.length l) (hcap : l.length ≤ cap) (hr9 : Kd.C k44 W A9 t.f5.length t.f5) (hc9 : t.f5.length ≤ c9) (hmet : WMet W) (ht : okTen t) (hl6 : l.length ≤ 1000000) :
    Calls Tryd.prog 23 #[.agg #[.string t.f0, .string t.f1, .int .u8 t.f2.f0.f0, .int .u8 t.f2.f0.f1, .int .u8 t.f2.f0.f2, .int .u8 t.f2.f0.f3, .int .i64 t.f2.f1, .int .i64 t.f3, .int .i64 t.f4, .slice A9 t.f5.length c9, .int .i64 t.f6, .int .i64 t.f7, .int .i64 t.f8, .int .i64 t.f9], .slice A k cap] W fun e w' => e = .returned (.bool (oneS t (l.take k))) ∧ Below W.heap.size W w' := by
  have e : (l.take k).length = k := by rw [List.length_take]; omega
  obtain ⟨n, hn⟩ := (one_ev t (l.take k) ht (by omega)).rounds
  have := conf_one.calls n t.f0 t.f1 t.f2.f0.f0 t.f2.f0.f1 t.f2.f0.f2 t.f2.f0.f3 t.f2.f1 t.f3 t.f4 A9 c9 t.f5 t.f6 t.f7 t.f8 t.f9 A cap (l.take k) _ W hr9 hc9 (Kd.C_take hr hk) (by omega) hmet hn
  rwa [e] at this
theorem ports_calls (t : Ten) (l : List Ten) (k : Nat) (hk : k ≤ l.length) (A A9 : Option Addr) (cap c9 : Nat) (W : World) (hr : Kd.C k40 W A l.length l) (hcap : l.length ≤ cap) (hr9 : Kd.C k44 W A9 t.f5.length t.f5) (hc9 : t.f5.length ≤ c9) (hl6 : l.length ≤ 1000000) :
    Calls Tryd.prog 24 #[.agg #[.string t.f0, .string t.f1, .int .u8 t.f2.f0.f0, .int .u8 t.f2.f0.f1, .int .u8 t.f2.f0.f2, .int .u8 t.f2.f0.f3, .int .i64 t.f2.f1, .int .i64 t.f3, .int .i64 t.f4, .slice A9 t.f5.length c9, .int .i64 t.f6, .int .i64 t.f7, .int .i64 t.f8, .int .i64 t.f9], .slice A k cap] W fun e w' => e = .returned (.bool (portsS t (l.take k))) ∧ Below W.heap.size W w' := by
  have e : (l.take k).length = k := by rw [List.length_take]; omega
  obtain ⟨n, hn⟩ := (ports_ev t (l.take k) (by omega)).rounds
  have := conf_ports.calls n t.f0 t.f1 t.f2.f0.f0 t.f2.f0.f1 t.f2.f0.f2 t.f2.f0.f3 t.f2.f1 t.f3 t.f4 A9 c9 t.f5 t.f6 t.f7 t.f8 t.f9 A cap (l.take k) _ W hr9 hc9 (Kd.C_take hr hk) (by omega) hn
  rwa [e] at this
set_option maxHeartbeats 4000000 in
set_option maxRecDepth 100000 in
theorem Check_head (o0 o1 o2 o3 : Int) (A : Option Addr) (cap : Nat) (l : List Ten) (pre life idle : Int) (lf : Bool) (w : World) (a1 a2 a3 : Addr) (hx : Ex w a1 a2 a3) (hn : okHead l.length pre life idle = false) :
    Calls Tryd.prog 15 #[.agg #[.int .u8 o0, .int .u8 o1, .int .u8 o2, .int .u8 o3, .slice A l.length cap, .int .i64 pre, .int .i64 life, .int .i64 idle, .bool lf]] w fun e w' => ∃ x, e = .returned x ∧ Bad w' a1 a2 a3 (-1, 1) x ∧ Below w.heap.size w w' := by
  have HB := Aside0.mk (fun o => (Below.refl w.heap.size w).alloc (Nat.le_refl _) o)
  have HX := Aside0.mk hx
  have hg : ∀ o, (w.alloc o).cell? ⟨0, 0, none⟩ = some (.iface 120 (.pointer (some a1))) := fun o => ((HB.out o).cell (World.block_lt_of_cell? w _ hx.conf)).trans hx.conf
  rw [okHead] at hn
  clear hx
  obtain ⟨b1, e1⟩ : ∃ b1, b1 = inR pre 1 8 := ⟨_, rfl⟩
  obtain ⟨b2, e2⟩ : ∃ b2, b2 = inR life 1 1099511627776 := ⟨_, rfl⟩
  obtain ⟨b3, e3⟩ : ∃ b3, b3 = inR idle 1 1099511627776 := ⟨_, rfl⟩
  obtain ⟨b4, e4⟩ : ∃ b4, b4 = inR l.length 1 4 := ⟨_, rfl⟩
  rw [← e1, ← e2, ← e3, ← e4] at hn
  have H1 := Aside0.mk e1.symm
  have H2 := Aside0.mk e2.symm
  have H3 := Aside0.mk e3.symm
  have H4 := Aside0.mk e4.symm
  clear e1 e2 e3 e4
  have hc : b1 = false ∨ (b1 = true ∧ b2 = false) ∨ (b1 = true ∧ b2 = true ∧ b3 = false) ∨ (b1 = true ∧ b2 = true ∧ b3 = true ∧ b4 = false) := by
    cases b1 <;> cases b2 <;> cases b3 <;> cases b4 <;> simp_all
  clear hn
  rcases hc with rfl | ⟨rfl, rfl⟩ | ⟨rfl, rfl, rfl⟩ | ⟨rfl, rfl, rfl, rfl⟩
  all_goals
    go_enter Tryd.func15, Tryd.ntmps15
    go_wp2_with (go_at_call 22; refine (in_calls _ _ _ _).mono ?_; rintro e w1 ⟨rfl, hw⟩; obtain rfl := hw.symm; first | rw [H1.out] | rw [H2.out] | rw [H3.out] | rw [H4.out])
    go_ret
    exact ⟨_, rfl, .one _ (-1) (blk_new_at _ _ (by simp)), (HB.out _).alloc (by simp) _⟩
set_option maxHeartbeats 4000000 in
set_option maxRecDepth 100000 in
theorem Check_rest (o0 o1 o2 o3 : Int) (A : Option Addr) (cap : Nat) (l : List Ten) (pre life idle : Int) (lf : Bool) (w : World) (a1 a2 a3 : Addr) (hr : Kd.C k40 w A l.length l) (hcap : l.length ≤ cap) (hmet : WMet w) (hl : okAll l) (hx : Ex w a1 a2 a3) (hn : okHead l.length pre life idle = true) :
    Calls Tryd.prog 15 #[.agg #[.int .u8 o0, .int .u8 o1, .int .u8 o2, .int .u8 o3, .slice A l.length cap, .int .i64 pre, .int .i64 life, .int .i64 idle, .bool lf]] w fun e w' => ∃ x, e = .returned x ∧ Bad w' a1 a2 a3 (scanS l l.length 0) x ∧ Below w.heap.size w w' := by
  have HX := Aside0.mk hx
  have HR := Aside0.mk hr
  have HM := Aside0.mk hmet
  have HL := Aside0.mk hl.2
  have hl6 := hl.1
  have H1 : Aside0 (inR pre 1 8 = true) := ⟨by rw [okHead] at hn; simp_all⟩
  have H2 : Aside0 (inR life 1 1099511627776 = true) := ⟨by rw [okHead] at hn; simp_all⟩
  have H3 : Aside0 (inR idle 1 1099511627776 = true) := ⟨by rw [okHead] at hn; simp_all⟩
  have H4 : Aside0 (inR l.length 1 4 = true) := ⟨by rw [okHead] at hn; simp_all⟩
  clear hx hr hmet hl hn
  go_enter Tryd.func15, Tryd.ntmps15
  go_wp2_with (go_at_call 22; refine (in_calls _ _ _ _).mono ?_; rintro e w1 ⟨rfl, hw⟩; obtain rfl := hw.symm; first | rw [H1.out] | rw [H2.out] | rw [H3.out] | rw [H4.out])
  go_loopw [36] (fun i wr => ∃ k : Nat, k ≤ l.length ∧ i = .int .i64 k ∧ Aside0 (∀ j, j < k → fine l j) ∧ Aside0 (wr.heap[w.heap.size]? = some (.cells #[.int .u8 o0, .int .u8 o1, .int .u8 o2, .int .u8 o3, .slice A l.length cap, .int .i64 pre, .int .i64 life, .int .i64 idle, .bool lf] 26 (0, 0))) ∧ Aside0 (Below w.heap.size w wr)) (fun i _ => l.length - (intOf i).toNat)
  case atStart => exact ⟨0, Nat.zero_le _, rfl, ⟨fun j hj => by omega⟩, ⟨blk_new _ _⟩, ⟨(Below.refl _ _).alloc (Nat.le_refl _) _⟩⟩
  case round =>
    obtain ⟨k, hk, rfl, HN, HC, HB⟩ := hrel
    by_cases hlt : k < l.length
    · have hC := Kd.C_below HR.out HB.out
      obtain ⟨ad, A9, c9, e, x0, x1, x2, x3, x4, x5, x6, x7, x8, x9, x10, x11, x12, x13, hl9, hr9⟩ := at_T40 hC (k : Int) (by omega) (by omega)
      have hv : rd_T40 l (k : Int) = l[k] := rd_ten l k hlt
      obtain ⟨x, hx⟩ : ∃ x, x = rd_T40 l (k : Int) := ⟨_, rfl⟩
      rw [← hx] at x0 x1 x2 x3 x4 x5 x6 x7 x8 x9 x10 x11 x12 x13 hv hl9 hr9
      subst e
      simp only [Int.toNat_natCast] at x0 x1 x2 x3 x4 x5 x6 x7 x8 x9 x10 x11 x12 x13
      have HV := Aside0.mk hv
      have H9 := Aside0.mk hr9
      have L9 := Aside0.mk hl9
      have HO : Aside0 (okTen x) := ⟨by rw [hv]; exact HL.out _ (List.getElem_mem _)⟩
      have HSZ := Aside0.mk HB.out.size
      have hd := fun o => blk_cell (blk_alloc HC.out o) 4
      have hd4 : ∀ o, (wr.alloc o).cell? ⟨w.heap.size, 4, none⟩ = some (.slice (some ad) l.length cap) := fun o => (hd o).trans rfl
      clear hC hx hv hr9 hl9 hd
      obtain ⟨bo, ho⟩ : ∃ bo, bo = oneS x (l.take k) := ⟨_, rfl⟩
      obtain ⟨bp, hp⟩ : ∃ bp, bp = portsS x (l.take k) := ⟨_, rfl⟩
      have EO := Aside0.mk ho.symm
      have EP := Aside0.mk hp.symm
      clear ho hp
      cases bo
      · go_wp2_with (go_at_call 23; with_reducible refine (one_calls x l k hk (some ad) A9 cap c9 _ (Kd.C_alloc (Kd.C_below HR.out HB.out) _) hcap (Kd.C_alloc H9.out _) L9.out (HM.out.below (HB.out.alloc HSZ.out _)) HO.out hl6).mono ?_; rintro e w1 ⟨rfl, hb⟩; have HE := Aside0.mk hb; clear hb; rw [EO.out]; have HF := Aside0.mk ((HB.out.alloc HSZ.out _).trans (HE.out.mono (HB.out.alloc HSZ.out _).size)); have hg2 : w1.cell? ⟨1, 0, none⟩ = some (.iface 120 (.pointer (some a2))) := (HX.out.below HF.out).tenant)
        try rw [Exit.noGoto_ret]
        go_ret
        exact ⟨_, rfl, by rw [scan_two l k hlt HN.out (by rw [← HV.out]; exact EO.out)]; exact .two _ _ (blk_new _ _), HF.out.alloc HF.out.size _⟩
      · cases bp
        · go_wp2_with (first | (go_at_call 23; with_reducible refine (one_calls x l k hk (some ad) A9 cap c9 _ (Kd.C_alloc (Kd.C_below HR.out HB.out) _) hcap (Kd.C_alloc H9.out _) L9.out (HM.out.below (HB.out.alloc HSZ.out _)) HO.out hl6).mono ?_; rintro e w1 ⟨rfl, hb⟩; have HE := Aside0.mk hb; clear hb; rw [EO.out]; have HF := Aside0.mk ((HB.out.alloc HSZ.out _).trans (HE.out.mono (HB.out.alloc HSZ.out _).size)); obtain ⟨q0, q1, q2, q3, q4, q5, q6, q7, q8, q9, q10, q11, q12, q13⟩ := cl_14 (.string x.f0) (.string x.f1) (.int .u8 x.f2.f0.f0) (.int .u8 x.f2.f0.f1) (.int .u8 x.f2.f0.f2) (.int .u8 x.f2.f0.f3) (.int .i64 x.f2.f1) (.int .i64 x.f3) (.int .i64 x.f4) (.slice A9 x.f5.length c9) (.int .i64 x.f6) (.int .i64 x.f7) (.int .i64 x.f8) (.int .i64 x.f9) (blk_below (blk_new wr _) HE.out)) | (go_at_call 24; with_reducible refine (ports_calls x l k hk (some ad) A9 cap c9 _ (Kd.C_below (Kd.C_alloc (Kd.C_below HR.out HB.out) _) HE.out) hcap (Kd.C_below (Kd.C_alloc H9.out _) HE.out) L9.out hl6).mono ?_; rintro e w2 ⟨rfl, hb⟩; have HG := Aside0.mk (HF.out.trans (hb.mono HF.out.size)); have HI := Aside0.mk hb; clear hb; rw [EP.out]; have hg3 : w2.cell? ⟨2, 0, none⟩ = some (.iface 120 (.pointer (some a3))) := (HX.out.below HG.out).ports))
          try rw [Exit.noGoto_ret]
          go_ret
          exact ⟨_, rfl, by rw [scan_three l k hlt HN.out (by rw [← HV.out]; exact EO.out) (by rw [← HV.out]; exact EP.out)]; exact .three _ _ (blk_new _ _), HG.out.alloc HG.out.size _⟩
        · go_wp2_with (first | (go_at_call 23; with_reducible refine (one_calls x l k hk (some ad) A9 cap c9 _ (Kd.C_alloc (Kd.C_below HR.out HB.out) _) hcap (Kd.C_alloc H9.out _) L9.out (HM.out.below (HB.out.alloc HSZ.out _)) HO.out hl6).mono ?_; rintro e w1 ⟨rfl, hb⟩; have HE := Aside0.mk hb; clear hb; rw [EO.out]; have HF := Aside0.mk ((HB.out.alloc HSZ.out _).trans (HE.out.mono (HB.out.alloc HSZ.out _).size)); obtain ⟨q0, q1, q2, q3, q4, q5, q6, q7, q8, q9, q10, q11, q12, q13⟩ := cl_14 (.string x.f0) (.string x.f1) (.int .u8 x.f2.f0.f0) (.int .u8 x.f2.f0.f1) (.int .u8 x.f2.f0.f2) (.int .u8 x.f2.f0.f3) (.int .i64 x.f2.f1) (.int .i64 x.f3) (.int .i64 x.f4) (.slice A9 x.f5.length c9) (.int .i64 x.f6) (.int .i64 x.f7) (.int .i64 x.f8) (.int .i64 x.f9) (blk_below (blk_new wr _) HE.out)) | (go_at_call 24; with_reducible refine (ports_calls x l k hk (some ad) A9 cap c9 _ (Kd.C_below (Kd.C_alloc (Kd.C_below HR.out HB.out) _) HE.out) hcap (Kd.C_below (Kd.C_alloc H9.out _) HE.out) L9.out hl6).mono ?_; rintro e w2 ⟨rfl, hb⟩; have HG := Aside0.mk (HF.out.trans (hb.mono HF.out.size)); have HI := Aside0.mk hb; clear hb; rw [EP.out]))
          go_roundw
          case rel => exact ⟨k + 1, by omega, by go_num, ⟨fun j hj => by
            rcases Nat.lt_or_ge j k with h | h
            · exact HN.out j h
            · obtain rfl : j = k := by omega
              exact fine_of hlt (by rw [← HV.out]; exact EO.out) (by rw [← HV.out]; exact EP.out)⟩, ⟨blk_below (blk_below (blk_alloc HC.out _) HE.out) HI.out⟩, ⟨HG.out⟩⟩
          case measure => simp [intOf]; omega
    · obtain rfl : k = l.length := by omega
      have HNN := Aside0.mk (scan_none l HN.out)
      go_wp2
      try rw [Exit.noGoto_ret]
      go_ret
      exact ⟨_, rfl, by rw [HNN.out]; exact .nil, HB.out⟩
end Go.Proofs.YtajaedebndeajaaDoor.Conf

namespace Go.Proofs.YtajaedebndeajaaDoor.Conf
open Go Go.RowKit Go.Proofs.YtajaedebndeajaaDoor.Q Go.Proofs.YtajaedebndeajaaDoor.Pure Go.Proofs.YtajaedebndeajaaDoor.AclMet Go.Proofs.YtajaedebndeajaaDoorW.PrintWords Go.Proofs.YtajaedebndeajaaDoorW.PrintLast Go.Proofs.YtajaedebndeajaaDoorW.PrintMore
set_option linter.unusedVariables false
set_option linter.unusedSimpArgs false

theorem Check_calls (o0 o1 o2 o3 : Int) (A : Option Addr) (cap : Nat) (l : List Ten) (pre life idle : Int) (lf : Bool) (w : World) (a1 a2 a3 : Addr) (hr : Kd.C k40 w A l.length l) (hcap : l.length ≤ cap) (hmet : WMet w) (hl : okAll l) (hx : Ex w a1 a2 a3) :
    Calls Tryd.prog 15 #[.agg #[.int .u8 o0, .int .u8 o1, .int .u8 o2, .int .u8 o3, .slice A l.length cap, .int .i64 pre, .int .i64 life, .int .i64 idle, .bool lf]] w fun e w' => ∃ x, e = .returned x ∧ Bad w' a1 a2 a3 (whyS l pre life idle) x ∧ Below w.heap.size w w' := by
  cases hn : okHead l.length pre life idle
  · rw [whyS, hn]
    exact Check_head o0 o1 o2 o3 A cap l pre life idle lf w a1 a2 a3 hx hn
  · rw [whyS, hn]
    exact Check_rest o0 o1 o2 o3 A cap l pre life idle lf w a1 a2 a3 hr hcap hmet hl hx hn

/-- errors.As at a *bad, by what it leaves. -/
theorem as_calls (e t : Addr) (w : World) (hg : w.cell? ⟨3, 0, none⟩ = some (.iface 72 (.agg #[.pointer (some ⟨7, 32, none⟩)]))) (ht : w.heap[t.block]? = some (.cells #[.pointer none] 45 (0, 0))) (ht0 : t.off = 0) (htp : t.spot = none) :
    Calls Tryd.prog 18 #[.iface 45 (.pointer (some e)), .iface 47 (.pointer (some t))] w fun ev w' => ev = .returned (.bool true) ∧ w'.heap[t.block]? = some (.cells #[.pointer (some e)] 45 (0, 0)) ∧ ∀ B, B ≤ t.block → Below B w w' := by
  obtain ⟨b, o, pt⟩ := t
  simp only at ht0 htp ht
  subst ht0 htp
  refine (Err.as_hit e ⟨b, 0, none⟩ (.pointer none) w hg ((blk_cell ht 0).trans rfl) (blk_frozen ht 0)).mono ?_
  rintro ev w' ⟨hev, rfl⟩
  refine ⟨hev, ?_, fun B hB => ?_⟩
  · exact blk_put (blk_alloc (blk_alloc (blk_alloc (blk_alloc ht _) _) _) _) 0 _ rfl
  · have hs := blk_lt ht
    replace hB : B ≤ b := hB
    replace hs : b < w.heap.size := hs
    exact ((((((Below.refl B w).alloc (by omega) _).alloc (by simp; omega) _).alloc (by simp; omega) _).alloc (by simp; omega) _)).setCell hB _
theorem isIfaceE : Tryd.prog.isIface 32 = true := by kernel_rfl

set_option maxHeartbeats 4000000 in
set_option maxRecDepth 100000 in
theorem Why_of (o0 o1 o2 o3 : Int) (A : Option Addr) (len cap : Nat) (pre life idle : Int) (lf : Bool) (n : Int × Int) (w : World) (a1 a2 a3 : Addr) (hx : Ex w a1 a2 a3) (hcall : ∀ W, Below w.heap.size w W → Calls Tryd.prog 15 #[.agg #[.int .u8 o0, .int .u8 o1, .int .u8 o2, .int .u8 o3, .slice A len cap, .int .i64 pre, .int .i64 life, .int .i64 idle, .bool lf]] W fun e w' => ∃ x, e = .returned x ∧ Bad w' a1 a2 a3 n x ∧ Below W.heap.size W w') :
    Calls Tryd.prog 11 #[.agg #[.int .u8 o0, .int .u8 o1, .int .u8 o2, .int .u8 o3, .slice A len cap, .int .i64 pre, .int .i64 life, .int .i64 idle, .bool lf]] w fun e w' => e = .returned (.tuple #[.int .i64 n.1, .int .i64 n.2]) ∧ Below w.heap.size w w' := by
  have HX := Aside0.mk hx
  have hif := isIfaceE
  have HA := Aside0.mk (fun o => (Below.refl w.heap.size w).alloc (Nat.le_refl _) o)
  clear hx
  go_enter Tryd.func11, Tryd.ntmps11
  go_wp2_with (go_at_call 15; refine (hcall _ (HA.out _)).mono ?_; rintro e w1 ⟨x, rfl, hbad, hb⟩; have HB := Aside0.mk ((HA.out _).trans (hb.mono (HA.out _).size)); have HK := Aside0.mk hbad; clear hb hbad hcall)
  rcases HK.out with _ | ⟨pb, i, hk⟩ | ⟨pb, i, hk⟩ | ⟨pb, i, hk⟩
  · clear HK
    go_wp2_with (go_at_call 18; refine (Err.as_nil _ _).mono ?_; rintro e w2 ⟨rfl, hw⟩; obtain rfl := hw.symm)
    go_ret2
    exact ⟨rfl, HB.out.alloc HB.out.size _⟩
  · clear HK
    have HK := Aside0.mk hk
    clear hk
    have i0 : ∀ W, (Instr.index 48 (.agg #[.iface 120 (.pointer (some a1)), .iface 120 (.pointer (some a2)), .iface 120 (.pointer (some a3))]) (.int .i64 0)).run Tryd.prog W = .ok (.iface 120 (.pointer (some a1))) W := fun W => rfl
    have i1 : ∀ W, (Instr.index 48 (.agg #[.iface 120 (.pointer (some a1)), .iface 120 (.pointer (some a2)), .iface 120 (.pointer (some a3))]) (.int .i64 1)).run Tryd.prog W = .ok (.iface 120 (.pointer (some a2))) W := fun W => rfl
    have i2 : ∀ W, (Instr.index 48 (.agg #[.iface 120 (.pointer (some a1)), .iface 120 (.pointer (some a2)), .iface 120 (.pointer (some a3))]) (.int .i64 2)).run Tryd.prog W = .ok (.iface 120 (.pointer (some a3))) W := fun W => rfl
    go_wp2_with (first
      | (go_at_call 18
         refine (as_calls ⟨pb, 0, none⟩ ⟨w1.heap.size, 0, none⟩ _ ((HX.out.below (HB.out.alloc HB.out.size _)).type) (blk_new w1 _) rfl rfl).mono ?_
         rintro e w2 ⟨rfl, ht, hb⟩
         have HT := Aside0.mk ht
         have HC := Aside0.mk (((Below.refl w1.heap.size w1).alloc (Nat.le_refl _) _).trans (hb _ (Nat.le_refl _)))
         have HD := Aside0.mk (HB.out.trans (HC.out.mono HB.out.size))
         clear hb ht
         have hl1 := (blk_cell HT.out 0).trans rfl
         have hl2 := (blk_cell (blk_below HK.out HC.out) 0).trans rfl
         have hg1 := (HX.out.below HD.out).conf
         have hg2 := (HX.out.below HD.out).tenant
         have hg3 := (HX.out.below HD.out).ports)
      | (go_at_call 16; refine (Err.is_wrap_same pb 0 a1 _ ((blk_cell (blk_below HK.out HC.out) 1).trans rfl)).mono ?_; rintro e w3 ⟨rfl, hw⟩; obtain rfl := hw.symm))
    refine wp_loop_rounds 4 ?_
    rw [rounds_succ]
    go_wp2_with (first
      | (go_at_call 18
         refine (as_calls ⟨pb, 0, none⟩ ⟨w1.heap.size, 0, none⟩ _ ((HX.out.below (HB.out.alloc HB.out.size _)).type) (blk_new w1 _) rfl rfl).mono ?_
         rintro e w2 ⟨rfl, ht, hb⟩
         have HT := Aside0.mk ht
         have HC := Aside0.mk (((Below.refl w1.heap.size w1).alloc (Nat.le_refl _) _).trans (hb _ (Nat.le_refl _)))
         have HD := Aside0.mk (HB.out.trans (HC.out.mono HB.out.size))
         clear hb ht
         have hl1 := (blk_cell HT.out 0).trans rfl
         have hl2 := (blk_cell (blk_below HK.out HC.out) 0).trans rfl
         have hg1 := (HX.out.below HD.out).conf
         have hg2 := (HX.out.below HD.out).tenant
         have hg3 := (HX.out.below HD.out).ports)
      | (go_at_call 16; refine (Err.is_wrap_same pb 0 a1 _ ((blk_cell (blk_below HK.out HC.out) 1).trans rfl)).mono ?_; rintro e w3 ⟨rfl, hw⟩; obtain rfl := hw.symm))
    try rw [Exit.noGoto_ret]
    go_ret2
    exact ⟨rfl, HD.out⟩
  · clear HK
    have HK := Aside0.mk hk
    clear hk
    have i0 : ∀ W, (Instr.index 48 (.agg #[.iface 120 (.pointer (some a1)), .iface 120 (.pointer (some a2)), .iface 120 (.pointer (some a3))]) (.int .i64 0)).run Tryd.prog W = .ok (.iface 120 (.pointer (some a1))) W := fun W => rfl
    have i1 : ∀ W, (Instr.index 48 (.agg #[.iface 120 (.pointer (some a1)), .iface 120 (.pointer (some a2)), .iface 120 (.pointer (some a3))]) (.int .i64 1)).run Tryd.prog W = .ok (.iface 120 (.pointer (some a2))) W := fun W => rfl
    have i2 : ∀ W, (Instr.index 48 (.agg #[.iface 120 (.pointer (some a1)), .iface 120 (.pointer (some a2)), .iface 120 (.pointer (some a3))]) (.int .i64 2)).run Tryd.prog W = .ok (.iface 120 (.pointer (some a3))) W := fun W => rfl
    go_wp2_with (first
      | (go_at_call 18
         refine (as_calls ⟨pb, 0, none⟩ ⟨w1.heap.size, 0, none⟩ _ ((HX.out.below (HB.out.alloc HB.out.size _)).type) (blk_new w1 _) rfl rfl).mono ?_
         rintro e w2 ⟨rfl, ht, hb⟩
         have HT := Aside0.mk ht
         have HC := Aside0.mk (((Below.refl w1.heap.size w1).alloc (Nat.le_refl _) _).trans (hb _ (Nat.le_refl _)))
         have HD := Aside0.mk (HB.out.trans (HC.out.mono HB.out.size))
         clear hb ht
         have hl1 := (blk_cell HT.out 0).trans rfl
         have hl2 := (blk_cell (blk_below HK.out HC.out) 0).trans rfl
         have hg1 := (HX.out.below HD.out).conf
         have hg2 := (HX.out.below HD.out).tenant
         have hg3 := (HX.out.below HD.out).ports)
      | (go_at_call 16; obtain ⟨cn, tn, hbn⟩ := (HX.out.below HD.out).b2; obtain ⟨cm, tm, hbm⟩ := (HX.out.below HD.out).b1; with_reducible refine (Err.is_wrap_other pb 0 a1 a2 _ _ _ _ _ ((blk_cell (blk_below HK.out HC.out) 1).trans rfl) HX.out.n12.symm hbn hbm).mono ?_; rintro e w3 ⟨rfl, hw⟩; obtain rfl := hw.symm)
      | (go_at_call 16; refine (Err.is_wrap_same pb 0 a2 _ ((blk_cell (blk_below HK.out HC.out) 1).trans rfl)).mono ?_; rintro e w3 ⟨rfl, hw⟩; obtain rfl := hw.symm))
    refine wp_loop_rounds 4 ?_
    rw [rounds_succ]
    go_wp2_with (first
      | (go_at_call 18
         refine (as_calls ⟨pb, 0, none⟩ ⟨w1.heap.size, 0, none⟩ _ ((HX.out.below (HB.out.alloc HB.out.size _)).type) (blk_new w1 _) rfl rfl).mono ?_
         rintro e w2 ⟨rfl, ht, hb⟩
         have HT := Aside0.mk ht
         have HC := Aside0.mk (((Below.refl w1.heap.size w1).alloc (Nat.le_refl _) _).trans (hb _ (Nat.le_refl _)))
         have HD := Aside0.mk (HB.out.trans (HC.out.mono HB.out.size))
         clear hb ht
         have hl1 := (blk_cell HT.out 0).trans rfl
         have hl2 := (blk_cell (blk_below HK.out HC.out) 0).trans rfl
         have hg1 := (HX.out.below HD.out).conf
         have hg2 := (HX.out.below HD.out).tenant
         have hg3 := (HX.out.below HD.out).ports)
      | (go_at_call 16; obtain ⟨cn, tn, hbn⟩ := (HX.out.below HD.out).b2; obtain ⟨cm, tm, hbm⟩ := (HX.out.below HD.out).b1; with_reducible refine (Err.is_wrap_other pb 0 a1 a2 _ _ _ _ _ ((blk_cell (blk_below HK.out HC.out) 1).trans rfl) HX.out.n12.symm hbn hbm).mono ?_; rintro e w3 ⟨rfl, hw⟩; obtain rfl := hw.symm)
      | (go_at_call 16; refine (Err.is_wrap_same pb 0 a2 _ ((blk_cell (blk_below HK.out HC.out) 1).trans rfl)).mono ?_; rintro e w3 ⟨rfl, hw⟩; obtain rfl := hw.symm))
    rw [rounds_succ]
    go_wp2_with (first
      | (go_at_call 18
         refine (as_calls ⟨pb, 0, none⟩ ⟨w1.heap.size, 0, none⟩ _ ((HX.out.below (HB.out.alloc HB.out.size _)).type) (blk_new w1 _) rfl rfl).mono ?_
         rintro e w2 ⟨rfl, ht, hb⟩
         have HT := Aside0.mk ht
         have HC := Aside0.mk (((Below.refl w1.heap.size w1).alloc (Nat.le_refl _) _).trans (hb _ (Nat.le_refl _)))
         have HD := Aside0.mk (HB.out.trans (HC.out.mono HB.out.size))
         clear hb ht
         have hl1 := (blk_cell HT.out 0).trans rfl
         have hl2 := (blk_cell (blk_below HK.out HC.out) 0).trans rfl
         have hg1 := (HX.out.below HD.out).conf
         have hg2 := (HX.out.below HD.out).tenant
         have hg3 := (HX.out.below HD.out).ports)
      | (go_at_call 16; obtain ⟨cn, tn, hbn⟩ := (HX.out.below HD.out).b2; obtain ⟨cm, tm, hbm⟩ := (HX.out.below HD.out).b1; with_reducible refine (Err.is_wrap_other pb 0 a1 a2 _ _ _ _ _ ((blk_cell (blk_below HK.out HC.out) 1).trans rfl) HX.out.n12.symm hbn hbm).mono ?_; rintro e w3 ⟨rfl, hw⟩; obtain rfl := hw.symm)
      | (go_at_call 16; refine (Err.is_wrap_same pb 0 a2 _ ((blk_cell (blk_below HK.out HC.out) 1).trans rfl)).mono ?_; rintro e w3 ⟨rfl, hw⟩; obtain rfl := hw.symm))
    try rw [Exit.noGoto_ret]
    go_ret2
    exact ⟨rfl, HD.out⟩
  · clear HK
    have HK := Aside0.mk hk
    clear hk
    have i0 : ∀ W, (Instr.index 48 (.agg #[.iface 120 (.pointer (some a1)), .iface 120 (.pointer (some a2)), .iface 120 (.pointer (some a3))]) (.int .i64 0)).run Tryd.prog W = .ok (.iface 120 (.pointer (some a1))) W := fun W => rfl
    have i1 : ∀ W, (Instr.index 48 (.agg #[.iface 120 (.pointer (some a1)), .iface 120 (.pointer (some a2)), .iface 120 (.pointer (some a3))]) (.int .i64 1)).run Tryd.prog W = .ok (.iface 120 (.pointer (some a2))) W := fun W => rfl
    have i2 : ∀ W, (Instr.index 48 (.agg #[.iface 120 (.pointer (some a1)), .iface 120 (.pointer (some a2)), .iface 120 (.pointer (some a3))]) (.int .i64 2)).run Tryd.prog W = .ok (.iface 120 (.pointer (some a3))) W := fun W => rfl
    go_wp2_with (first
      | (go_at_call 18
         refine (as_calls ⟨pb, 0, none⟩ ⟨w1.heap.size, 0, none⟩ _ ((HX.out.below (HB.out.alloc HB.out.size _)).type) (blk_new w1 _) rfl rfl).mono ?_
         rintro e w2 ⟨rfl, ht, hb⟩
         have HT := Aside0.mk ht
         have HC := Aside0.mk (((Below.refl w1.heap.size w1).alloc (Nat.le_refl _) _).trans (hb _ (Nat.le_refl _)))
         have HD := Aside0.mk (HB.out.trans (HC.out.mono HB.out.size))
         clear hb ht
         have hl1 := (blk_cell HT.out 0).trans rfl
         have hl2 := (blk_cell (blk_below HK.out HC.out) 0).trans rfl
         have hg1 := (HX.out.below HD.out).conf
         have hg2 := (HX.out.below HD.out).tenant
         have hg3 := (HX.out.below HD.out).ports)
      | (go_at_call 16; obtain ⟨cn, tn, hbn⟩ := (HX.out.below HD.out).b3; obtain ⟨cm, tm, hbm⟩ := (HX.out.below HD.out).b1; with_reducible refine (Err.is_wrap_other pb 0 a1 a3 _ _ _ _ _ ((blk_cell (blk_below HK.out HC.out) 1).trans rfl) HX.out.n13.symm hbn hbm).mono ?_; rintro e w3 ⟨rfl, hw⟩; obtain rfl := hw.symm)
      | (go_at_call 16; obtain ⟨cn, tn, hbn⟩ := (HX.out.below HD.out).b3; obtain ⟨cm, tm, hbm⟩ := (HX.out.below HD.out).b2; with_reducible refine (Err.is_wrap_other pb 0 a2 a3 _ _ _ _ _ ((blk_cell (blk_below HK.out HC.out) 1).trans rfl) HX.out.n23.symm hbn hbm).mono ?_; rintro e w3 ⟨rfl, hw⟩; obtain rfl := hw.symm)
      | (go_at_call 16; refine (Err.is_wrap_same pb 0 a3 _ ((blk_cell (blk_below HK.out HC.out) 1).trans rfl)).mono ?_; rintro e w3 ⟨rfl, hw⟩; obtain rfl := hw.symm))
    refine wp_loop_rounds 4 ?_
    rw [rounds_succ]
    go_wp2_with (first
      | (go_at_call 18
         refine (as_calls ⟨pb, 0, none⟩ ⟨w1.heap.size, 0, none⟩ _ ((HX.out.below (HB.out.alloc HB.out.size _)).type) (blk_new w1 _) rfl rfl).mono ?_
         rintro e w2 ⟨rfl, ht, hb⟩
         have HT := Aside0.mk ht
         have HC := Aside0.mk (((Below.refl w1.heap.size w1).alloc (Nat.le_refl _) _).trans (hb _ (Nat.le_refl _)))
         have HD := Aside0.mk (HB.out.trans (HC.out.mono HB.out.size))
         clear hb ht
         have hl1 := (blk_cell HT.out 0).trans rfl
         have hl2 := (blk_cell (blk_below HK.out HC.out) 0).trans rfl
         have hg1 := (HX.out.below HD.out).conf
         have hg2 := (HX.out.below HD.out).tenant
         have hg3 := (HX.out.below HD.out).ports)
      | (go_at_call 16; obtain ⟨cn, tn, hbn⟩ := (HX.out.below HD.out).b3; obtain ⟨cm, tm, hbm⟩ := (HX.out.below HD.out).b1; with_reducible refine (Err.is_wrap_other pb 0 a1 a3 _ _ _ _ _ ((blk_cell (blk_below HK.out HC.out) 1).trans rfl) HX.out.n13.symm hbn hbm).mono ?_; rintro e w3 ⟨rfl, hw⟩; obtain rfl := hw.symm)
      | (go_at_call 16; obtain ⟨cn, tn, hbn⟩ := (HX.out.below HD.out).b3; obtain ⟨cm, tm, hbm⟩ := (HX.out.below HD.out).b2; with_reducible refine (Err.is_wrap_other pb 0 a2 a3 _ _ _ _ _ ((blk_cell (blk_below HK.out HC.out) 1).trans rfl) HX.out.n23.symm hbn hbm).mono ?_; rintro e w3 ⟨rfl, hw⟩; obtain rfl := hw.symm)
      | (go_at_call 16; refine (Err.is_wrap_same pb 0 a3 _ ((blk_cell (blk_below HK.out HC.out) 1).trans rfl)).mono ?_; rintro e w3 ⟨rfl, hw⟩; obtain rfl := hw.symm))
    rw [rounds_succ]
    go_wp2_with (first
      | (go_at_call 18
         refine (as_calls ⟨pb, 0, none⟩ ⟨w1.heap.size, 0, none⟩ _ ((HX.out.below (HB.out.alloc HB.out.size _)).type) (blk_new w1 _) rfl rfl).mono ?_
         rintro e w2 ⟨rfl, ht, hb⟩
         have HT := Aside0.mk ht
         have HC := Aside0.mk (((Below.refl w1.heap.size w1).alloc (Nat.le_refl _) _).trans (hb _ (Nat.le_refl _)))
         have HD := Aside0.mk (HB.out.trans (HC.out.mono HB.out.size))
         clear hb ht
         have hl1 := (blk_cell HT.out 0).trans rfl
         have hl2 := (blk_cell (blk_below HK.out HC.out) 0).trans rfl
         have hg1 := (HX.out.below HD.out).conf
         have hg2 := (HX.out.below HD.out).tenant
         have hg3 := (HX.out.below HD.out).ports)
      | (go_at_call 16; obtain ⟨cn, tn, hbn⟩ := (HX.out.below HD.out).b3; obtain ⟨cm, tm, hbm⟩ := (HX.out.below HD.out).b1; with_reducible refine (Err.is_wrap_other pb 0 a1 a3 _ _ _ _ _ ((blk_cell (blk_below HK.out HC.out) 1).trans rfl) HX.out.n13.symm hbn hbm).mono ?_; rintro e w3 ⟨rfl, hw⟩; obtain rfl := hw.symm)
      | (go_at_call 16; obtain ⟨cn, tn, hbn⟩ := (HX.out.below HD.out).b3; obtain ⟨cm, tm, hbm⟩ := (HX.out.below HD.out).b2; with_reducible refine (Err.is_wrap_other pb 0 a2 a3 _ _ _ _ _ ((blk_cell (blk_below HK.out HC.out) 1).trans rfl) HX.out.n23.symm hbn hbm).mono ?_; rintro e w3 ⟨rfl, hw⟩; obtain rfl := hw.symm)
      | (go_at_call 16; refine (Err.is_wrap_same pb 0 a3 _ ((blk_cell (blk_below HK.out HC.out) 1).trans rfl)).mono ?_; rintro e w3 ⟨rfl, hw⟩; obtain rfl := hw.symm))
    rw [rounds_succ]
    go_wp2_with (first
      | (go_at_call 18
         refine (as_calls ⟨pb, 0, none⟩ ⟨w1.heap.size, 0, none⟩ _ ((HX.out.below (HB.out.alloc HB.out.size _)).type) (blk_new w1 _) rfl rfl).mono ?_
         rintro e w2 ⟨rfl, ht, hb⟩
         have HT := Aside0.mk ht
         have HC := Aside0.mk (((Below.refl w1.heap.size w1).alloc (Nat.le_refl _) _).trans (hb _ (Nat.le_refl _)))
         have HD := Aside0.mk (HB.out.trans (HC.out.mono HB.out.size))
         clear hb ht
         have hl1 := (blk_cell HT.out 0).trans rfl
         have hl2 := (blk_cell (blk_below HK.out HC.out) 0).trans rfl
         have hg1 := (HX.out.below HD.out).conf
         have hg2 := (HX.out.below HD.out).tenant
         have hg3 := (HX.out.below HD.out).ports)
      | (go_at_call 16; obtain ⟨cn, tn, hbn⟩ := (HX.out.below HD.out).b3; obtain ⟨cm, tm, hbm⟩ := (HX.out.below HD.out).b1; with_reducible refine (Err.is_wrap_other pb 0 a1 a3 _ _ _ _ _ ((blk_cell (blk_below HK.out HC.out) 1).trans rfl) HX.out.n13.symm hbn hbm).mono ?_; rintro e w3 ⟨rfl, hw⟩; obtain rfl := hw.symm)
      | (go_at_call 16; obtain ⟨cn, tn, hbn⟩ := (HX.out.below HD.out).b3; obtain ⟨cm, tm, hbm⟩ := (HX.out.below HD.out).b2; with_reducible refine (Err.is_wrap_other pb 0 a2 a3 _ _ _ _ _ ((blk_cell (blk_below HK.out HC.out) 1).trans rfl) HX.out.n23.symm hbn hbm).mono ?_; rintro e w3 ⟨rfl, hw⟩; obtain rfl := hw.symm)
      | (go_at_call 16; refine (Err.is_wrap_same pb 0 a3 _ ((blk_cell (blk_below HK.out HC.out) 1).trans rfl)).mono ?_; rintro e w3 ⟨rfl, hw⟩; obtain rfl := hw.symm))
    try rw [Exit.noGoto_ret]
    go_ret2
    exact ⟨rfl, HD.out⟩
set_option maxHeartbeats 4000000 in
set_option maxRecDepth 100000 in
theorem May_of (o0 o1 o2 o3 : Int) (A : Option Addr) (len cap : Nat) (pre life idle : Int) (lf : Bool) (n : Int × Int) (w : World) (a1 a2 a3 : Addr) (hcall : ∀ W, Below w.heap.size w W → Calls Tryd.prog 15 #[.agg #[.int .u8 o0, .int .u8 o1, .int .u8 o2, .int .u8 o3, .slice A len cap, .int .i64 pre, .int .i64 life, .int .i64 idle, .bool lf]] W fun e w' => ∃ x, e = .returned x ∧ Bad w' a1 a2 a3 n x ∧ Below W.heap.size W w') :
    Calls Tryd.prog 14 #[.agg #[.int .u8 o0, .int .u8 o1, .int .u8 o2, .int .u8 o3, .slice A len cap, .int .i64 pre, .int .i64 life, .int .i64 idle, .bool lf]] w fun e w' => e = .returned (.bool (n.2 == 0)) ∧ Below w.heap.size w w' := by
  have hif := isIfaceE
  have HA := Aside0.mk (fun o => (Below.refl w.heap.size w).alloc (Nat.le_refl _) o)
  have hz : n.2 = 0 ∨ n.2 ≠ 0 := Classical.em _
  rcases hz with hz | hz
  · have hc2 : ∀ W, Below w.heap.size w W → Calls Tryd.prog 15 #[.agg #[.int .u8 o0, .int .u8 o1, .int .u8 o2, .int .u8 o3, .slice A len cap, .int .i64 pre, .int .i64 life, .int .i64 idle, .bool lf]] W fun e w' => e = .returned .nilIface ∧ Below W.heap.size W w' := fun W hW => (hcall W hW).mono fun e w' ⟨x, he, hb, hB⟩ => by
      refine ⟨?_, hB⟩
      cases hb with
      | nil => exact he
      | one => exact absurd hz (show (1 : Int) ≠ 0 by decide)
      | two => exact absurd hz (show (2 : Int) ≠ 0 by decide)
      | three => exact absurd hz (show (3 : Int) ≠ 0 by decide)
    rw [hz]
    clear hcall hz
    go_enter Tryd.func14, Tryd.ntmps14
    go_wp2_with (go_at_call 15; refine (hc2 _ (HA.out _)).mono ?_; rintro e w1 ⟨rfl, hb⟩; have HB := Aside0.mk ((HA.out _).trans (hb.mono (HA.out _).size)); clear hb)
    go_ret
    exact ⟨rfl, HB.out⟩
  · have hc2 : ∀ W, Below w.heap.size w W → Calls Tryd.prog 15 #[.agg #[.int .u8 o0, .int .u8 o1, .int .u8 o2, .int .u8 o3, .slice A len cap, .int .i64 pre, .int .i64 life, .int .i64 idle, .bool lf]] W fun e w' => ∃ p : Addr, e = .returned (.iface 45 (.pointer (some p))) ∧ Below W.heap.size W w' := fun W hW => (hcall W hW).mono fun e w' ⟨x, he, hb, hB⟩ => by
      cases hb with
      | nil => exact absurd rfl hz
      | one pb => exact ⟨_, he, hB⟩
      | two pb => exact ⟨_, he, hB⟩
      | three pb => exact ⟨_, he, hB⟩
    rw [show (n.2 == 0) = false from beq_eq_false_iff_ne.2 hz]
    clear hcall hz
    go_enter Tryd.func14, Tryd.ntmps14
    go_wp2_with (go_at_call 15; refine (hc2 _ (HA.out _)).mono ?_; rintro e w1 ⟨p, rfl, hb⟩; have HB := Aside0.mk ((HA.out _).trans (hb.mono (HA.out _).size)); clear hb)
    go_ret
    exact ⟨rfl, HB.out⟩
end Go.Proofs.YtajaedebndeajaaDoor.Conf
namespace Go.Proofs.YtajaedebndeajaaDoor.Q
open Go Go.RowKit Go.Proofs.YtajaedebndeajaaDoor.Pure Go.Proofs.YtajaedebndeajaaDoor.AclMet Go.Proofs.YtajaedebndeajaaDoorW.PrintWords Go.Proofs.YtajaedebndeajaaDoorW.PrintLast Go.Proofs.YtajaedebndeajaaDoorW.PrintMore
set_option linter.unusedVariables false
instance (l : List S44) : Decidable (okL l) := inferInstanceAs (Decidable (_ ∧ ∀ x ∈ l, _ ∧ _))
instance (t : Ten) : Decidable (okTen t) := inferInstanceAs (Decidable (_ ∧ _ ∧ okL t.f5))
instance (l : List Ten) : Decidable (okAll l) := inferInstanceAs (Decidable (_ ∧ ∀ t ∈ l, okTen t))
def conf_Why.f (o0 o1 o2 o3 : Int) (l : List Ten) (pre life idle : Int) (lf : Bool) : Option (Int × Int) := if okAll l then some (whyS l pre life idle) else none
theorem conf_Why.calls (o0 o1 o2 o3 : Int) (A : Option Addr) (cap : Nat) (l : List Ten) (pre life idle : Int) (lf : Bool) (r1 r2 : Int) (w : World) (hr : Kd.C k40 w A l.length l) (hcap : l.length ≤ cap) (hmet : WMet w) (h : conf_Why.f o0 o1 o2 o3 l pre life idle lf = some (r1, r2)) :
    Calls Tryd.prog 11 #[.agg #[.int .u8 o0, .int .u8 o1, .int .u8 o2, .int .u8 o3, .slice A l.length cap, .int .i64 pre, .int .i64 life, .int .i64 idle, .bool lf]] w fun e w' => e = .returned (.tuple #[.int .i64 r1, .int .i64 r2]) ∧ Below w.heap.size w w' := by
  unfold conf_Why.f at h
  split at h
  · rename_i hl
    have h2 := Option.some.inj h
    obtain ⟨a1, a2, a3, hx⟩ := hmet.ex
    have := Conf.Why_of o0 o1 o2 o3 A l.length cap pre life idle lf (whyS l pre life idle) w a1 a2 a3 hx (fun W hW => Conf.Check_calls o0 o1 o2 o3 A cap l pre life idle lf W a1 a2 a3 (Kd.C_below hr hW) hcap (hmet.below hW) hl (hx.below hW))
    rwa [h2] at this
  · cases h
def conf_May.f (o0 o1 o2 o3 : Int) (l : List Ten) (pre life idle : Int) (lf : Bool) : Option Bool := if okAll l then some ((whyS l pre life idle).2 == 0) else none
theorem conf_May.calls (o0 o1 o2 o3 : Int) (A : Option Addr) (cap : Nat) (l : List Ten) (pre life idle : Int) (lf : Bool) (r : Bool) (w : World) (hr : Kd.C k40 w A l.length l) (hcap : l.length ≤ cap) (hmet : WMet w) (h : conf_May.f o0 o1 o2 o3 l pre life idle lf = some r) :
    Calls Tryd.prog 14 #[.agg #[.int .u8 o0, .int .u8 o1, .int .u8 o2, .int .u8 o3, .slice A l.length cap, .int .i64 pre, .int .i64 life, .int .i64 idle, .bool lf]] w fun e w' => e = .returned (.bool r) ∧ Below w.heap.size w w' := by
  unfold conf_May.f at h
  split at h
  · rename_i hl
    obtain rfl := Option.some.inj h
    obtain ⟨a1, a2, a3, hx⟩ := hmet.ex
    exact Conf.May_of o0 o1 o2 o3 A l.length cap pre life idle lf (whyS l pre life idle) w a1 a2 a3 (fun W hW => Conf.Check_calls o0 o1 o2 o3 A cap l pre life idle lf W a1 a2 a3 (Kd.C_below hr hW) hcap (hmet.below hW) hl (hx.below hW))
  · cases h
end Go.Proofs.YtajaedebndeajaaDoor.Q

namespace Go.Proofs.YtajaedebndeajaaDoor.Q
open Go.RowKit Go.Proofs.YtajaedebndeajaaDoor.AclMet Go.Proofs.YtajaedebndeajaaDoorW.PrintWords Go.Proofs.YtajaedebndeajaaDoorW.PrintLast Go.Proofs.YtajaedebndeajaaDoorW.PrintMore
attribute [local go_sem] max2_int min2_int max_two min_two max_three min_three max_four min_four   -- for this text's walks alone
set_option linter.unusedVariables false
set_option linter.unusedSimpArgs false

/-! ### wharfingerref13_in: function 19 -/
end Go.Proofs.YtajaedebndeajaaDoor.Q

namespace Go.Proofs.YtajaedebndeajaaDoor.Q
open Go.RowKit Go.Proofs.YtajaedebndeajaaDoor.AclMet Go.Proofs.YtajaedebndeajaaDoorW.PrintWords Go.Proofs.YtajaedebndeajaaDoorW.PrintLast Go.Proofs.YtajaedebndeajaaDoorW.PrintMore
attribute [local go_sem] max2_int min2_int max_two min_two max_three min_three max_four min_four   -- for this text's walks alone
set_option linter.unusedVariables false
set_option linter.unusedSimpArgs false

/-! ### wharfingerref13_ports: function 21 -/
end Go.Proofs.YtajaedebndeajaaDoor.Q

namespace Go.Proofs.YtajaedebndeajaaDoor.Q
open Go.RowKit Go.Proofs.YtajaedebndeajaaDoor.AclMet Go.Proofs.YtajaedebndeajaaDoorW.PrintWords Go.Proofs.YtajaedebndeajaaDoorW.PrintLast Go.Proofs.YtajaedebndeajaaDoorW.PrintMore
attribute [local go_sem] max2_int min2_int max_two min_two max_three min_three max_four min_four   -- for this text's walks alone
set_option linter.unusedVariables false
set_option linter.unusedSimpArgs false

/-! ### wharfingerref01_May: function 34 -/
end Go.Proofs.YtajaedebndeajaaDoor.Q

namespace Go.Proofs.YtajaedebndeajaaDoor.Q
open Go.RowKit Go.Proofs.YtajaedebndeajaaDoor.AclMet Go.Proofs.YtajaedebndeajaaDoorW.PrintWords Go.Proofs.YtajaedebndeajaaDoorW.PrintLast Go.Proofs.YtajaedebndeajaaDoorW.PrintMore
attribute [local go_sem] max2_int min2_int max_two min_two max_three min_three max_four min_four   -- for this text's walks alone
set_option linter.unusedVariables false
set_option linter.unusedSimpArgs false

/-! ### wharfingerref12_Name: function 32 -/
end Go.Proofs.YtajaedebndeajaaDoor.Q

namespace Go.Proofs.YtajaedebndeajaaDoor.Q
open Go.RowKit Go.Proofs.YtajaedebndeajaaDoor.AclMet Go.Proofs.YtajaedebndeajaaDoorW.PrintWords Go.Proofs.YtajaedebndeajaaDoorW.PrintLast Go.Proofs.YtajaedebndeajaaDoorW.PrintMore
attribute [local go_sem] max2_int min2_int max_two min_two max_three min_three max_four min_four   -- for this text's walks alone
set_option linter.unusedVariables false
set_option linter.unusedSimpArgs false

/-! ### wharfingerref08_Clean: function 42 -/
end Go.Proofs.YtajaedebndeajaaDoor.Q

namespace Go.Proofs.YtajaedebndeajaaDoor.Q
open Go.RowKit Go.Proofs.YtajaedebndeajaaDoor.AclMet Go.Proofs.YtajaedebndeajaaDoorW.PrintWords Go.Proofs.YtajaedebndeajaaDoorW.PrintLast Go.Proofs.YtajaedebndeajaaDoorW.PrintMore
attribute [local go_sem] max2_int min2_int max_two min_two max_three min_three max_four min_four   -- for this text's walks alone
set_option linter.unusedVariables false
set_option linter.unusedSimpArgs false

/-! ### wharfingerref12_User: function 31 -/
end Go.Proofs.YtajaedebndeajaaDoor.Q

namespace Go.Proofs.YtajaedebndeajaaDoor.Q
open Go.RowKit Go.Proofs.YtajaedebndeajaaDoor.AclMet Go.Proofs.YtajaedebndeajaaDoorW.PrintWords Go.Proofs.YtajaedebndeajaaDoorW.PrintLast Go.Proofs.YtajaedebndeajaaDoorW.PrintMore
attribute [local go_sem] max2_int min2_int max_two min_two max_three min_three max_four min_four   -- for this text's walks alone
set_option linter.unusedVariables false
set_option linter.unusedSimpArgs false

/-! ### wharfingerref13_tenant: function 20 -/
end Go.Proofs.YtajaedebndeajaaDoor.Q

namespace Go.Proofs.YtajaedebndeajaaDoor.Q
open Go.RowKit Go.Proofs.YtajaedebndeajaaDoor.AclMet Go.Proofs.YtajaedebndeajaaDoorW.PrintWords Go.Proofs.YtajaedebndeajaaDoorW.PrintLast Go.Proofs.YtajaedebndeajaaDoorW.PrintMore
attribute [local go_sem] max2_int min2_int max_two min_two max_three min_three max_four min_four   -- for this text's walks alone
set_option linter.unusedVariables false
set_option linter.unusedSimpArgs false

/-! ### wharfingerref13_Why: function 12 -/
end Go.Proofs.YtajaedebndeajaaDoor.Q

namespace Go.Proofs.YtajaedebndeajaaDoor.Q
open Go.RowKit Go.Proofs.YtajaedebndeajaaDoor.AclMet Go.Proofs.YtajaedebndeajaaDoorW.PrintWords Go.Proofs.YtajaedebndeajaaDoorW.PrintLast Go.Proofs.YtajaedebndeajaaDoorW.PrintMore
attribute [local go_sem] max2_int min2_int max_two min_two max_three min_three max_four min_four   -- for this text's walks alone
set_option linter.unusedVariables false
set_option linter.unusedSimpArgs false

/-! ### wharfingerref13_May: function 13 -/
end Go.Proofs.YtajaedebndeajaaDoor.Q
