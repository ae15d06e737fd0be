/- Contracts and plain facts that the law's proof needs. -/
import Derived.Test.YtdcbkeihgbekdaaGreatDoorM4
import Derived.Test.YtdcbkeihgbekdaaGreatDoorM2
import Derived.Laws.EntriesVeiled
import Derived.Test.YtdcbkeihgbekdaaGreatDoorM5
namespace Go.Proofs.YtdcbkeihgbekdaaGreatDoor.Q
open Go.RowKit Go.Proofs.YtdcbkeihgbekdaaGreatDoor.Turn Go.Proofs.YtdcbkeihgbekdaaGreatDoorW.PrintWords Go.Proofs.YtdcbkeihgbekdaaGreatDoorW.PrintLast Go.Proofs.YtdcbkeihgbekdaaGreatDoorW.PrintMore
attribute [local go_sem] max2_int min2_int max_two min_two max_three min_three max_four min_four   -- for this text's walks alone
set_option linter.unusedVariables false
set_option linter.unusedSimpArgs false

/-! ### wharfingerref19_Listen: function 8 -/
mutual
def wharfingerref19_Listen.j0 : Nat → ByteArray → Bool → Int → List ByteArray → Int → Int → Int → Int → Option (Int × Int × Int × Int × Int × Int)
 | 0, _, _, _, _, _, _, _, _ => none
 | k + 1, x0, x20, x152000, x152001, x153000, x153001, x153002, x153003 => if x20 = true then (some (0, 0, 0, 0, 0, 1)) else (if (x152001.length : Int) = 1 then (if x0.toList = ([80, 65, 83, 86] : List UInt8) then (if x152000 = 227 then (if x0.toList = ([69, 80, 83, 86] : List UInt8) then (wharfingerref19_Listen.j1 k x0 (x152000 != 229) x152000 x152001 x153000 x153001 x153002 x153003) else (wharfingerref19_Listen.j1 k x0 false x152000 x152001 x153000 x153001 x153002 x153003)) else (wharfingerref19_Listen.j1 k x0 true x152000 x152001 x153000 x153001 x153002 x153003)) else (if x0.toList = ([69, 80, 83, 86] : List UInt8) then (wharfingerref19_Listen.j1 k x0 (x152000 != 229) x152000 x152001 x153000 x153001 x153002 x153003) else (wharfingerref19_Listen.j1 k x0 false x152000 x152001 x153000 x153001 x153002 x153003))) else (wharfingerref19_Listen.j1 k x0 true x152000 x152001 x153000 x153001 x153002 x153003))
def wharfingerref19_Listen.j1 : Nat → ByteArray → Bool → Int → List ByteArray → Int → Int → Int → Int → Option (Int × Int × Int × Int × Int × Int)
 | 0, _, _, _, _, _, _, _, _ => none
 | k + 1, x0, x43, x152000, x152001, x153000, x153001, x153002, x153003 => if x43 = true then (some (0, 0, 0, 0, 0, 2)) else (if x0.toList = ([80, 65, 83, 86] : List UInt8) then (if 0 < (x152001.length : Int) then ((wharfingerref03_Find.f (rdOf ByteArray.empty x152001 0)).bind fun bt156 => (if bt156.2.2.2.2.2 = true then ((wharfingerref19_own.f bt156.1 bt156.2.1 bt156.2.2.1 bt156.2.2.2.1 bt156.2.2.2.2.1 x153000 x153001 x153002 x153003).bind fun bt163 => (some (bt163.1, bt163.2.1, bt163.2.2.1, bt163.2.2.2.1, bt163.2.2.2.2.1, bt163.2.2.2.2.2))) else (some (0, 0, 0, 0, 0, 2)))) else (none)) else (if 0 < (x152001.length : Int) then ((wharfingerref04_Find.f (rdOf ByteArray.empty x152001 0)).bind fun bt171 => (if bt171.2 = true then ((wharfingerref19_own.f x153000 x153001 x153002 x153003 bt171.1 x153000 x153001 x153002 x153003).bind fun bt173 => (some (bt173.1, bt173.2.1, bt173.2.2.1, bt173.2.2.2.1, bt173.2.2.2.2.1, bt173.2.2.2.2.2))) else (some (0, 0, 0, 0, 0, 2)))) else (none)))
end
def wharfingerref19_Listen.f (k : Nat) (a0 : ByteArray) (a1_0 : Int) (l1_1 : List ByteArray) (a2_0 : Int) (a2_1 : Int) (a2_2 : Int) (a2_3 : Int) : Option (Int × Int × Int × Int × Int × Int) := if a0.toList = ([80, 65, 83, 86] : List UInt8) then (wharfingerref19_Listen.j0 k a0 false a1_0 l1_1 a2_0 a2_1 a2_2 a2_3) else (wharfingerref19_Listen.j0 k a0 (a0.toList != ([69, 80, 83, 86] : List UInt8)) a1_0 l1_1 a2_0 a2_1 a2_2 a2_3)
theorem wharfingerref19_Listen.mono_l : ∀ k, (∀ y0 y1 y2 y3 y4 y5 y6 y7, LeO (wharfingerref19_Listen.j0 k y0 y1 y2 y3 y4 y5 y6 y7) (wharfingerref19_Listen.j0 (k + 1) y0 y1 y2 y3 y4 y5 y6 y7)) ∧ (∀ y0 y1 y2 y3 y4 y5 y6 y7, LeO (wharfingerref19_Listen.j1 k y0 y1 y2 y3 y4 y5 y6 y7) (wharfingerref19_Listen.j1 (k + 1) y0 y1 y2 y3 y4 y5 y6 y7))
 | 0 => ⟨fun _ _ _ _ _ _ _ _ r h => by simp [wharfingerref19_Listen.j0] at h, fun _ _ _ _ _ _ _ _ r h => by simp [wharfingerref19_Listen.j1] at h⟩
 | k + 1 => by
  obtain ⟨ih0, ih1⟩ := wharfingerref19_Listen.mono_l k
  refine ⟨?_, ?_⟩
  ·
   intro y0 y1 y2 y3 y4 y5 y6 y7
   unfold wharfingerref19_Listen.j0
   repeat' first
   | (with_reducible exact ih0 _ _ _ _ _ _ _ _)
   | (with_reducible exact ih1 _ _ _ _ _ _ _ _)
   | (with_reducible exact LeO.refl _)
   | (with_reducible exact LeO.none _)
   | (with_reducible refine LeO.ite ?_ ?_)
   | (with_reducible refine LeO.bind ?_ (fun _ => ?_))
   | exact ih0 _ _ _ _ _ _ _ _
   | exact ih1 _ _ _ _ _ _ _ _
   | exact LeO.none _
   | refine LeO.ite ?_ ?_
   | refine LeO.bind ?_ (fun _ => ?_)
  ·
   intro y0 y1 y2 y3 y4 y5 y6 y7
   unfold wharfingerref19_Listen.j1
   repeat' first
   | (with_reducible exact ih0 _ _ _ _ _ _ _ _)
   | (with_reducible exact ih1 _ _ _ _ _ _ _ _)
   | (with_reducible exact LeO.refl _)
   | (with_reducible exact LeO.none _)
   | (with_reducible refine LeO.ite ?_ ?_)
   | (with_reducible refine LeO.bind ?_ (fun _ => ?_))
   | exact ih0 _ _ _ _ _ _ _ _
   | exact ih1 _ _ _ _ _ _ _ _
   | exact LeO.none _
   | refine LeO.ite ?_ ?_
   | refine LeO.bind ?_ (fun _ => ?_)
theorem wharfingerref19_Listen.mono : ∀ a0 a1 a2 a3 a4 a5 a6 k, LeO (wharfingerref19_Listen.f k a0 a1 a2 a3 a4 a5 a6) (wharfingerref19_Listen.f (k + 1) a0 a1 a2 a3 a4 a5 a6) := by
 intro a0 a1 a2 a3 a4 a5 a6 k
 obtain ⟨ih0, ih1⟩ := wharfingerref19_Listen.mono_l k
 unfold wharfingerref19_Listen.f
 repeat' first
   | (with_reducible exact ih0 _ _ _ _ _ _ _ _)
   | (with_reducible exact ih1 _ _ _ _ _ _ _ _)
   | (with_reducible exact LeO.refl _)
   | (with_reducible exact LeO.none _)
   | (with_reducible refine LeO.ite ?_ ?_)
   | (with_reducible refine LeO.bind ?_ (fun _ => ?_))
   | exact ih0 _ _ _ _ _ _ _ _
   | exact ih1 _ _ _ _ _ _ _ _
   | exact LeO.none _
   | refine LeO.ite ?_ ?_
   | refine LeO.bind ?_ (fun _ => ?_)
set_option maxHeartbeats 8000000 in
set_option maxRecDepth 100000 in
theorem wharfingerref19_Listen.calls (k : Nat) (a0 : ByteArray) (a1_0 : Int) (A1_1 : Option Addr) (c1_1 : Nat) (l1_1 : List ByteArray) (a2_0 : Int) (a2_1 : Int) (a2_2 : Int) (a2_3 : Int) (r1 : Int) (r2 : Int) (r3 : Int) (r4 : Int) (r5 : Int) (r6 : Int) (w : World) (hr1_1 : Kd.C Kd.string w A1_1 l1_1.length l1_1) (hc1_1 : l1_1.length ≤ c1_1) (h : wharfingerref19_Listen.f k a0 a1_0 l1_1 a2_0 a2_1 a2_2 a2_3 = some (r1, r2, r3, r4, r5, r6)) :
  Calls Tryz.prog 8 #[.string a0, .agg #[.int .i64 a1_0, .slice A1_1 l1_1.length c1_1], .agg #[.int .u8 a2_0, .int .u8 a2_1, .int .u8 a2_2, .int .u8 a2_3]] w fun e w' => e = .returned (.tuple #[.agg #[.int .u8 r1, .int .u8 r2, .int .u8 r3, .int .u8 r4, .int .i64 r5], .int .i64 r6]) ∧ Below w.heap.size w w' := by
 have hu26 := Tryz.underlying26
 have hu28 := Tryz.underlying28
 have hu30 := Tryz.underlying30
 have HR1_1 := Aside0.mk hr1_1
 have HC1_1 := Aside0.mk hc1_1
 clear hr1_1 hc1_1
 have HB := Aside0.mk (Below.refl w.heap.size w)
 have H : (if a0.toList = ([80, 65, 83, 86] : List UInt8) then (wharfingerref19_Listen.j0 k a0 false a1_0 l1_1 a2_0 a2_1 a2_2 a2_3) else (wharfingerref19_Listen.j0 k a0 (a0.toList != ([69, 80, 83, 86] : List UInt8)) a1_0 l1_1 a2_0 a2_1 a2_2 a2_3)) = some (r1, r2, r3, r4, r5, r6) := h
 clear h
 have HC4 := Aside0.mk H
 clear H
 go_enter Tryz.func8, Tryz.ntmps8
 go_upto_region 1 with (first | ((with_reducible refine gate_dst (N := 4) rfl ?_); refine box_event ?hg (N := 4) ?hd (cs := #[.int .i64 a1_0, .slice A1_1 l1_1.length c1_1]) (t := 26) ?hr ?_; (case hd => rfl); (case hg => rfl); (case hr => first | (go_simp; done) | (go_simp; rfl)); intro gb151 hg w5 hbox hb; have n0_ := Aside0.mk (below_step (by repeat (first | (with_reducible first | exact HB.out | apply below_alloc | apply pw_below_drewN | apply below_drew1) | exact HB.out)) hb); have n1_ := Aside0.mk (hbox); have n2_ := Aside0.mk ((by rw [hg]; exact (below_size (by repeat (first | (with_reducible first | exact HB.out | apply below_alloc | apply pw_below_drewN | apply below_drew1) | exact HB.out))) : w.heap.size ≤ gb151)); have n3_ := Aside0.mk ((by rw [hg]; exact (below_size (by repeat (first | (with_reducible first | exact HB.out | apply below_alloc | apply pw_below_drewN | apply below_drew1) | exact HB.out))) : w.heap.size ≤ gb151)); clear HB; have HB := n0_; have BK151 := n1_; have GW151 := n2_; have GE151 := n3_; clear n0_ n1_ n2_ n3_; clear hb hbox hg) | ((with_reducible refine gate_dst (N := 5) rfl ?_); refine box_event ?hg (N := 5) ?hd (cs := #[.int .u8 a2_0, .int .u8 a2_1, .int .u8 a2_2, .int .u8 a2_3]) (t := 28) ?hr ?_; (case hd => rfl); (case hg => rfl); (case hr => first | (go_simp; done) | (go_simp; rfl)); intro gb152 hg w6 hbox hb; have n0_ := Aside0.mk (blk_below (g := gb151) (o := .cells #[.int .i64 a1_0, .slice A1_1 l1_1.length c1_1] 26 (0, 0)) (by (with_reducible repeat (first | refine blk_drewN ?_ _ | refine blk_drew ?_ | refine blk_alloc ?_ _)); exact BK151.out) hb); have n1_ := Aside0.mk (below_step (by repeat (first | (with_reducible first | exact HB.out | apply below_alloc | apply pw_below_drewN | apply below_drew1 | refine below_set ?_ GE151.out) | exact HB.out)) hb); have n2_ := Aside0.mk (hbox); have n3_ := Aside0.mk ((by rw [hg]; exact (below_size (by repeat (first | (with_reducible first | exact HB.out | apply below_alloc | apply pw_below_drewN | apply below_drew1 | refine below_set ?_ GE151.out) | exact HB.out))) : w.heap.size ≤ gb152)); have n4_ := Aside0.mk ((by rw [hg]; exact (below_size (by repeat (first | (with_reducible first | exact HB.out | apply below_alloc | apply pw_below_drewN | apply below_drew1 | refine below_set ?_ GE151.out) | exact HB.out))) : w.heap.size ≤ gb152)); have n5_ := Aside0.mk ((by rw [hg]; exact Nat.ne_of_lt (blk_lt (g := gb151) (o := .cells #[.int .i64 a1_0, .slice A1_1 l1_1.length c1_1] 26 (0, 0)) (by (with_reducible repeat (first | refine blk_drewN ?_ _ | refine blk_drew ?_ | refine blk_alloc ?_ _)); exact BK151.out)) : gb151 ≠ gb152)); have n6_ := Aside0.mk ((by rw [hg]; exact Nat.ne_of_gt (blk_lt (g := gb151) (o := .cells #[.int .i64 a1_0, .slice A1_1 l1_1.length c1_1] 26 (0, 0)) (by (with_reducible repeat (first | refine blk_drewN ?_ _ | refine blk_drew ?_ | refine blk_alloc ?_ _)); exact BK151.out)) : gb152 ≠ gb151)); clear BK151; clear HB; have BK151 := n0_; have HB := n1_; have BK152 := n2_; have GW152 := n3_; have GE152 := n4_; have NB151_152 := n5_; have NB152_151 := n6_; clear n0_ n1_ n2_ n3_ n4_ n5_ n6_; clear hb hbox hg) | ((with_reducible refine gate_dst (N := 6) rfl ?_); refine box_event ?hg (N := 6) ?hd (cs := #[.int .u8 0, .int .u8 0, .int .u8 0, .int .u8 0, .int .i64 0]) (t := 30) ?hr ?_; (case hd => rfl); (case hg => rfl); (case hr => first | (go_simp; done) | (go_simp; rfl)); intro gb153 hg w7 hbox hb; have n0_ := Aside0.mk (blk_below (g := gb151) (o := .cells #[.int .i64 a1_0, .slice A1_1 l1_1.length c1_1] 26 (0, 0)) (by (with_reducible repeat (first | refine blk_drewN ?_ _ | refine blk_drew ?_ | refine blk_alloc ?_ _)); exact BK151.out) hb); have n1_ := Aside0.mk (blk_below (g := gb152) (o := .cells #[.int .u8 a2_0, .int .u8 a2_1, .int .u8 a2_2, .int .u8 a2_3] 28 (0, 0)) (by (with_reducible repeat (first | refine blk_drewN ?_ _ | refine blk_drew ?_ | refine blk_alloc ?_ _)); exact BK152.out) hb); have n2_ := Aside0.mk (below_step (by repeat (first | (with_reducible first | exact HB.out | apply below_alloc | apply pw_below_drewN | apply below_drew1 | refine below_set ?_ GE151.out | refine below_set ?_ GE152.out) | exact HB.out)) hb); have n3_ := Aside0.mk (hbox); have n4_ := Aside0.mk ((by rw [hg]; exact (below_size (by repeat (first | (with_reducible first | exact HB.out | apply below_alloc | apply pw_below_drewN | apply below_drew1 | refine below_set ?_ GE151.out | refine below_set ?_ GE152.out) | exact HB.out))) : w.heap.size ≤ gb153)); have n5_ := Aside0.mk ((by rw [hg]; exact (below_size (by repeat (first | (with_reducible first | exact HB.out | apply below_alloc | apply pw_below_drewN | apply below_drew1 | refine below_set ?_ GE151.out | refine below_set ?_ GE152.out) | exact HB.out))) : w.heap.size ≤ gb153)); have n6_ := Aside0.mk ((by rw [hg]; exact Nat.ne_of_lt (blk_lt (g := gb151) (o := .cells #[.int .i64 a1_0, .slice A1_1 l1_1.length c1_1] 26 (0, 0)) (by (with_reducible repeat (first | refine blk_drewN ?_ _ | refine blk_drew ?_ | refine blk_alloc ?_ _)); exact BK151.out)) : gb151 ≠ gb153)); have n7_ := Aside0.mk ((by rw [hg]; exact Nat.ne_of_gt (blk_lt (g := gb151) (o := .cells #[.int .i64 a1_0, .slice A1_1 l1_1.length c1_1] 26 (0, 0)) (by (with_reducible repeat (first | refine blk_drewN ?_ _ | refine blk_drew ?_ | refine blk_alloc ?_ _)); exact BK151.out)) : gb153 ≠ gb151)); have n8_ := Aside0.mk ((by rw [hg]; exact Nat.ne_of_lt (blk_lt (g := gb152) (o := .cells #[.int .u8 a2_0, .int .u8 a2_1, .int .u8 a2_2, .int .u8 a2_3] 28 (0, 0)) (by (with_reducible repeat (first | refine blk_drewN ?_ _ | refine blk_drew ?_ | refine blk_alloc ?_ _)); exact BK152.out)) : gb152 ≠ gb153)); have n9_ := Aside0.mk ((by rw [hg]; exact Nat.ne_of_gt (blk_lt (g := gb152) (o := .cells #[.int .u8 a2_0, .int .u8 a2_1, .int .u8 a2_2, .int .u8 a2_3] 28 (0, 0)) (by (with_reducible repeat (first | refine blk_drewN ?_ _ | refine blk_drew ?_ | refine blk_alloc ?_ _)); exact BK152.out)) : gb153 ≠ gb152)); clear BK151; clear BK152; clear HB; have BK151 := n0_; have BK152 := n1_; have HB := n2_; have BK153 := n3_; have GW153 := n4_; have GE153 := n5_; have NB151_153 := n6_; have NB153_151 := n7_; have NB152_153 := n8_; have NB153_152 := n9_; clear n0_ n1_ n2_ n3_ n4_ n5_ n6_ n7_ n8_ n9_; clear hb hbox hg))
 (try simp only [Act.put, List.setIfInBounds_toArray, List.set_cons_zero, List.set_cons_succ])
 go_cut [20] (fun v20 wc => ∃ (kq : Nat) (x20_3 : Bool), v20 = .bool x20_3 ∧ Aside0 (wharfingerref19_Listen.j0 kq a0 x20_3 a1_0 l1_1 a2_0 a2_1 a2_2 a2_3 = some (r1, r2, r3, r4, r5, r6)) ∧ Aside0 (kq ≤ k) ∧ Aside0 (wc.heap[gb151]? = some (.cells #[.int .i64 a1_0, (.slice A1_1 l1_1.length c1_1)] 26 (0, 0))) ∧ Aside0 (wc.heap[gb152]? = some (.cells #[.int .u8 a2_0, .int .u8 a2_1, .int .u8 a2_2, .int .u8 a2_3] 28 (0, 0))) ∧ Aside0 (wc.heap[gb153]? = some (.cells #[.int .u8 0, .int .u8 0, .int .u8 0, .int .u8 0, .int .i64 0] 30 (0, 0))) ∧ Aside0 (Below w.heap.size w wc))
 case first =>
  have H := HC4.out
  clear HC4
  by_cases c8 : a0.toList = ([80, 65, 83, 86] : List UInt8)
  ·
   rw [if_pos c8] at H
   have c8b0 : (a0.toList == ([80, 65, 83, 86] : List UInt8)) = true := beq_iff_eq.mpr c8
   have c8b1 : (a0.toList != ([80, 65, 83, 86] : List UInt8)) = false := bne_eq_false_iff_eq.mpr c8
   clear c8
   (first | rw [c8b0] | (simp only [i64_w, i32_w]; rw [c8b0]) | skip)
   have H' := Aside0.mk H
   clear H
   go_wp2
   go_meet
   case rel => exact ⟨_, (false), (by first | rfl | (simp; done) | (simp [*]; done)), H', ⟨by first | omega | exact Nat.le_refl _⟩, ⟨by (with_reducible repeat (first | refine blk_drewN ?_ _ | refine blk_drew ?_ | refine blk_alloc ?_ _)); exact BK151.out⟩, ⟨by (with_reducible repeat (first | refine blk_drewN ?_ _ | refine blk_drew ?_ | refine blk_alloc ?_ _)); exact BK152.out⟩, ⟨by (with_reducible repeat (first | refine blk_drewN ?_ _ | refine blk_drew ?_ | refine blk_alloc ?_ _)); exact BK153.out⟩, ⟨by repeat (first | (with_reducible first | exact HB.out | apply below_alloc | apply pw_below_drewN | apply below_drew1 | refine below_set ?_ GE151.out | refine below_set ?_ GE152.out | refine below_set ?_ GE153.out) | exact HB.out)⟩⟩
  ·
   rw [if_neg c8] at H
   have c8b0 : (a0.toList == ([80, 65, 83, 86] : List UInt8)) = false := beq_eq_false_iff_ne.mpr c8
   have c8b1 : (a0.toList != ([80, 65, 83, 86] : List UInt8)) = true := bne_iff_ne.mpr c8
   (first | rw [c8b0] | (simp only [i64_w, i32_w]; rw [c8b0]) | skip)
   have H' := Aside0.mk H
   clear H
   go_wp2
   go_meet
   case rel => exact ⟨_, ((a0.toList != ([69, 80, 83, 86] : List UInt8))), (by first | rfl | (simp; done) | (simp [*]; done)), H', ⟨by first | omega | exact Nat.le_refl _⟩, ⟨by (with_reducible repeat (first | refine blk_drewN ?_ _ | refine blk_drew ?_ | refine blk_alloc ?_ _)); exact BK151.out⟩, ⟨by (with_reducible repeat (first | refine blk_drewN ?_ _ | refine blk_drew ?_ | refine blk_alloc ?_ _)); exact BK152.out⟩, ⟨by (with_reducible repeat (first | refine blk_drewN ?_ _ | refine blk_drew ?_ | refine blk_alloc ?_ _)); exact BK153.out⟩, ⟨by repeat (first | (with_reducible first | exact HB.out | apply below_alloc | apply pw_below_drewN | apply below_drew1 | refine below_set ?_ GE151.out | refine below_set ?_ GE152.out | refine below_set ?_ GE153.out) | exact HB.out)⟩⟩
 case rest =>
  clear HC4
  try clear c1
  try clear p2
  try clear c8
  try clear c8b0
  try clear c8b1
  obtain ⟨kq, x20_3, rfl, HA, HJ3, BK151, BK152, BK153, HB⟩ := hcut
  cases kq with
  | zero => exact absurd HA.out (by simp [wharfingerref19_Listen.j0])
  | succ kj3 =>
   have H := HA.out
   clear HA
   simp only [wharfingerref19_Listen.j0] at H
   by_cases c9 : x20_3 = true
   ·
    subst c9
    have H1 : (some (0, 0, 0, 0, 0, 1)) = some (r1, r2, r3, r4, r5, r6) := by rw [if_pos rfl] at H; exact H
    clear H
    have H := H1
    clear H1
    simp only [Option.some.injEq, Prod.mk.injEq] at H
    obtain ⟨rfl, rfl, rfl, rfl, rfl, rfl⟩ := H
    have hnb10 := NB153_151.out
    have hnc10 := NB151_153.out
    have hnb11 := NB153_152.out
    have hnc11 := NB152_153.out
    have hcz12_0 : wc.cell? ⟨gb153, 0, none⟩ = some (.int .u8 0) := (blk_cell BK153.out 0).trans rfl
    have hcz12_1 : wc.cell? ⟨gb153, 1, none⟩ = some (.int .u8 0) := (blk_cell BK153.out 1).trans rfl
    have hcz12_2 : wc.cell? ⟨gb153, 2, none⟩ = some (.int .u8 0) := (blk_cell BK153.out 2).trans rfl
    have hcz12_3 : wc.cell? ⟨gb153, 3, none⟩ = some (.int .u8 0) := (blk_cell BK153.out 3).trans rfl
    have hcz12_4 : wc.cell? ⟨gb153, 4, none⟩ = some (.int .i64 0) := (blk_cell BK153.out 4).trans rfl
    have hfz12_0 := blk_frozen BK153.out 0
    have hfz12_1 := blk_frozen BK153.out 1
    have hfz12_2 := blk_frozen BK153.out 2
    have hfz12_3 := blk_frozen BK153.out 3
    have hfz12_4 := blk_frozen BK153.out 4
    go_wp2
    refine bodyPost_ret (results_ct rfl _ _ gb153 30 #[.int .u8 0, .int .u8 0, .int .u8 0, .int .u8 0, .int .i64 0] (0, 0) _ rfl (by (with_reducible repeat (first | refine blk_drewN ?_ _ | refine blk_drew ?_ | refine blk_alloc ?_ _)); refine blk_put (cs := #[.int .u8 0, .int .u8 0, .int .u8 0, .int .u8 0, .int .i64 0]) ?_ 4 _ rfl; (with_reducible repeat (first | refine blk_drewN ?_ _ | refine blk_drew ?_ | refine blk_alloc ?_ _)); refine blk_put (cs := #[.int .u8 0, .int .u8 0, .int .u8 0, .int .u8 0, .int .i64 0]) ?_ 3 _ rfl; (with_reducible repeat (first | refine blk_drewN ?_ _ | refine blk_drew ?_ | refine blk_alloc ?_ _)); refine blk_put (cs := #[.int .u8 0, .int .u8 0, .int .u8 0, .int .u8 0, .int .i64 0]) ?_ 2 _ rfl; (with_reducible repeat (first | refine blk_drewN ?_ _ | refine blk_drew ?_ | refine blk_alloc ?_ _)); refine blk_put (cs := #[.int .u8 0, .int .u8 0, .int .u8 0, .int .u8 0, .int .i64 0]) ?_ 1 _ rfl; (with_reducible repeat (first | refine blk_drewN ?_ _ | refine blk_drew ?_ | refine blk_alloc ?_ _)); refine blk_put (cs := #[.int .u8 0, .int .u8 0, .int .u8 0, .int .u8 0, .int .i64 0]) ?_ 0 _ rfl; (with_reducible repeat (first | refine blk_drewN ?_ _ | refine blk_drew ?_ | refine blk_alloc ?_ _)); exact BK153.out) Tryz.underlying30 rfl (by kernel_rfl)) rfl ?_
    exact ⟨by first | rfl | (simp [errW_none, errW_some] <;> rfl) | (simp [*, errW_none, errW_some] <;> rfl), by repeat (first | (with_reducible first | exact HB.out | apply below_alloc | apply pw_below_drewN | apply below_drew1 | refine below_set ?_ GE151.out | refine below_set ?_ GE152.out | refine below_set ?_ GE153.out) | exact HB.out)⟩
   ·
    replace c9 := Bool.eq_false_iff.mpr c9
    subst c9
    have H1 : (if (l1_1.length : Int) = 1 then (if a0.toList = ([80, 65, 83, 86] : List UInt8) then (if a1_0 = 227 then (if a0.toList = ([69, 80, 83, 86] : List UInt8) then (wharfingerref19_Listen.j1 kj3 a0 (a1_0 != 229) a1_0 l1_1 a2_0 a2_1 a2_2 a2_3) else (wharfingerref19_Listen.j1 kj3 a0 false a1_0 l1_1 a2_0 a2_1 a2_2 a2_3)) else (wharfingerref19_Listen.j1 kj3 a0 true a1_0 l1_1 a2_0 a2_1 a2_2 a2_3)) else (if a0.toList = ([69, 80, 83, 86] : List UInt8) then (wharfingerref19_Listen.j1 kj3 a0 (a1_0 != 229) a1_0 l1_1 a2_0 a2_1 a2_2 a2_3) else (wharfingerref19_Listen.j1 kj3 a0 false a1_0 l1_1 a2_0 a2_1 a2_2 a2_3))) else (wharfingerref19_Listen.j1 kj3 a0 true a1_0 l1_1 a2_0 a2_1 a2_2 a2_3)) = some (r1, r2, r3, r4, r5, r6) := by rw [if_neg (show ¬ (false = true) by decide)] at H; exact H
    clear H
    have H := H1
    clear H1
    have HC13 := Aside0.mk H
    clear H
    go_upto_region 3 with (fail)
    go_cut [43] (fun v43 wc => ∃ (kq : Nat) (x43_12 : Bool), v43 = .bool x43_12 ∧ Aside0 (wharfingerref19_Listen.j1 kq a0 x43_12 a1_0 l1_1 a2_0 a2_1 a2_2 a2_3 = some (r1, r2, r3, r4, r5, r6)) ∧ Aside0 (kq ≤ kj3) ∧ Aside0 (wc.heap[gb151]? = some (.cells #[.int .i64 a1_0, (.slice A1_1 l1_1.length c1_1)] 26 (0, 0))) ∧ Aside0 (wc.heap[gb152]? = some (.cells #[.int .u8 a2_0, .int .u8 a2_1, .int .u8 a2_2, .int .u8 a2_3] 28 (0, 0))) ∧ Aside0 (wc.heap[gb153]? = some (.cells #[.int .u8 0, .int .u8 0, .int .u8 0, .int .u8 0, .int .i64 0] 30 (0, 0))) ∧ Aside0 (Below w.heap.size w wc))
    case first =>
     have H := HC13.out
     clear HC13
     by_cases c14 : (l1_1.length : Int) = 1
     ·
      rw [if_pos c14] at H
      have c14b0 : ((l1_1.length : Int) == 1) = true := beq_iff_eq.mpr c14
      have c14b1 : ((l1_1.length : Int) != 1) = false := bne_eq_false_iff_eq.mpr c14
      clear c14
      (first | rw [c14b0] | (simp only [i64_w, i32_w]; rw [c14b0]) | skip)
      by_cases c15 : a0.toList = ([80, 65, 83, 86] : List UInt8)
      ·
       rw [if_pos c15] at H
       have c15b0 : (a0.toList == ([80, 65, 83, 86] : List UInt8)) = true := beq_iff_eq.mpr c15
       have c15b1 : (a0.toList != ([80, 65, 83, 86] : List UInt8)) = false := bne_eq_false_iff_eq.mpr c15
       clear c15
       by_cases c16 : a1_0 = 227
       ·
        rw [if_pos c16] at H
        have c16b0 : (a1_0 == 227) = true := beq_iff_eq.mpr c16
        have c16b1 : (a1_0 != 227) = false := bne_eq_false_iff_eq.mpr c16
        clear c16
        by_cases c17 : a0.toList = ([69, 80, 83, 86] : List UInt8)
        ·
         rw [if_pos c17] at H
         have c17b0 : (a0.toList == ([69, 80, 83, 86] : List UInt8)) = true := beq_iff_eq.mpr c17
         have c17b1 : (a0.toList != ([69, 80, 83, 86] : List UInt8)) = false := bne_eq_false_iff_eq.mpr c17
         clear c17
         have H' := Aside0.mk H
         clear H
         have hnb18 := NB151_152.out
         have hnc18 := NB152_151.out
         have hnb19 := NB151_153.out
         have hnc19 := NB153_151.out
         have hcz20_0 : wc.cell? ⟨gb151, 0, none⟩ = some (.int .i64 a1_0) := (blk_cell BK151.out 0).trans rfl
         have hcz20_1 : wc.cell? ⟨gb151, 1, none⟩ = some (.slice A1_1 l1_1.length c1_1) := (blk_cell BK151.out 1).trans rfl
         have hfz20_0 := blk_frozen BK151.out 0
         have hfz20_1 := blk_frozen BK151.out 1
         go_wp2
         go_meet
         case rel => exact ⟨_, ((a1_0 != 229)), (by first | rfl | (simp; done) | (simp [*]; done)), H', ⟨by have := HJ3.out; first | omega | exact Nat.le_refl _⟩, ⟨by (with_reducible repeat (first | refine blk_drewN ?_ _ | refine blk_drew ?_ | refine blk_alloc ?_ _)); exact BK151.out⟩, ⟨by (with_reducible repeat (first | refine blk_drewN ?_ _ | refine blk_drew ?_ | refine blk_alloc ?_ _)); exact BK152.out⟩, ⟨by (with_reducible repeat (first | refine blk_drewN ?_ _ | refine blk_drew ?_ | refine blk_alloc ?_ _)); exact BK153.out⟩, ⟨by repeat (first | (with_reducible first | exact HB.out | apply below_alloc | apply pw_below_drewN | apply below_drew1 | refine below_set ?_ GE151.out | refine below_set ?_ GE152.out | refine below_set ?_ GE153.out) | exact HB.out)⟩⟩
        ·
         rw [if_neg c17] at H
         have c17b0 : (a0.toList == ([69, 80, 83, 86] : List UInt8)) = false := beq_eq_false_iff_ne.mpr c17
         have c17b1 : (a0.toList != ([69, 80, 83, 86] : List UInt8)) = true := bne_iff_ne.mpr c17
         have H' := Aside0.mk H
         clear H
         have hnb21 := NB151_152.out
         have hnc21 := NB152_151.out
         have hnb22 := NB151_153.out
         have hnc22 := NB153_151.out
         have hcz23_0 : wc.cell? ⟨gb151, 0, none⟩ = some (.int .i64 a1_0) := (blk_cell BK151.out 0).trans rfl
         have hcz23_1 : wc.cell? ⟨gb151, 1, none⟩ = some (.slice A1_1 l1_1.length c1_1) := (blk_cell BK151.out 1).trans rfl
         have hfz23_0 := blk_frozen BK151.out 0
         have hfz23_1 := blk_frozen BK151.out 1
         go_wp2
         go_meet
         case rel => exact ⟨_, (false), (by first | rfl | (simp; done) | (simp [*]; done)), H', ⟨by have := HJ3.out; first | omega | exact Nat.le_refl _⟩, ⟨by (with_reducible repeat (first | refine blk_drewN ?_ _ | refine blk_drew ?_ | refine blk_alloc ?_ _)); exact BK151.out⟩, ⟨by (with_reducible repeat (first | refine blk_drewN ?_ _ | refine blk_drew ?_ | refine blk_alloc ?_ _)); exact BK152.out⟩, ⟨by (with_reducible repeat (first | refine blk_drewN ?_ _ | refine blk_drew ?_ | refine blk_alloc ?_ _)); exact BK153.out⟩, ⟨by repeat (first | (with_reducible first | exact HB.out | apply below_alloc | apply pw_below_drewN | apply below_drew1 | refine below_set ?_ GE151.out | refine below_set ?_ GE152.out | refine below_set ?_ GE153.out) | exact HB.out)⟩⟩
       ·
        rw [if_neg c16] at H
        have c16b0 : (a1_0 == 227) = false := beq_eq_false_iff_ne.mpr c16
        have c16b1 : (a1_0 != 227) = true := bne_iff_ne.mpr c16
        have H' := Aside0.mk H
        clear H
        have hnb24 := NB151_152.out
        have hnc24 := NB152_151.out
        have hnb25 := NB151_153.out
        have hnc25 := NB153_151.out
        have hcz26_0 : wc.cell? ⟨gb151, 0, none⟩ = some (.int .i64 a1_0) := (blk_cell BK151.out 0).trans rfl
        have hcz26_1 : wc.cell? ⟨gb151, 1, none⟩ = some (.slice A1_1 l1_1.length c1_1) := (blk_cell BK151.out 1).trans rfl
        have hfz26_0 := blk_frozen BK151.out 0
        have hfz26_1 := blk_frozen BK151.out 1
        go_wp2
        go_meet
        case rel => exact ⟨_, (true), (by first | rfl | (simp; done) | (simp [*]; done)), H', ⟨by have := HJ3.out; first | omega | exact Nat.le_refl _⟩, ⟨by (with_reducible repeat (first | refine blk_drewN ?_ _ | refine blk_drew ?_ | refine blk_alloc ?_ _)); exact BK151.out⟩, ⟨by (with_reducible repeat (first | refine blk_drewN ?_ _ | refine blk_drew ?_ | refine blk_alloc ?_ _)); exact BK152.out⟩, ⟨by (with_reducible repeat (first | refine blk_drewN ?_ _ | refine blk_drew ?_ | refine blk_alloc ?_ _)); exact BK153.out⟩, ⟨by repeat (first | (with_reducible first | exact HB.out | apply below_alloc | apply pw_below_drewN | apply below_drew1 | refine below_set ?_ GE151.out | refine below_set ?_ GE152.out | refine below_set ?_ GE153.out) | exact HB.out)⟩⟩
      ·
       rw [if_neg c15] at H
       have c15b0 : (a0.toList == ([80, 65, 83, 86] : List UInt8)) = false := beq_eq_false_iff_ne.mpr c15
       have c15b1 : (a0.toList != ([80, 65, 83, 86] : List UInt8)) = true := bne_iff_ne.mpr c15
       by_cases c27 : a0.toList = ([69, 80, 83, 86] : List UInt8)
       ·
        rw [if_pos c27] at H
        have c27b0 : (a0.toList == ([69, 80, 83, 86] : List UInt8)) = true := beq_iff_eq.mpr c27
        have c27b1 : (a0.toList != ([69, 80, 83, 86] : List UInt8)) = false := bne_eq_false_iff_eq.mpr c27
        clear c27
        have H' := Aside0.mk H
        clear H
        have hnb28 := NB151_152.out
        have hnc28 := NB152_151.out
        have hnb29 := NB151_153.out
        have hnc29 := NB153_151.out
        have hcz30_0 : wc.cell? ⟨gb151, 0, none⟩ = some (.int .i64 a1_0) := (blk_cell BK151.out 0).trans rfl
        have hcz30_1 : wc.cell? ⟨gb151, 1, none⟩ = some (.slice A1_1 l1_1.length c1_1) := (blk_cell BK151.out 1).trans rfl
        have hfz30_0 := blk_frozen BK151.out 0
        have hfz30_1 := blk_frozen BK151.out 1
        go_wp2
        go_meet
        case rel => exact ⟨_, ((a1_0 != 229)), (by first | rfl | (simp; done) | (simp [*]; done)), H', ⟨by have := HJ3.out; first | omega | exact Nat.le_refl _⟩, ⟨by (with_reducible repeat (first | refine blk_drewN ?_ _ | refine blk_drew ?_ | refine blk_alloc ?_ _)); exact BK151.out⟩, ⟨by (with_reducible repeat (first | refine blk_drewN ?_ _ | refine blk_drew ?_ | refine blk_alloc ?_ _)); exact BK152.out⟩, ⟨by (with_reducible repeat (first | refine blk_drewN ?_ _ | refine blk_drew ?_ | refine blk_alloc ?_ _)); exact BK153.out⟩, ⟨by repeat (first | (with_reducible first | exact HB.out | apply below_alloc | apply pw_below_drewN | apply below_drew1 | refine below_set ?_ GE151.out | refine below_set ?_ GE152.out | refine below_set ?_ GE153.out) | exact HB.out)⟩⟩
       ·
        rw [if_neg c27] at H
        have c27b0 : (a0.toList == ([69, 80, 83, 86] : List UInt8)) = false := beq_eq_false_iff_ne.mpr c27
        have c27b1 : (a0.toList != ([69, 80, 83, 86] : List UInt8)) = true := bne_iff_ne.mpr c27
        have H' := Aside0.mk H
        clear H
        have hnb31 := NB151_152.out
        have hnc31 := NB152_151.out
        have hnb32 := NB151_153.out
        have hnc32 := NB153_151.out
        have hcz33_0 : wc.cell? ⟨gb151, 0, none⟩ = some (.int .i64 a1_0) := (blk_cell BK151.out 0).trans rfl
        have hcz33_1 : wc.cell? ⟨gb151, 1, none⟩ = some (.slice A1_1 l1_1.length c1_1) := (blk_cell BK151.out 1).trans rfl
        have hfz33_0 := blk_frozen BK151.out 0
        have hfz33_1 := blk_frozen BK151.out 1
        go_wp2
        go_meet
        case rel => exact ⟨_, (false), (by first | rfl | (simp; done) | (simp [*]; done)), H', ⟨by have := HJ3.out; first | omega | exact Nat.le_refl _⟩, ⟨by (with_reducible repeat (first | refine blk_drewN ?_ _ | refine blk_drew ?_ | refine blk_alloc ?_ _)); exact BK151.out⟩, ⟨by (with_reducible repeat (first | refine blk_drewN ?_ _ | refine blk_drew ?_ | refine blk_alloc ?_ _)); exact BK152.out⟩, ⟨by (with_reducible repeat (first | refine blk_drewN ?_ _ | refine blk_drew ?_ | refine blk_alloc ?_ _)); exact BK153.out⟩, ⟨by repeat (first | (with_reducible first | exact HB.out | apply below_alloc | apply pw_below_drewN | apply below_drew1 | refine below_set ?_ GE151.out | refine below_set ?_ GE152.out | refine below_set ?_ GE153.out) | exact HB.out)⟩⟩
     ·
      rw [if_neg c14] at H
      have c14b0 : ((l1_1.length : Int) == 1) = false := beq_eq_false_iff_ne.mpr c14
      have c14b1 : ((l1_1.length : Int) != 1) = true := bne_iff_ne.mpr c14
      (first | rw [c14b0] | (simp only [i64_w, i32_w]; rw [c14b0]) | skip)
      have H' := Aside0.mk H
      clear H
      have hnb34 := NB151_152.out
      have hnc34 := NB152_151.out
      have hnb35 := NB151_153.out
      have hnc35 := NB153_151.out
      have hcz36_0 : wc.cell? ⟨gb151, 0, none⟩ = some (.int .i64 a1_0) := (blk_cell BK151.out 0).trans rfl
      have hcz36_1 : wc.cell? ⟨gb151, 1, none⟩ = some (.slice A1_1 l1_1.length c1_1) := (blk_cell BK151.out 1).trans rfl
      have hfz36_0 := blk_frozen BK151.out 0
      have hfz36_1 := blk_frozen BK151.out 1
      go_wp2
      go_meet
      case rel => exact ⟨_, (true), (by first | rfl | (simp; done) | (simp [*]; done)), H', ⟨by have := HJ3.out; first | omega | exact Nat.le_refl _⟩, ⟨by (with_reducible repeat (first | refine blk_drewN ?_ _ | refine blk_drew ?_ | refine blk_alloc ?_ _)); exact BK151.out⟩, ⟨by (with_reducible repeat (first | refine blk_drewN ?_ _ | refine blk_drew ?_ | refine blk_alloc ?_ _)); exact BK152.out⟩, ⟨by (with_reducible repeat (first | refine blk_drewN ?_ _ | refine blk_drew ?_ | refine blk_alloc ?_ _)); exact BK153.out⟩, ⟨by repeat (first | (with_reducible first | exact HB.out | apply below_alloc | apply pw_below_drewN | apply below_drew1 | refine below_set ?_ GE151.out | refine below_set ?_ GE152.out | refine below_set ?_ GE153.out) | exact HB.out)⟩⟩
    case rest =>
     clear HC13
     try clear c1
     try clear c2
     try clear p2
     try clear c3
     try clear c8
     try clear c8b0
     try clear c8b1
     try clear c9
     try clear c10
     try clear c11
     try clear c14
     try clear c14b0
     try clear c14b1
     try clear c15
     try clear c15b0
     try clear c15b1
     try clear c16
     try clear c16b0
     try clear c16b1
     try clear c17
     try clear c17b0
     try clear c17b1
     try clear c18
     try clear c19
     try clear c21
     try clear c22
     try clear c24
     try clear c25
     try clear c27
     try clear c27b0
     try clear c27b1
     try clear c28
     try clear c29
     try clear c31
     try clear c32
     try clear c34
     try clear c35
     try clear hcz12_0
     try clear hcz12_1
     try clear hcz12_2
     try clear hcz12_3
     try clear hcz12_4
     try clear hcz20_0
     try clear hcz20_1
     try clear hcz23_0
     try clear hcz23_1
     try clear hcz26_0
     try clear hcz26_1
     try clear hcz30_0
     try clear hcz30_1
     try clear hcz33_0
     try clear hcz33_1
     try clear hcz36_0
     try clear hcz36_1
     try clear hfz12_0
     try clear hfz12_1
     try clear hfz12_2
     try clear hfz12_3
     try clear hfz12_4
     try clear hfz20_0
     try clear hfz20_1
     try clear hfz23_0
     try clear hfz23_1
     try clear hfz26_0
     try clear hfz26_1
     try clear hfz30_0
     try clear hfz30_1
     try clear hfz33_0
     try clear hfz33_1
     try clear hfz36_0
     try clear hfz36_1
     try clear p2
     obtain ⟨kq, x43_12, rfl, HA, HJ12, BK151, BK152, BK153, HB⟩ := hcut
     cases kq with
     | zero => exact absurd HA.out (by simp [wharfingerref19_Listen.j1])
     | succ kj12 =>
      have H := HA.out
      clear HA
      simp only [wharfingerref19_Listen.j1] at H
      by_cases c37 : x43_12 = true
      ·
       subst c37
       have H1 : (some (0, 0, 0, 0, 0, 2)) = some (r1, r2, r3, r4, r5, r6) := by rw [if_pos rfl] at H; exact H
       clear H
       have H := H1
       clear H1
       simp only [Option.some.injEq, Prod.mk.injEq] at H
       obtain ⟨rfl, rfl, rfl, rfl, rfl, rfl⟩ := H
       have hnb38 := NB153_151.out
       have hnc38 := NB151_153.out
       have hnb39 := NB153_152.out
       have hnc39 := NB152_153.out
       have hcz40_0 : wc.cell? ⟨gb153, 0, none⟩ = some (.int .u8 0) := (blk_cell BK153.out 0).trans rfl
       have hcz40_1 : wc.cell? ⟨gb153, 1, none⟩ = some (.int .u8 0) := (blk_cell BK153.out 1).trans rfl
       have hcz40_2 : wc.cell? ⟨gb153, 2, none⟩ = some (.int .u8 0) := (blk_cell BK153.out 2).trans rfl
       have hcz40_3 : wc.cell? ⟨gb153, 3, none⟩ = some (.int .u8 0) := (blk_cell BK153.out 3).trans rfl
       have hcz40_4 : wc.cell? ⟨gb153, 4, none⟩ = some (.int .i64 0) := (blk_cell BK153.out 4).trans rfl
       have hfz40_0 := blk_frozen BK153.out 0
       have hfz40_1 := blk_frozen BK153.out 1
       have hfz40_2 := blk_frozen BK153.out 2
       have hfz40_3 := blk_frozen BK153.out 3
       have hfz40_4 := blk_frozen BK153.out 4
       go_wp2
       refine bodyPost_ret (results_ct rfl _ _ gb153 30 #[.int .u8 0, .int .u8 0, .int .u8 0, .int .u8 0, .int .i64 0] (0, 0) _ rfl (by (with_reducible repeat (first | refine blk_drewN ?_ _ | refine blk_drew ?_ | refine blk_alloc ?_ _)); refine blk_put (cs := #[.int .u8 0, .int .u8 0, .int .u8 0, .int .u8 0, .int .i64 0]) ?_ 4 _ rfl; (with_reducible repeat (first | refine blk_drewN ?_ _ | refine blk_drew ?_ | refine blk_alloc ?_ _)); refine blk_put (cs := #[.int .u8 0, .int .u8 0, .int .u8 0, .int .u8 0, .int .i64 0]) ?_ 3 _ rfl; (with_reducible repeat (first | refine blk_drewN ?_ _ | refine blk_drew ?_ | refine blk_alloc ?_ _)); refine blk_put (cs := #[.int .u8 0, .int .u8 0, .int .u8 0, .int .u8 0, .int .i64 0]) ?_ 2 _ rfl; (with_reducible repeat (first | refine blk_drewN ?_ _ | refine blk_drew ?_ | refine blk_alloc ?_ _)); refine blk_put (cs := #[.int .u8 0, .int .u8 0, .int .u8 0, .int .u8 0, .int .i64 0]) ?_ 1 _ rfl; (with_reducible repeat (first | refine blk_drewN ?_ _ | refine blk_drew ?_ | refine blk_alloc ?_ _)); refine blk_put (cs := #[.int .u8 0, .int .u8 0, .int .u8 0, .int .u8 0, .int .i64 0]) ?_ 0 _ rfl; (with_reducible repeat (first | refine blk_drewN ?_ _ | refine blk_drew ?_ | refine blk_alloc ?_ _)); exact BK153.out) Tryz.underlying30 rfl (by kernel_rfl)) rfl ?_
       exact ⟨by first | rfl | (simp [errW_none, errW_some] <;> rfl) | (simp [*, errW_none, errW_some] <;> rfl), by repeat (first | (with_reducible first | exact HB.out | apply below_alloc | apply pw_below_drewN | apply below_drew1 | refine below_set ?_ GE151.out | refine below_set ?_ GE152.out | refine below_set ?_ GE153.out) | exact HB.out)⟩
      ·
       replace c37 := Bool.eq_false_iff.mpr c37
       subst c37
       have H1 : (if a0.toList = ([80, 65, 83, 86] : List UInt8) then (if 0 < (l1_1.length : Int) then ((wharfingerref03_Find.f (rdOf ByteArray.empty l1_1 0)).bind fun bt156 => (if bt156.2.2.2.2.2 = true then ((wharfingerref19_own.f bt156.1 bt156.2.1 bt156.2.2.1 bt156.2.2.2.1 bt156.2.2.2.2.1 a2_0 a2_1 a2_2 a2_3).bind fun bt163 => (some (bt163.1, bt163.2.1, bt163.2.2.1, bt163.2.2.2.1, bt163.2.2.2.2.1, bt163.2.2.2.2.2))) else (some (0, 0, 0, 0, 0, 2)))) else (none)) else (if 0 < (l1_1.length : Int) then ((wharfingerref04_Find.f (rdOf ByteArray.empty l1_1 0)).bind fun bt171 => (if bt171.2 = true then ((wharfingerref19_own.f a2_0 a2_1 a2_2 a2_3 bt171.1 a2_0 a2_1 a2_2 a2_3).bind fun bt173 => (some (bt173.1, bt173.2.1, bt173.2.2.1, bt173.2.2.2.1, bt173.2.2.2.2.1, bt173.2.2.2.2.2))) else (some (0, 0, 0, 0, 0, 2)))) else (none))) = some (r1, r2, r3, r4, r5, r6) := by rw [if_neg (show ¬ (false = true) by decide)] at H; exact H
       clear H
       have H := H1
       clear H1
       by_cases c41 : a0.toList = ([80, 65, 83, 86] : List UInt8)
       ·
        rw [if_pos c41] at H
        have c41b0 : (a0.toList == ([80, 65, 83, 86] : List UInt8)) = true := beq_iff_eq.mpr c41
        have c41b1 : (a0.toList != ([80, 65, 83, 86] : List UInt8)) = false := bne_eq_false_iff_eq.mpr c41
        clear c41
        by_cases c42 : 0 < (l1_1.length : Int)
        ·
         rw [if_pos c42] at H
         have c42b0 : decide (0 < (l1_1.length : Int)) = true := decide_eq_true c42
         have c42b1 : decide (0 < l1_1.length) = true := decide_eq_true (by omega)
         clear c42
         replace H := Option.bind_eq_some_iff.mp H
         obtain ⟨⟨t156, t157, t158, t159, t160, t161⟩, A430, H⟩ := H
         replace H : (if t161 = true then ((wharfingerref19_own.f t156 t157 t158 t159 t160 a2_0 a2_1 a2_2 a2_3).bind fun bt163 => (some (bt163.1, bt163.2.1, bt163.2.2.1, bt163.2.2.2.1, bt163.2.2.2.2.1, bt163.2.2.2.2.2))) else (some (0, 0, 0, 0, 0, 2))) = some (r1, r2, r3, r4, r5, r6) := H
         have A43 := Aside0.mk A430
         clear A430
         by_cases c44 : t161 = true
         ·
          subst c44
          have H1 : ((wharfingerref19_own.f t156 t157 t158 t159 t160 a2_0 a2_1 a2_2 a2_3).bind fun bt163 => (some (bt163.1, bt163.2.1, bt163.2.2.1, bt163.2.2.2.1, bt163.2.2.2.2.1, bt163.2.2.2.2.2))) = some (r1, r2, r3, r4, r5, r6) := by rw [if_pos rfl] at H; exact H
          clear H
          have H := H1
          clear H1
          replace H := Option.bind_eq_some_iff.mp H
          obtain ⟨⟨t163, t164, t165, t166, t167, t168⟩, A450, H⟩ := H
          replace H : (some (t163, t164, t165, t166, t167, t168)) = some (r1, r2, r3, r4, r5, r6) := H
          have A45 := Aside0.mk A450
          clear A450
          simp only [Option.some.injEq, Prod.mk.injEq] at H
          obtain ⟨rfl, rfl, rfl, rfl, rfl, rfl⟩ := H
          have hnb46 := NB152_151.out
          have hnc46 := NB151_152.out
          have hnb47 := NB152_153.out
          have hnc47 := NB153_152.out
          have hcz48_0 : wc.cell? ⟨gb152, 0, none⟩ = some (.int .u8 a2_0) := (blk_cell BK152.out 0).trans rfl
          have hcz48_1 : wc.cell? ⟨gb152, 1, none⟩ = some (.int .u8 a2_1) := (blk_cell BK152.out 1).trans rfl
          have hcz48_2 : wc.cell? ⟨gb152, 2, none⟩ = some (.int .u8 a2_2) := (blk_cell BK152.out 2).trans rfl
          have hcz48_3 : wc.cell? ⟨gb152, 3, none⟩ = some (.int .u8 a2_3) := (blk_cell BK152.out 3).trans rfl
          have hfz48_0 := blk_frozen BK152.out 0
          have hfz48_1 := blk_frozen BK152.out 1
          have hfz48_2 := blk_frozen BK152.out 2
          have hfz48_3 := blk_frozen BK152.out 3
          go_wp2_with (first | ((with_reducible refine gate_dst (N := 8) rfl ?_); refine box_event ?hg (N := 8) ?hd (cs := #[.int .u8 0, .int .u8 0, .int .u8 0, .int .u8 0, .int .i64 0]) (t := 30) ?hr ?_; (case hd => rfl); (case hg => rfl); (case hr => first | (go_simp; done) | (go_simp; rfl)); intro gb154 hg w49 hbox hb; have n0_ := Aside0.mk (blk_below (g := gb151) (o := .cells #[.int .i64 a1_0, .slice A1_1 l1_1.length c1_1] 26 (0, 0)) (by (with_reducible repeat (first | refine blk_drewN ?_ _ | refine blk_drew ?_ | refine blk_alloc ?_ _)); exact BK151.out) hb); have n1_ := Aside0.mk (blk_below (g := gb152) (o := .cells #[.int .u8 a2_0, .int .u8 a2_1, .int .u8 a2_2, .int .u8 a2_3] 28 (0, 0)) (by (with_reducible repeat (first | refine blk_drewN ?_ _ | refine blk_drew ?_ | refine blk_alloc ?_ _)); exact BK152.out) hb); have n2_ := Aside0.mk (blk_below (g := gb153) (o := .cells #[.int .u8 0, .int .u8 0, .int .u8 0, .int .u8 0, .int .i64 0] 30 (0, 0)) (by (with_reducible repeat (first | refine blk_drewN ?_ _ | refine blk_drew ?_ | refine blk_alloc ?_ _)); exact BK153.out) hb); have n3_ := Aside0.mk (below_step (by repeat (first | (with_reducible first | exact HB.out | apply below_alloc | apply pw_below_drewN | apply below_drew1 | refine below_set ?_ GE151.out | refine below_set ?_ GE152.out | refine below_set ?_ GE153.out) | exact HB.out)) hb); have n4_ := Aside0.mk (hbox); have n5_ := Aside0.mk ((by rw [hg]; exact (below_size (by repeat (first | (with_reducible first | exact HB.out | apply below_alloc | apply pw_below_drewN | apply below_drew1 | refine below_set ?_ GE151.out | refine below_set ?_ GE152.out | refine below_set ?_ GE153.out) | exact HB.out))) : w.heap.size ≤ gb154)); have n6_ := Aside0.mk ((by rw [hg]; exact (below_size (by repeat (first | (with_reducible first | exact HB.out | apply below_alloc | apply pw_below_drewN | apply below_drew1 | refine below_set ?_ GE151.out | refine below_set ?_ GE152.out | refine below_set ?_ GE153.out) | exact HB.out))) : w.heap.size ≤ gb154)); have n7_ := Aside0.mk ((by rw [hg]; exact Nat.ne_of_lt (blk_lt (g := gb151) (o := .cells #[.int .i64 a1_0, .slice A1_1 l1_1.length c1_1] 26 (0, 0)) (by (with_reducible repeat (first | refine blk_drewN ?_ _ | refine blk_drew ?_ | refine blk_alloc ?_ _)); exact BK151.out)) : gb151 ≠ gb154)); have n8_ := Aside0.mk ((by rw [hg]; exact Nat.ne_of_gt (blk_lt (g := gb151) (o := .cells #[.int .i64 a1_0, .slice A1_1 l1_1.length c1_1] 26 (0, 0)) (by (with_reducible repeat (first | refine blk_drewN ?_ _ | refine blk_drew ?_ | refine blk_alloc ?_ _)); exact BK151.out)) : gb154 ≠ gb151)); have n9_ := Aside0.mk ((by rw [hg]; exact Nat.ne_of_lt (blk_lt (g := gb152) (o := .cells #[.int .u8 a2_0, .int .u8 a2_1, .int .u8 a2_2, .int .u8 a2_3] 28 (0, 0)) (by (with_reducible repeat (first | refine blk_drewN ?_ _ | refine blk_drew ?_ | refine blk_alloc ?_ _)); exact BK152.out)) : gb152 ≠ gb154)); have n10_ := Aside0.mk ((by rw [hg]; exact Nat.ne_of_gt (blk_lt (g := gb152) (o := .cells #[.int .u8 a2_0, .int .u8 a2_1, .int .u8 a2_2, .int .u8 a2_3] 28 (0, 0)) (by (with_reducible repeat (first | refine blk_drewN ?_ _ | refine blk_drew ?_ | refine blk_alloc ?_ _)); exact BK152.out)) : gb154 ≠ gb152)); have n11_ := Aside0.mk ((by rw [hg]; exact Nat.ne_of_lt (blk_lt (g := gb153) (o := .cells #[.int .u8 0, .int .u8 0, .int .u8 0, .int .u8 0, .int .i64 0] 30 (0, 0)) (by (with_reducible repeat (first | refine blk_drewN ?_ _ | refine blk_drew ?_ | refine blk_alloc ?_ _)); exact BK153.out)) : gb153 ≠ gb154)); have n12_ := Aside0.mk ((by rw [hg]; exact Nat.ne_of_gt (blk_lt (g := gb153) (o := .cells #[.int .u8 0, .int .u8 0, .int .u8 0, .int .u8 0, .int .i64 0] 30 (0, 0)) (by (with_reducible repeat (first | refine blk_drewN ?_ _ | refine blk_drew ?_ | refine blk_alloc ?_ _)); exact BK153.out)) : gb154 ≠ gb153)); clear BK151; clear BK152; clear BK153; clear HB; have BK151 := n0_; have BK152 := n1_; have BK153 := n2_; have HB := n3_; have BK154 := n4_; have GW154 := n5_; have GE154 := n6_; have NB151_154 := n7_; have NB154_151 := n8_; have NB152_154 := n9_; have NB154_152 := n10_; have NB153_154 := n11_; have NB154_153 := n12_; clear n0_ n1_ n2_ n3_ n4_ n5_ n6_ n7_ n8_ n9_ n10_ n11_ n12_; clear hb hbox hg; have hnb50 := NB154_151.out; have hnc50 := NB151_154.out; have hnb51 := NB154_152.out; have hnc51 := NB152_154.out; have hnb52 := NB154_153.out; have hnc52 := NB153_154.out; obtain ⟨hcz53_0, hcz53_1, hcz53_2, hcz53_3, hcz53_4⟩ := cl_5 (.int .u8 0) (.int .u8 0) (.int .u8 0) (.int .u8 0) (.int .i64 0) BK154.out; obtain ⟨hfz53_0, hfz53_1, hfz53_2, hfz53_3, hfz53_4⟩ := fz_5 BK154.out; have hnb54 := NB151_153.out; have hnc54 := NB153_151.out; obtain ⟨hcz55_0, hcz55_1⟩ := cl_2 (.int .i64 a1_0) (.slice A1_1 l1_1.length c1_1) BK151.out; obtain ⟨hfz55_0, hfz55_1⟩ := fz_2 BK151.out; have p155 : 0 ≤ (0 : Int) := (by omega); have q155 : 0 < (l1_1.length : Int) := of_decide_eq_true (by first | (with_reducible assumption) | assumption); obtain ⟨ad155, e155, hx155_0⟩ := Kd.at_string HR1_1.out 0 p155 q155; cases e155; have qi155 : (0 < l1_1.length) = True := eq_true (by omega); (try rw [show ((0 : Int)).toNat = 0 from rfl] at hx155_0); (try rw [Addr.add_zero'] at hx155_0); have hn155_0 : ad155.block ≠ gb154 := Nat.ne_of_lt (Nat.lt_of_lt_of_le (by have := World.block_lt_of_cell? _ _ hx155_0; first | rwa [add_block] at this | exact this) GW154.out); have hn155_1 : ad155.block ≠ gb154 := Nat.ne_of_lt (Nat.lt_of_lt_of_le (by have := World.block_lt_of_cell? _ _ hx155_0; first | rwa [add_block] at this | exact this) GW154.out); have hn155_2 : ad155.block ≠ gb154 := Nat.ne_of_lt (Nat.lt_of_lt_of_le (by have := World.block_lt_of_cell? _ _ hx155_0; first | rwa [add_block] at this | exact this) GW154.out); have hn155_3 : ad155.block ≠ gb154 := Nat.ne_of_lt (Nat.lt_of_lt_of_le (by have := World.block_lt_of_cell? _ _ hx155_0; first | rwa [add_block] at this | exact this) GW154.out); have hn155_4 : ad155.block ≠ gb154 := Nat.ne_of_lt (Nat.lt_of_lt_of_le (by have := World.block_lt_of_cell? _ _ hx155_0; first | rwa [add_block] at this | exact this) GW154.out); replace hx155_0 := (HB.out.cell (World.block_lt_of_cell? w _ hx155_0)).trans hx155_0; replace hx155_0 := (cell_far (p := ⟨gb154, 0, none⟩) (by first | (rw [add_block]; exact hn155_0) | (show (Addr.add _ _).block ≠ _; rw [add_block]; exact hn155_0) | exact hn155_0) (.int .u8 a2_0)).trans hx155_0; replace hx155_0 := (cell_far (p := ⟨gb154, 1, none⟩) (by first | (rw [add_block]; exact hn155_1) | (show (Addr.add _ _).block ≠ _; rw [add_block]; exact hn155_1) | exact hn155_1) (.int .u8 a2_1)).trans hx155_0; replace hx155_0 := (cell_far (p := ⟨gb154, 2, none⟩) (by first | (rw [add_block]; exact hn155_2) | (show (Addr.add _ _).block ≠ _; rw [add_block]; exact hn155_2) | exact hn155_2) (.int .u8 a2_2)).trans hx155_0; replace hx155_0 := (cell_far (p := ⟨gb154, 3, none⟩) (by first | (rw [add_block]; exact hn155_3) | (show (Addr.add _ _).block ≠ _; rw [add_block]; exact hn155_3) | exact hn155_3) (.int .u8 a2_3)).trans hx155_0; replace hx155_0 := (cell_far (p := ⟨gb154, 4, none⟩) (by first | (rw [add_block]; exact hn155_4) | (show (Addr.add _ _).block ≠ _; rw [add_block]; exact hn155_4) | exact hn155_4) (.int .i64 0)).trans hx155_0; clear hn155_0; clear hn155_1; clear hn155_2; clear hn155_3; clear hn155_4; replace p155 := eq_true p155; replace q155 := eq_true q155) | ((with_reducible refine gate_callee (f := 24) rfl ?_); refine goesL_ (some 54) rfl rfl Tryz.func24 (by kernel_rfl) rfl #[.string (rdOf ByteArray.empty l1_1 0)] rfl (by (try simp only [List.map_toArray, List.map_cons, List.map_nil]); first | done | rfl | (simp only [List.length_drop, List.length_take]; rfl)) ?_; (with_reducible refine (wharfingerref03_Find.calls (rdOf ByteArray.empty l1_1 0) t156 t157 t158 t159 t160 true _ A43.out).mono ?_); rintro e w56 ⟨rfl, hb⟩; refine ⟨_, rfl, ?_⟩; have n0_ := Aside0.mk (blk_below (g := gb151) (o := .cells #[.int .i64 a1_0, .slice (some ad155) l1_1.length c1_1] 26 (0, 0)) (by (iterate 5 ((with_reducible repeat (first | refine blk_drewN ?_ _ | refine blk_drew ?_ | refine blk_alloc ?_ _)); refine blk_far ?_ NB151_154.out _)); (with_reducible repeat (first | refine blk_drewN ?_ _ | refine blk_drew ?_ | refine blk_alloc ?_ _)); exact BK151.out) hb); have n1_ := Aside0.mk (blk_below (g := gb152) (o := .cells #[.int .u8 a2_0, .int .u8 a2_1, .int .u8 a2_2, .int .u8 a2_3] 28 (0, 0)) (by (iterate 5 ((with_reducible repeat (first | refine blk_drewN ?_ _ | refine blk_drew ?_ | refine blk_alloc ?_ _)); refine blk_far ?_ NB152_154.out _)); (with_reducible repeat (first | refine blk_drewN ?_ _ | refine blk_drew ?_ | refine blk_alloc ?_ _)); exact BK152.out) hb); have n2_ := Aside0.mk (blk_below (g := gb153) (o := .cells #[.int .u8 0, .int .u8 0, .int .u8 0, .int .u8 0, .int .i64 0] 30 (0, 0)) (by (iterate 5 ((with_reducible repeat (first | refine blk_drewN ?_ _ | refine blk_drew ?_ | refine blk_alloc ?_ _)); refine blk_far ?_ NB153_154.out _)); (with_reducible repeat (first | refine blk_drewN ?_ _ | refine blk_drew ?_ | refine blk_alloc ?_ _)); exact BK153.out) hb); have n3_ := Aside0.mk (blk_below (g := gb154) (o := .cells #[.int .u8 a2_0, .int .u8 a2_1, .int .u8 a2_2, .int .u8 a2_3, .int .i64 0] 30 (0, 0)) (by (with_reducible repeat (first | refine blk_drewN ?_ _ | refine blk_drew ?_ | refine blk_alloc ?_ _)); refine blk_put (cs := #[.int .u8 a2_0, .int .u8 a2_1, .int .u8 a2_2, .int .u8 a2_3, .int .i64 0]) ?_ 4 _ rfl; (with_reducible repeat (first | refine blk_drewN ?_ _ | refine blk_drew ?_ | refine blk_alloc ?_ _)); refine blk_put (cs := #[.int .u8 a2_0, .int .u8 a2_1, .int .u8 a2_2, .int .u8 0, .int .i64 0]) ?_ 3 _ rfl; (with_reducible repeat (first | refine blk_drewN ?_ _ | refine blk_drew ?_ | refine blk_alloc ?_ _)); refine blk_put (cs := #[.int .u8 a2_0, .int .u8 a2_1, .int .u8 0, .int .u8 0, .int .i64 0]) ?_ 2 _ rfl; (with_reducible repeat (first | refine blk_drewN ?_ _ | refine blk_drew ?_ | refine blk_alloc ?_ _)); refine blk_put (cs := #[.int .u8 a2_0, .int .u8 0, .int .u8 0, .int .u8 0, .int .i64 0]) ?_ 1 _ rfl; (with_reducible repeat (first | refine blk_drewN ?_ _ | refine blk_drew ?_ | refine blk_alloc ?_ _)); refine blk_put (cs := #[.int .u8 0, .int .u8 0, .int .u8 0, .int .u8 0, .int .i64 0]) ?_ 0 _ rfl; (with_reducible repeat (first | refine blk_drewN ?_ _ | refine blk_drew ?_ | refine blk_alloc ?_ _)); exact BK154.out) hb); have n4_ := Aside0.mk (below_step (by repeat (first | (with_reducible first | exact HB.out | apply below_alloc | apply pw_below_drewN | apply below_drew1 | refine below_set ?_ GE151.out | refine below_set ?_ GE152.out | refine below_set ?_ GE153.out | refine below_set ?_ GE154.out) | exact HB.out)) hb); clear BK151; clear BK152; clear BK153; clear BK154; clear HB; have BK151 := n0_; have BK152 := n1_; have BK153 := n2_; have BK154 := n3_; have HB := n4_; clear n0_ n1_ n2_ n3_ n4_; (try clear hb); (try clear hb2); (try clear hk); (try clear hi)) | ((with_reducible refine gate_dst (N := 9) rfl ?_); refine box_event ?hg (N := 9) ?hd (cs := #[.int .u8 0, .int .u8 0, .int .u8 0, .int .u8 0, .int .i64 0]) (t := 30) ?hr ?_; (case hd => rfl); (case hg => rfl); (case hr => first | (go_simp; done) | (go_simp; rfl)); intro gb162 hg w57 hbox hb; have n0_ := Aside0.mk (blk_below (g := gb151) (o := .cells #[.int .i64 a1_0, .slice (some ad155) l1_1.length c1_1] 26 (0, 0)) (by (with_reducible repeat (first | refine blk_drewN ?_ _ | refine blk_drew ?_ | refine blk_alloc ?_ _)); exact BK151.out) hb); have n1_ := Aside0.mk (blk_below (g := gb152) (o := .cells #[.int .u8 a2_0, .int .u8 a2_1, .int .u8 a2_2, .int .u8 a2_3] 28 (0, 0)) (by (with_reducible repeat (first | refine blk_drewN ?_ _ | refine blk_drew ?_ | refine blk_alloc ?_ _)); exact BK152.out) hb); have n2_ := Aside0.mk (blk_below (g := gb153) (o := .cells #[.int .u8 0, .int .u8 0, .int .u8 0, .int .u8 0, .int .i64 0] 30 (0, 0)) (by (with_reducible repeat (first | refine blk_drewN ?_ _ | refine blk_drew ?_ | refine blk_alloc ?_ _)); exact BK153.out) hb); have n3_ := Aside0.mk (blk_below (g := gb154) (o := .cells #[.int .u8 a2_0, .int .u8 a2_1, .int .u8 a2_2, .int .u8 a2_3, .int .i64 0] 30 (0, 0)) (by (with_reducible repeat (first | refine blk_drewN ?_ _ | refine blk_drew ?_ | refine blk_alloc ?_ _)); exact BK154.out) hb); have n4_ := Aside0.mk (below_step (by repeat (first | (with_reducible first | exact HB.out | apply below_alloc | apply pw_below_drewN | apply below_drew1 | refine below_set ?_ GE151.out | refine below_set ?_ GE152.out | refine below_set ?_ GE153.out | refine below_set ?_ GE154.out) | exact HB.out)) hb); have n5_ := Aside0.mk (hbox); have n6_ := Aside0.mk ((by rw [hg]; exact (below_size (by repeat (first | (with_reducible first | exact HB.out | apply below_alloc | apply pw_below_drewN | apply below_drew1 | refine below_set ?_ GE151.out | refine below_set ?_ GE152.out | refine below_set ?_ GE153.out | refine below_set ?_ GE154.out) | exact HB.out))) : w.heap.size ≤ gb162)); have n7_ := Aside0.mk ((by rw [hg]; exact (below_size (by repeat (first | (with_reducible first | exact HB.out | apply below_alloc | apply pw_below_drewN | apply below_drew1 | refine below_set ?_ GE151.out | refine below_set ?_ GE152.out | refine below_set ?_ GE153.out | refine below_set ?_ GE154.out) | exact HB.out))) : w.heap.size ≤ gb162)); have n8_ := Aside0.mk ((by rw [hg]; exact Nat.ne_of_lt (blk_lt (g := gb151) (o := .cells #[.int .i64 a1_0, .slice (some ad155) l1_1.length c1_1] 26 (0, 0)) (by (with_reducible repeat (first | refine blk_drewN ?_ _ | refine blk_drew ?_ | refine blk_alloc ?_ _)); exact BK151.out)) : gb151 ≠ gb162)); have n9_ := Aside0.mk ((by rw [hg]; exact Nat.ne_of_gt (blk_lt (g := gb151) (o := .cells #[.int .i64 a1_0, .slice (some ad155) l1_1.length c1_1] 26 (0, 0)) (by (with_reducible repeat (first | refine blk_drewN ?_ _ | refine blk_drew ?_ | refine blk_alloc ?_ _)); exact BK151.out)) : gb162 ≠ gb151)); have n10_ := Aside0.mk ((by rw [hg]; exact Nat.ne_of_lt (blk_lt (g := gb152) (o := .cells #[.int .u8 a2_0, .int .u8 a2_1, .int .u8 a2_2, .int .u8 a2_3] 28 (0, 0)) (by (with_reducible repeat (first | refine blk_drewN ?_ _ | refine blk_drew ?_ | refine blk_alloc ?_ _)); exact BK152.out)) : gb152 ≠ gb162)); have n11_ := Aside0.mk ((by rw [hg]; exact Nat.ne_of_gt (blk_lt (g := gb152) (o := .cells #[.int .u8 a2_0, .int .u8 a2_1, .int .u8 a2_2, .int .u8 a2_3] 28 (0, 0)) (by (with_reducible repeat (first | refine blk_drewN ?_ _ | refine blk_drew ?_ | refine blk_alloc ?_ _)); exact BK152.out)) : gb162 ≠ gb152)); have n12_ := Aside0.mk ((by rw [hg]; exact Nat.ne_of_lt (blk_lt (g := gb153) (o := .cells #[.int .u8 0, .int .u8 0, .int .u8 0, .int .u8 0, .int .i64 0] 30 (0, 0)) (by (with_reducible repeat (first | refine blk_drewN ?_ _ | refine blk_drew ?_ | refine blk_alloc ?_ _)); exact BK153.out)) : gb153 ≠ gb162)); have n13_ := Aside0.mk ((by rw [hg]; exact Nat.ne_of_gt (blk_lt (g := gb153) (o := .cells #[.int .u8 0, .int .u8 0, .int .u8 0, .int .u8 0, .int .i64 0] 30 (0, 0)) (by (with_reducible repeat (first | refine blk_drewN ?_ _ | refine blk_drew ?_ | refine blk_alloc ?_ _)); exact BK153.out)) : gb162 ≠ gb153)); have n14_ := Aside0.mk ((by rw [hg]; exact Nat.ne_of_lt (blk_lt (g := gb154) (o := .cells #[.int .u8 a2_0, .int .u8 a2_1, .int .u8 a2_2, .int .u8 a2_3, .int .i64 0] 30 (0, 0)) (by (with_reducible repeat (first | refine blk_drewN ?_ _ | refine blk_drew ?_ | refine blk_alloc ?_ _)); exact BK154.out)) : gb154 ≠ gb162)); have n15_ := Aside0.mk ((by rw [hg]; exact Nat.ne_of_gt (blk_lt (g := gb154) (o := .cells #[.int .u8 a2_0, .int .u8 a2_1, .int .u8 a2_2, .int .u8 a2_3, .int .i64 0] 30 (0, 0)) (by (with_reducible repeat (first | refine blk_drewN ?_ _ | refine blk_drew ?_ | refine blk_alloc ?_ _)); exact BK154.out)) : gb162 ≠ gb154)); clear BK151; clear BK152; clear BK153; clear BK154; clear HB; have BK151 := n0_; have BK152 := n1_; have BK153 := n2_; have BK154 := n3_; have HB := n4_; have BK162 := n5_; have GW162 := n6_; have GE162 := n7_; have NB151_162 := n8_; have NB162_151 := n9_; have NB152_162 := n10_; have NB162_152 := n11_; have NB153_162 := n12_; have NB162_153 := n13_; have NB154_162 := n14_; have NB162_154 := n15_; clear n0_ n1_ n2_ n3_ n4_ n5_ n6_ n7_ n8_ n9_ n10_ n11_ n12_ n13_ n14_ n15_; clear hb hbox hg; have hnb58 := NB162_151.out; have hnc58 := NB151_162.out; have hnb59 := NB162_152.out; have hnc59 := NB152_162.out; have hnb60 := NB162_153.out; have hnc60 := NB153_162.out; have hnb61 := NB162_154.out; have hnc61 := NB154_162.out; obtain ⟨hcz62_0, hcz62_1, hcz62_2, hcz62_3, hcz62_4⟩ := cl_5 (.int .u8 0) (.int .u8 0) (.int .u8 0) (.int .u8 0) (.int .i64 0) BK162.out; obtain ⟨hfz62_0, hfz62_1, hfz62_2, hfz62_3, hfz62_4⟩ := fz_5 BK162.out; obtain ⟨hcz63_0, hcz63_1, hcz63_2, hcz63_3, hcz63_4⟩ := cl_5 (.int .u8 a2_0) (.int .u8 a2_1) (.int .u8 a2_2) (.int .u8 a2_3) (.int .i64 0) BK154.out; obtain ⟨hfz63_0, hfz63_1, hfz63_2, hfz63_3, hfz63_4⟩ := fz_5 BK154.out; obtain ⟨hcz64_0, hcz64_1, hcz64_2, hcz64_3⟩ := cl_4 (.int .u8 a2_0) (.int .u8 a2_1) (.int .u8 a2_2) (.int .u8 a2_3) BK152.out; obtain ⟨hfz64_0, hfz64_1, hfz64_2, hfz64_3⟩ := fz_4 BK152.out) | ((with_reducible refine gate_callee (f := 21) rfl ?_); refine goesL_ (some 77) rfl rfl Tryz.func21 (by kernel_rfl) rfl #[.agg #[.int .u8 t156, .int .u8 t157, .int .u8 t158, .int .u8 t159, .int .i64 t160], .agg #[.int .u8 a2_0, .int .u8 a2_1, .int .u8 a2_2, .int .u8 a2_3]] rfl (by (try simp only [List.map_toArray, List.map_cons, List.map_nil]); first | done | rfl | (simp only [List.length_drop, List.length_take]; rfl)) ?_; (with_reducible refine (wharfingerref19_own.calls t156 t157 t158 t159 t160 a2_0 a2_1 a2_2 a2_3 t163 t164 t165 t166 t167 t168 _ A45.out).mono ?_); rintro e w65 ⟨rfl, hb⟩; refine ⟨_, rfl, ?_⟩; have n0_ := Aside0.mk (blk_below (g := gb151) (o := .cells #[.int .i64 a1_0, .slice (some ad155) l1_1.length c1_1] 26 (0, 0)) (by (iterate 5 ((with_reducible repeat (first | refine blk_drewN ?_ _ | refine blk_drew ?_ | refine blk_alloc ?_ _)); refine blk_far ?_ NB151_154.out _)); (iterate 5 ((with_reducible repeat (first | refine blk_drewN ?_ _ | refine blk_drew ?_ | refine blk_alloc ?_ _)); refine blk_far ?_ NB151_162.out _)); (with_reducible repeat (first | refine blk_drewN ?_ _ | refine blk_drew ?_ | refine blk_alloc ?_ _)); exact BK151.out) hb); have n1_ := Aside0.mk (blk_below (g := gb152) (o := .cells #[.int .u8 a2_0, .int .u8 a2_1, .int .u8 a2_2, .int .u8 a2_3] 28 (0, 0)) (by (iterate 5 ((with_reducible repeat (first | refine blk_drewN ?_ _ | refine blk_drew ?_ | refine blk_alloc ?_ _)); refine blk_far ?_ NB152_154.out _)); (iterate 5 ((with_reducible repeat (first | refine blk_drewN ?_ _ | refine blk_drew ?_ | refine blk_alloc ?_ _)); refine blk_far ?_ NB152_162.out _)); (with_reducible repeat (first | refine blk_drewN ?_ _ | refine blk_drew ?_ | refine blk_alloc ?_ _)); exact BK152.out) hb); have n2_ := Aside0.mk (blk_below (g := gb153) (o := .cells #[.int .u8 0, .int .u8 0, .int .u8 0, .int .u8 0, .int .i64 0] 30 (0, 0)) (by (iterate 5 ((with_reducible repeat (first | refine blk_drewN ?_ _ | refine blk_drew ?_ | refine blk_alloc ?_ _)); refine blk_far ?_ NB153_154.out _)); (iterate 5 ((with_reducible repeat (first | refine blk_drewN ?_ _ | refine blk_drew ?_ | refine blk_alloc ?_ _)); refine blk_far ?_ NB153_162.out _)); (with_reducible repeat (first | refine blk_drewN ?_ _ | refine blk_drew ?_ | refine blk_alloc ?_ _)); exact BK153.out) hb); have n3_ := Aside0.mk (blk_below (g := gb154) (o := .cells #[.int .u8 t156, .int .u8 t157, .int .u8 t158, .int .u8 t159, .int .i64 t160] 30 (0, 0)) (by (with_reducible repeat (first | refine blk_drewN ?_ _ | refine blk_drew ?_ | refine blk_alloc ?_ _)); refine blk_put (cs := #[.int .u8 t156, .int .u8 t157, .int .u8 t158, .int .u8 t159, .int .i64 0]) ?_ 4 _ rfl; (with_reducible repeat (first | refine blk_drewN ?_ _ | refine blk_drew ?_ | refine blk_alloc ?_ _)); refine blk_put (cs := #[.int .u8 t156, .int .u8 t157, .int .u8 t158, .int .u8 a2_3, .int .i64 0]) ?_ 3 _ rfl; (with_reducible repeat (first | refine blk_drewN ?_ _ | refine blk_drew ?_ | refine blk_alloc ?_ _)); refine blk_put (cs := #[.int .u8 t156, .int .u8 t157, .int .u8 a2_2, .int .u8 a2_3, .int .i64 0]) ?_ 2 _ rfl; (with_reducible repeat (first | refine blk_drewN ?_ _ | refine blk_drew ?_ | refine blk_alloc ?_ _)); refine blk_put (cs := #[.int .u8 t156, .int .u8 a2_1, .int .u8 a2_2, .int .u8 a2_3, .int .i64 0]) ?_ 1 _ rfl; (with_reducible repeat (first | refine blk_drewN ?_ _ | refine blk_drew ?_ | refine blk_alloc ?_ _)); refine blk_put (cs := #[.int .u8 a2_0, .int .u8 a2_1, .int .u8 a2_2, .int .u8 a2_3, .int .i64 0]) ?_ 0 _ rfl; (iterate 5 ((with_reducible repeat (first | refine blk_drewN ?_ _ | refine blk_drew ?_ | refine blk_alloc ?_ _)); refine blk_far ?_ NB154_162.out _)); (with_reducible repeat (first | refine blk_drewN ?_ _ | refine blk_drew ?_ | refine blk_alloc ?_ _)); exact BK154.out) hb); have n4_ := Aside0.mk (blk_below (g := gb162) (o := .cells #[.int .u8 t156, .int .u8 t157, .int .u8 t158, .int .u8 t159, .int .i64 t160] 30 (0, 0)) (by (iterate 5 ((with_reducible repeat (first | refine blk_drewN ?_ _ | refine blk_drew ?_ | refine blk_alloc ?_ _)); refine blk_far ?_ NB162_154.out _)); (with_reducible repeat (first | refine blk_drewN ?_ _ | refine blk_drew ?_ | refine blk_alloc ?_ _)); refine blk_put (cs := #[.int .u8 t156, .int .u8 t157, .int .u8 t158, .int .u8 t159, .int .i64 0]) ?_ 4 _ rfl; (with_reducible repeat (first | refine blk_drewN ?_ _ | refine blk_drew ?_ | refine blk_alloc ?_ _)); refine blk_put (cs := #[.int .u8 t156, .int .u8 t157, .int .u8 t158, .int .u8 0, .int .i64 0]) ?_ 3 _ rfl; (with_reducible repeat (first | refine blk_drewN ?_ _ | refine blk_drew ?_ | refine blk_alloc ?_ _)); refine blk_put (cs := #[.int .u8 t156, .int .u8 t157, .int .u8 0, .int .u8 0, .int .i64 0]) ?_ 2 _ rfl; (with_reducible repeat (first | refine blk_drewN ?_ _ | refine blk_drew ?_ | refine blk_alloc ?_ _)); refine blk_put (cs := #[.int .u8 t156, .int .u8 0, .int .u8 0, .int .u8 0, .int .i64 0]) ?_ 1 _ rfl; (with_reducible repeat (first | refine blk_drewN ?_ _ | refine blk_drew ?_ | refine blk_alloc ?_ _)); refine blk_put (cs := #[.int .u8 0, .int .u8 0, .int .u8 0, .int .u8 0, .int .i64 0]) ?_ 0 _ rfl; (with_reducible repeat (first | refine blk_drewN ?_ _ | refine blk_drew ?_ | refine blk_alloc ?_ _)); exact BK162.out) hb); have n5_ := Aside0.mk (below_step (by repeat (first | (with_reducible first | exact HB.out | apply below_alloc | apply pw_below_drewN | apply below_drew1 | refine below_set ?_ GE151.out | refine below_set ?_ GE152.out | refine below_set ?_ GE153.out | refine below_set ?_ GE154.out | refine below_set ?_ GE162.out) | exact HB.out)) hb); clear BK151; clear BK152; clear BK153; clear BK154; clear BK162; clear HB; have BK151 := n0_; have BK152 := n1_; have BK153 := n2_; have BK154 := n3_; have BK162 := n4_; have HB := n5_; clear n0_ n1_ n2_ n3_ n4_ n5_; (try clear hb); (try clear hb2); (try clear hk); (try clear hi)) | ((with_reducible refine gate_dst (N := 13) rfl ?_); refine box_event ?hg (N := 13) ?hd (cs := #[.int .u8 0, .int .u8 0, .int .u8 0, .int .u8 0, .int .i64 0]) (t := 30) ?hr ?_; (case hd => rfl); (case hg => rfl); (case hr => first | (go_simp; done) | (go_simp; rfl)); intro gb169 hg w66 hbox hb; have n0_ := Aside0.mk (blk_below (g := gb151) (o := .cells #[.int .i64 a1_0, .slice (some ad155) l1_1.length c1_1] 26 (0, 0)) (by (with_reducible repeat (first | refine blk_drewN ?_ _ | refine blk_drew ?_ | refine blk_alloc ?_ _)); exact BK151.out) hb); have n1_ := Aside0.mk (blk_below (g := gb152) (o := .cells #[.int .u8 a2_0, .int .u8 a2_1, .int .u8 a2_2, .int .u8 a2_3] 28 (0, 0)) (by (with_reducible repeat (first | refine blk_drewN ?_ _ | refine blk_drew ?_ | refine blk_alloc ?_ _)); exact BK152.out) hb); have n2_ := Aside0.mk (blk_below (g := gb153) (o := .cells #[.int .u8 0, .int .u8 0, .int .u8 0, .int .u8 0, .int .i64 0] 30 (0, 0)) (by (with_reducible repeat (first | refine blk_drewN ?_ _ | refine blk_drew ?_ | refine blk_alloc ?_ _)); exact BK153.out) hb); have n3_ := Aside0.mk (blk_below (g := gb154) (o := .cells #[.int .u8 t156, .int .u8 t157, .int .u8 t158, .int .u8 t159, .int .i64 t160] 30 (0, 0)) (by (with_reducible repeat (first | refine blk_drewN ?_ _ | refine blk_drew ?_ | refine blk_alloc ?_ _)); exact BK154.out) hb); have n4_ := Aside0.mk (blk_below (g := gb162) (o := .cells #[.int .u8 t156, .int .u8 t157, .int .u8 t158, .int .u8 t159, .int .i64 t160] 30 (0, 0)) (by (with_reducible repeat (first | refine blk_drewN ?_ _ | refine blk_drew ?_ | refine blk_alloc ?_ _)); exact BK162.out) hb); have n5_ := Aside0.mk (below_step (by repeat (first | (with_reducible first | exact HB.out | apply below_alloc | apply pw_below_drewN | apply below_drew1 | refine below_set ?_ GE151.out | refine below_set ?_ GE152.out | refine below_set ?_ GE153.out | refine below_set ?_ GE154.out | refine below_set ?_ GE162.out) | exact HB.out)) hb); have n6_ := Aside0.mk (hbox); have n7_ := Aside0.mk ((by rw [hg]; exact (below_size (by repeat (first | (with_reducible first | exact HB.out | apply below_alloc | apply pw_below_drewN | apply below_drew1 | refine below_set ?_ GE151.out | refine below_set ?_ GE152.out | refine below_set ?_ GE153.out | refine below_set ?_ GE154.out | refine below_set ?_ GE162.out) | exact HB.out))) : w.heap.size ≤ gb169)); have n8_ := Aside0.mk ((by rw [hg]; exact (below_size (by repeat (first | (with_reducible first | exact HB.out | apply below_alloc | apply pw_below_drewN | apply below_drew1 | refine below_set ?_ GE151.out | refine below_set ?_ GE152.out | refine below_set ?_ GE153.out | refine below_set ?_ GE154.out | refine below_set ?_ GE162.out) | exact HB.out))) : w.heap.size ≤ gb169)); have n9_ := Aside0.mk ((by rw [hg]; exact Nat.ne_of_lt (blk_lt (g := gb151) (o := .cells #[.int .i64 a1_0, .slice (some ad155) l1_1.length c1_1] 26 (0, 0)) (by (with_reducible repeat (first | refine blk_drewN ?_ _ | refine blk_drew ?_ | refine blk_alloc ?_ _)); exact BK151.out)) : gb151 ≠ gb169)); have n10_ := Aside0.mk ((by rw [hg]; exact Nat.ne_of_gt (blk_lt (g := gb151) (o := .cells #[.int .i64 a1_0, .slice (some ad155) l1_1.length c1_1] 26 (0, 0)) (by (with_reducible repeat (first | refine blk_drewN ?_ _ | refine blk_drew ?_ | refine blk_alloc ?_ _)); exact BK151.out)) : gb169 ≠ gb151)); have n11_ := Aside0.mk ((by rw [hg]; exact Nat.ne_of_lt (blk_lt (g := gb152) (o := .cells #[.int .u8 a2_0, .int .u8 a2_1, .int .u8 a2_2, .int .u8 a2_3] 28 (0, 0)) (by (with_reducible repeat (first | refine blk_drewN ?_ _ | refine blk_drew ?_ | refine blk_alloc ?_ _)); exact BK152.out)) : gb152 ≠ gb169)); have n12_ := Aside0.mk ((by rw [hg]; exact Nat.ne_of_gt (blk_lt (g := gb152) (o := .cells #[.int .u8 a2_0, .int .u8 a2_1, .int .u8 a2_2, .int .u8 a2_3] 28 (0, 0)) (by (with_reducible repeat (first | refine blk_drewN ?_ _ | refine blk_drew ?_ | refine blk_alloc ?_ _)); exact BK152.out)) : gb169 ≠ gb152)); have n13_ := Aside0.mk ((by rw [hg]; exact Nat.ne_of_lt (blk_lt (g := gb153) (o := .cells #[.int .u8 0, .int .u8 0, .int .u8 0, .int .u8 0, .int .i64 0] 30 (0, 0)) (by (with_reducible repeat (first | refine blk_drewN ?_ _ | refine blk_drew ?_ | refine blk_alloc ?_ _)); exact BK153.out)) : gb153 ≠ gb169)); have n14_ := Aside0.mk ((by rw [hg]; exact Nat.ne_of_gt (blk_lt (g := gb153) (o := .cells #[.int .u8 0, .int .u8 0, .int .u8 0, .int .u8 0, .int .i64 0] 30 (0, 0)) (by (with_reducible repeat (first | refine blk_drewN ?_ _ | refine blk_drew ?_ | refine blk_alloc ?_ _)); exact BK153.out)) : gb169 ≠ gb153)); have n15_ := Aside0.mk ((by rw [hg]; exact Nat.ne_of_lt (blk_lt (g := gb154) (o := .cells #[.int .u8 t156, .int .u8 t157, .int .u8 t158, .int .u8 t159, .int .i64 t160] 30 (0, 0)) (by (with_reducible repeat (first | refine blk_drewN ?_ _ | refine blk_drew ?_ | refine blk_alloc ?_ _)); exact BK154.out)) : gb154 ≠ gb169)); have n16_ := Aside0.mk ((by rw [hg]; exact Nat.ne_of_gt (blk_lt (g := gb154) (o := .cells #[.int .u8 t156, .int .u8 t157, .int .u8 t158, .int .u8 t159, .int .i64 t160] 30 (0, 0)) (by (with_reducible repeat (first | refine blk_drewN ?_ _ | refine blk_drew ?_ | refine blk_alloc ?_ _)); exact BK154.out)) : gb169 ≠ gb154)); have n17_ := Aside0.mk ((by rw [hg]; exact Nat.ne_of_lt (blk_lt (g := gb162) (o := .cells #[.int .u8 t156, .int .u8 t157, .int .u8 t158, .int .u8 t159, .int .i64 t160] 30 (0, 0)) (by (with_reducible repeat (first | refine blk_drewN ?_ _ | refine blk_drew ?_ | refine blk_alloc ?_ _)); exact BK162.out)) : gb162 ≠ gb169)); have n18_ := Aside0.mk ((by rw [hg]; exact Nat.ne_of_gt (blk_lt (g := gb162) (o := .cells #[.int .u8 t156, .int .u8 t157, .int .u8 t158, .int .u8 t159, .int .i64 t160] 30 (0, 0)) (by (with_reducible repeat (first | refine blk_drewN ?_ _ | refine blk_drew ?_ | refine blk_alloc ?_ _)); exact BK162.out)) : gb169 ≠ gb162)); clear BK151; clear BK152; clear BK153; clear BK154; clear BK162; clear HB; have BK151 := n0_; have BK152 := n1_; have BK153 := n2_; have BK154 := n3_; have BK162 := n4_; have HB := n5_; have BK169 := n6_; have GW169 := n7_; have GE169 := n8_; have NB151_169 := n9_; have NB169_151 := n10_; have NB152_169 := n11_; have NB169_152 := n12_; have NB153_169 := n13_; have NB169_153 := n14_; have NB154_169 := n15_; have NB169_154 := n16_; have NB162_169 := n17_; have NB169_162 := n18_; clear n0_ n1_ n2_ n3_ n4_ n5_ n6_ n7_ n8_ n9_ n10_ n11_ n12_ n13_ n14_ n15_ n16_ n17_ n18_; clear hb hbox hg; have hnb67 := NB169_151.out; have hnc67 := NB151_169.out; have hnb68 := NB169_152.out; have hnc68 := NB152_169.out; have hnb69 := NB169_153.out; have hnc69 := NB153_169.out; have hnb70 := NB169_154.out; have hnc70 := NB154_169.out; have hnb71 := NB169_162.out; have hnc71 := NB162_169.out; obtain ⟨hcz72_0, hcz72_1, hcz72_2, hcz72_3, hcz72_4⟩ := cl_5 (.int .u8 0) (.int .u8 0) (.int .u8 0) (.int .u8 0) (.int .i64 0) BK169.out; obtain ⟨hfz72_0, hfz72_1, hfz72_2, hfz72_3, hfz72_4⟩ := fz_5 BK169.out; obtain ⟨hcz73_0, hcz73_1, hcz73_2, hcz73_3, hcz73_4⟩ := cl_5 (.int .u8 0) (.int .u8 0) (.int .u8 0) (.int .u8 0) (.int .i64 0) BK153.out; obtain ⟨hfz73_0, hfz73_1, hfz73_2, hfz73_3, hfz73_4⟩ := fz_5 BK153.out))
          refine bodyPost_ret (results_ct rfl _ _ gb153 30 #[.int .u8 t163, .int .u8 t164, .int .u8 t165, .int .u8 t166, .int .i64 t167] (0, 0) _ rfl (by (with_reducible repeat (first | refine blk_drewN ?_ _ | refine blk_drew ?_ | refine blk_alloc ?_ _)); refine blk_put (cs := #[.int .u8 t163, .int .u8 t164, .int .u8 t165, .int .u8 t166, .int .i64 0]) ?_ 4 _ rfl; (with_reducible repeat (first | refine blk_drewN ?_ _ | refine blk_drew ?_ | refine blk_alloc ?_ _)); refine blk_put (cs := #[.int .u8 t163, .int .u8 t164, .int .u8 t165, .int .u8 0, .int .i64 0]) ?_ 3 _ rfl; (with_reducible repeat (first | refine blk_drewN ?_ _ | refine blk_drew ?_ | refine blk_alloc ?_ _)); refine blk_put (cs := #[.int .u8 t163, .int .u8 t164, .int .u8 0, .int .u8 0, .int .i64 0]) ?_ 2 _ rfl; (with_reducible repeat (first | refine blk_drewN ?_ _ | refine blk_drew ?_ | refine blk_alloc ?_ _)); refine blk_put (cs := #[.int .u8 t163, .int .u8 0, .int .u8 0, .int .u8 0, .int .i64 0]) ?_ 1 _ rfl; (with_reducible repeat (first | refine blk_drewN ?_ _ | refine blk_drew ?_ | refine blk_alloc ?_ _)); refine blk_put (cs := #[.int .u8 0, .int .u8 0, .int .u8 0, .int .u8 0, .int .i64 0]) ?_ 0 _ rfl; (iterate 5 ((with_reducible repeat (first | refine blk_drewN ?_ _ | refine blk_drew ?_ | refine blk_alloc ?_ _)); refine blk_far ?_ NB153_169.out _)); (with_reducible repeat (first | refine blk_drewN ?_ _ | refine blk_drew ?_ | refine blk_alloc ?_ _)); exact BK153.out) Tryz.underlying30 rfl (by kernel_rfl)) rfl ?_
          exact ⟨by first | rfl | (simp [errW_none, errW_some] <;> rfl) | (simp [*, errW_none, errW_some] <;> rfl), by repeat (first | (with_reducible first | exact HB.out | apply below_alloc | apply pw_below_drewN | apply below_drew1 | refine below_set ?_ GE151.out | refine below_set ?_ GE152.out | refine below_set ?_ GE153.out | refine below_set ?_ GE154.out | refine below_set ?_ GE162.out | refine below_set ?_ GE169.out) | exact HB.out)⟩
         ·
          replace c44 := Bool.eq_false_iff.mpr c44
          subst c44
          have H1 : (some (0, 0, 0, 0, 0, 2)) = some (r1, r2, r3, r4, r5, r6) := by rw [if_neg (show ¬ (false = true) by decide)] at H; exact H
          clear H
          have H := H1
          clear H1
          simp only [Option.some.injEq, Prod.mk.injEq] at H
          obtain ⟨rfl, rfl, rfl, rfl, rfl, rfl⟩ := H
          have hnb74 := NB152_151.out
          have hnc74 := NB151_152.out
          have hnb75 := NB152_153.out
          have hnc75 := NB153_152.out
          have hcz76_0 : wc.cell? ⟨gb152, 0, none⟩ = some (.int .u8 a2_0) := (blk_cell BK152.out 0).trans rfl
          have hcz76_1 : wc.cell? ⟨gb152, 1, none⟩ = some (.int .u8 a2_1) := (blk_cell BK152.out 1).trans rfl
          have hcz76_2 : wc.cell? ⟨gb152, 2, none⟩ = some (.int .u8 a2_2) := (blk_cell BK152.out 2).trans rfl
          have hcz76_3 : wc.cell? ⟨gb152, 3, none⟩ = some (.int .u8 a2_3) := (blk_cell BK152.out 3).trans rfl
          have hfz76_0 := blk_frozen BK152.out 0
          have hfz76_1 := blk_frozen BK152.out 1
          have hfz76_2 := blk_frozen BK152.out 2
          have hfz76_3 := blk_frozen BK152.out 3
          go_wp2_with (first | ((with_reducible refine gate_dst (N := 8) rfl ?_); refine box_event ?hg (N := 8) ?hd (cs := #[.int .u8 0, .int .u8 0, .int .u8 0, .int .u8 0, .int .i64 0]) (t := 30) ?hr ?_; (case hd => rfl); (case hg => rfl); (case hr => first | (go_simp; done) | (go_simp; rfl)); intro gb154 hg w77 hbox hb; have n0_ := Aside0.mk (blk_below (g := gb151) (o := .cells #[.int .i64 a1_0, .slice A1_1 l1_1.length c1_1] 26 (0, 0)) (by (with_reducible repeat (first | refine blk_drewN ?_ _ | refine blk_drew ?_ | refine blk_alloc ?_ _)); exact BK151.out) hb); have n1_ := Aside0.mk (blk_below (g := gb152) (o := .cells #[.int .u8 a2_0, .int .u8 a2_1, .int .u8 a2_2, .int .u8 a2_3] 28 (0, 0)) (by (with_reducible repeat (first | refine blk_drewN ?_ _ | refine blk_drew ?_ | refine blk_alloc ?_ _)); exact BK152.out) hb); have n2_ := Aside0.mk (blk_below (g := gb153) (o := .cells #[.int .u8 0, .int .u8 0, .int .u8 0, .int .u8 0, .int .i64 0] 30 (0, 0)) (by (with_reducible repeat (first | refine blk_drewN ?_ _ | refine blk_drew ?_ | refine blk_alloc ?_ _)); exact BK153.out) hb); have n3_ := Aside0.mk (below_step (by repeat (first | (with_reducible first | exact HB.out | apply below_alloc | apply pw_below_drewN | apply below_drew1 | refine below_set ?_ GE151.out | refine below_set ?_ GE152.out | refine below_set ?_ GE153.out) | exact HB.out)) hb); have n4_ := Aside0.mk (hbox); have n5_ := Aside0.mk ((by rw [hg]; exact (below_size (by repeat (first | (with_reducible first | exact HB.out | apply below_alloc | apply pw_below_drewN | apply below_drew1 | refine below_set ?_ GE151.out | refine below_set ?_ GE152.out | refine below_set ?_ GE153.out) | exact HB.out))) : w.heap.size ≤ gb154)); have n6_ := Aside0.mk ((by rw [hg]; exact (below_size (by repeat (first | (with_reducible first | exact HB.out | apply below_alloc | apply pw_below_drewN | apply below_drew1 | refine below_set ?_ GE151.out | refine below_set ?_ GE152.out | refine below_set ?_ GE153.out) | exact HB.out))) : w.heap.size ≤ gb154)); have n7_ := Aside0.mk ((by rw [hg]; exact Nat.ne_of_lt (blk_lt (g := gb151) (o := .cells #[.int .i64 a1_0, .slice A1_1 l1_1.length c1_1] 26 (0, 0)) (by (with_reducible repeat (first | refine blk_drewN ?_ _ | refine blk_drew ?_ | refine blk_alloc ?_ _)); exact BK151.out)) : gb151 ≠ gb154)); have n8_ := Aside0.mk ((by rw [hg]; exact Nat.ne_of_gt (blk_lt (g := gb151) (o := .cells #[.int .i64 a1_0, .slice A1_1 l1_1.length c1_1] 26 (0, 0)) (by (with_reducible repeat (first | refine blk_drewN ?_ _ | refine blk_drew ?_ | refine blk_alloc ?_ _)); exact BK151.out)) : gb154 ≠ gb151)); have n9_ := Aside0.mk ((by rw [hg]; exact Nat.ne_of_lt (blk_lt (g := gb152) (o := .cells #[.int .u8 a2_0, .int .u8 a2_1, .int .u8 a2_2, .int .u8 a2_3] 28 (0, 0)) (by (with_reducible repeat (first | refine blk_drewN ?_ _ | refine blk_drew ?_ | refine blk_alloc ?_ _)); exact BK152.out)) : gb152 ≠ gb154)); have n10_ := Aside0.mk ((by rw [hg]; exact Nat.ne_of_gt (blk_lt (g := gb152) (o := .cells #[.int .u8 a2_0, .int .u8 a2_1, .int .u8 a2_2, .int .u8 a2_3] 28 (0, 0)) (by (with_reducible repeat (first | refine blk_drewN ?_ _ | refine blk_drew ?_ | refine blk_alloc ?_ _)); exact BK152.out)) : gb154 ≠ gb152)); have n11_ := Aside0.mk ((by rw [hg]; exact Nat.ne_of_lt (blk_lt (g := gb153) (o := .cells #[.int .u8 0, .int .u8 0, .int .u8 0, .int .u8 0, .int .i64 0] 30 (0, 0)) (by (with_reducible repeat (first | refine blk_drewN ?_ _ | refine blk_drew ?_ | refine blk_alloc ?_ _)); exact BK153.out)) : gb153 ≠ gb154)); have n12_ := Aside0.mk ((by rw [hg]; exact Nat.ne_of_gt (blk_lt (g := gb153) (o := .cells #[.int .u8 0, .int .u8 0, .int .u8 0, .int .u8 0, .int .i64 0] 30 (0, 0)) (by (with_reducible repeat (first | refine blk_drewN ?_ _ | refine blk_drew ?_ | refine blk_alloc ?_ _)); exact BK153.out)) : gb154 ≠ gb153)); clear BK151; clear BK152; clear BK153; clear HB; have BK151 := n0_; have BK152 := n1_; have BK153 := n2_; have HB := n3_; have BK154 := n4_; have GW154 := n5_; have GE154 := n6_; have NB151_154 := n7_; have NB154_151 := n8_; have NB152_154 := n9_; have NB154_152 := n10_; have NB153_154 := n11_; have NB154_153 := n12_; clear n0_ n1_ n2_ n3_ n4_ n5_ n6_ n7_ n8_ n9_ n10_ n11_ n12_; clear hb hbox hg; have hnb78 := NB154_151.out; have hnc78 := NB151_154.out; have hnb79 := NB154_152.out; have hnc79 := NB152_154.out; have hnb80 := NB154_153.out; have hnc80 := NB153_154.out; obtain ⟨hcz81_0, hcz81_1, hcz81_2, hcz81_3, hcz81_4⟩ := cl_5 (.int .u8 0) (.int .u8 0) (.int .u8 0) (.int .u8 0) (.int .i64 0) BK154.out; obtain ⟨hfz81_0, hfz81_1, hfz81_2, hfz81_3, hfz81_4⟩ := fz_5 BK154.out; have hnb82 := NB151_153.out; have hnc82 := NB153_151.out; obtain ⟨hcz83_0, hcz83_1⟩ := cl_2 (.int .i64 a1_0) (.slice A1_1 l1_1.length c1_1) BK151.out; obtain ⟨hfz83_0, hfz83_1⟩ := fz_2 BK151.out; have p155 : 0 ≤ (0 : Int) := (by omega); have q155 : 0 < (l1_1.length : Int) := of_decide_eq_true (by first | (with_reducible assumption) | assumption); obtain ⟨ad155, e155, hx155_0⟩ := Kd.at_string HR1_1.out 0 p155 q155; cases e155; have qi155 : (0 < l1_1.length) = True := eq_true (by omega); (try rw [show ((0 : Int)).toNat = 0 from rfl] at hx155_0); (try rw [Addr.add_zero'] at hx155_0); have hn155_0 : ad155.block ≠ gb154 := Nat.ne_of_lt (Nat.lt_of_lt_of_le (by have := World.block_lt_of_cell? _ _ hx155_0; first | rwa [add_block] at this | exact this) GW154.out); have hn155_1 : ad155.block ≠ gb154 := Nat.ne_of_lt (Nat.lt_of_lt_of_le (by have := World.block_lt_of_cell? _ _ hx155_0; first | rwa [add_block] at this | exact this) GW154.out); have hn155_2 : ad155.block ≠ gb154 := Nat.ne_of_lt (Nat.lt_of_lt_of_le (by have := World.block_lt_of_cell? _ _ hx155_0; first | rwa [add_block] at this | exact this) GW154.out); have hn155_3 : ad155.block ≠ gb154 := Nat.ne_of_lt (Nat.lt_of_lt_of_le (by have := World.block_lt_of_cell? _ _ hx155_0; first | rwa [add_block] at this | exact this) GW154.out); have hn155_4 : ad155.block ≠ gb154 := Nat.ne_of_lt (Nat.lt_of_lt_of_le (by have := World.block_lt_of_cell? _ _ hx155_0; first | rwa [add_block] at this | exact this) GW154.out); replace hx155_0 := (HB.out.cell (World.block_lt_of_cell? w _ hx155_0)).trans hx155_0; replace hx155_0 := (cell_far (p := ⟨gb154, 0, none⟩) (by first | (rw [add_block]; exact hn155_0) | (show (Addr.add _ _).block ≠ _; rw [add_block]; exact hn155_0) | exact hn155_0) (.int .u8 a2_0)).trans hx155_0; replace hx155_0 := (cell_far (p := ⟨gb154, 1, none⟩) (by first | (rw [add_block]; exact hn155_1) | (show (Addr.add _ _).block ≠ _; rw [add_block]; exact hn155_1) | exact hn155_1) (.int .u8 a2_1)).trans hx155_0; replace hx155_0 := (cell_far (p := ⟨gb154, 2, none⟩) (by first | (rw [add_block]; exact hn155_2) | (show (Addr.add _ _).block ≠ _; rw [add_block]; exact hn155_2) | exact hn155_2) (.int .u8 a2_2)).trans hx155_0; replace hx155_0 := (cell_far (p := ⟨gb154, 3, none⟩) (by first | (rw [add_block]; exact hn155_3) | (show (Addr.add _ _).block ≠ _; rw [add_block]; exact hn155_3) | exact hn155_3) (.int .u8 a2_3)).trans hx155_0; replace hx155_0 := (cell_far (p := ⟨gb154, 4, none⟩) (by first | (rw [add_block]; exact hn155_4) | (show (Addr.add _ _).block ≠ _; rw [add_block]; exact hn155_4) | exact hn155_4) (.int .i64 0)).trans hx155_0; clear hn155_0; clear hn155_1; clear hn155_2; clear hn155_3; clear hn155_4; replace p155 := eq_true p155; replace q155 := eq_true q155) | ((with_reducible refine gate_callee (f := 24) rfl ?_); refine goesL_ (some 54) rfl rfl Tryz.func24 (by kernel_rfl) rfl #[.string (rdOf ByteArray.empty l1_1 0)] rfl (by (try simp only [List.map_toArray, List.map_cons, List.map_nil]); first | done | rfl | (simp only [List.length_drop, List.length_take]; rfl)) ?_; (with_reducible refine (wharfingerref03_Find.calls (rdOf ByteArray.empty l1_1 0) t156 t157 t158 t159 t160 false _ A43.out).mono ?_); rintro e w84 ⟨rfl, hb⟩; refine ⟨_, rfl, ?_⟩; have n0_ := Aside0.mk (blk_below (g := gb151) (o := .cells #[.int .i64 a1_0, .slice (some ad155) l1_1.length c1_1] 26 (0, 0)) (by (iterate 5 ((with_reducible repeat (first | refine blk_drewN ?_ _ | refine blk_drew ?_ | refine blk_alloc ?_ _)); refine blk_far ?_ NB151_154.out _)); (with_reducible repeat (first | refine blk_drewN ?_ _ | refine blk_drew ?_ | refine blk_alloc ?_ _)); exact BK151.out) hb); have n1_ := Aside0.mk (blk_below (g := gb152) (o := .cells #[.int .u8 a2_0, .int .u8 a2_1, .int .u8 a2_2, .int .u8 a2_3] 28 (0, 0)) (by (iterate 5 ((with_reducible repeat (first | refine blk_drewN ?_ _ | refine blk_drew ?_ | refine blk_alloc ?_ _)); refine blk_far ?_ NB152_154.out _)); (with_reducible repeat (first | refine blk_drewN ?_ _ | refine blk_drew ?_ | refine blk_alloc ?_ _)); exact BK152.out) hb); have n2_ := Aside0.mk (blk_below (g := gb153) (o := .cells #[.int .u8 0, .int .u8 0, .int .u8 0, .int .u8 0, .int .i64 0] 30 (0, 0)) (by (iterate 5 ((with_reducible repeat (first | refine blk_drewN ?_ _ | refine blk_drew ?_ | refine blk_alloc ?_ _)); refine blk_far ?_ NB153_154.out _)); (with_reducible repeat (first | refine blk_drewN ?_ _ | refine blk_drew ?_ | refine blk_alloc ?_ _)); exact BK153.out) hb); have n3_ := Aside0.mk (blk_below (g := gb154) (o := .cells #[.int .u8 a2_0, .int .u8 a2_1, .int .u8 a2_2, .int .u8 a2_3, .int .i64 0] 30 (0, 0)) (by (with_reducible repeat (first | refine blk_drewN ?_ _ | refine blk_drew ?_ | refine blk_alloc ?_ _)); refine blk_put (cs := #[.int .u8 a2_0, .int .u8 a2_1, .int .u8 a2_2, .int .u8 a2_3, .int .i64 0]) ?_ 4 _ rfl; (with_reducible repeat (first | refine blk_drewN ?_ _ | refine blk_drew ?_ | refine blk_alloc ?_ _)); refine blk_put (cs := #[.int .u8 a2_0, .int .u8 a2_1, .int .u8 a2_2, .int .u8 0, .int .i64 0]) ?_ 3 _ rfl; (with_reducible repeat (first | refine blk_drewN ?_ _ | refine blk_drew ?_ | refine blk_alloc ?_ _)); refine blk_put (cs := #[.int .u8 a2_0, .int .u8 a2_1, .int .u8 0, .int .u8 0, .int .i64 0]) ?_ 2 _ rfl; (with_reducible repeat (first | refine blk_drewN ?_ _ | refine blk_drew ?_ | refine blk_alloc ?_ _)); refine blk_put (cs := #[.int .u8 a2_0, .int .u8 0, .int .u8 0, .int .u8 0, .int .i64 0]) ?_ 1 _ rfl; (with_reducible repeat (first | refine blk_drewN ?_ _ | refine blk_drew ?_ | refine blk_alloc ?_ _)); refine blk_put (cs := #[.int .u8 0, .int .u8 0, .int .u8 0, .int .u8 0, .int .i64 0]) ?_ 0 _ rfl; (with_reducible repeat (first | refine blk_drewN ?_ _ | refine blk_drew ?_ | refine blk_alloc ?_ _)); exact BK154.out) hb); have n4_ := Aside0.mk (below_step (by repeat (first | (with_reducible first | exact HB.out | apply below_alloc | apply pw_below_drewN | apply below_drew1 | refine below_set ?_ GE151.out | refine below_set ?_ GE152.out | refine below_set ?_ GE153.out | refine below_set ?_ GE154.out) | exact HB.out)) hb); clear BK151; clear BK152; clear BK153; clear BK154; clear HB; have BK151 := n0_; have BK152 := n1_; have BK153 := n2_; have BK154 := n3_; have HB := n4_; clear n0_ n1_ n2_ n3_ n4_; (try clear hb); (try clear hb2); (try clear hk); (try clear hi)) | ((with_reducible refine gate_dst (N := 9) rfl ?_); refine box_event ?hg (N := 9) ?hd (cs := #[.int .u8 0, .int .u8 0, .int .u8 0, .int .u8 0, .int .i64 0]) (t := 30) ?hr ?_; (case hd => rfl); (case hg => rfl); (case hr => first | (go_simp; done) | (go_simp; rfl)); intro gb162 hg w85 hbox hb; have n0_ := Aside0.mk (blk_below (g := gb151) (o := .cells #[.int .i64 a1_0, .slice (some ad155) l1_1.length c1_1] 26 (0, 0)) (by (with_reducible repeat (first | refine blk_drewN ?_ _ | refine blk_drew ?_ | refine blk_alloc ?_ _)); exact BK151.out) hb); have n1_ := Aside0.mk (blk_below (g := gb152) (o := .cells #[.int .u8 a2_0, .int .u8 a2_1, .int .u8 a2_2, .int .u8 a2_3] 28 (0, 0)) (by (with_reducible repeat (first | refine blk_drewN ?_ _ | refine blk_drew ?_ | refine blk_alloc ?_ _)); exact BK152.out) hb); have n2_ := Aside0.mk (blk_below (g := gb153) (o := .cells #[.int .u8 0, .int .u8 0, .int .u8 0, .int .u8 0, .int .i64 0] 30 (0, 0)) (by (with_reducible repeat (first | refine blk_drewN ?_ _ | refine blk_drew ?_ | refine blk_alloc ?_ _)); exact BK153.out) hb); have n3_ := Aside0.mk (blk_below (g := gb154) (o := .cells #[.int .u8 a2_0, .int .u8 a2_1, .int .u8 a2_2, .int .u8 a2_3, .int .i64 0] 30 (0, 0)) (by (with_reducible repeat (first | refine blk_drewN ?_ _ | refine blk_drew ?_ | refine blk_alloc ?_ _)); exact BK154.out) hb); have n4_ := Aside0.mk (below_step (by repeat (first | (with_reducible first | exact HB.out | apply below_alloc | apply pw_below_drewN | apply below_drew1 | refine below_set ?_ GE151.out | refine below_set ?_ GE152.out | refine below_set ?_ GE153.out | refine below_set ?_ GE154.out) | exact HB.out)) hb); have n5_ := Aside0.mk (hbox); have n6_ := Aside0.mk ((by rw [hg]; exact (below_size (by repeat (first | (with_reducible first | exact HB.out | apply below_alloc | apply pw_below_drewN | apply below_drew1 | refine below_set ?_ GE151.out | refine below_set ?_ GE152.out | refine below_set ?_ GE153.out | refine below_set ?_ GE154.out) | exact HB.out))) : w.heap.size ≤ gb162)); have n7_ := Aside0.mk ((by rw [hg]; exact (below_size (by repeat (first | (with_reducible first | exact HB.out | apply below_alloc | apply pw_below_drewN | apply below_drew1 | refine below_set ?_ GE151.out | refine below_set ?_ GE152.out | refine below_set ?_ GE153.out | refine below_set ?_ GE154.out) | exact HB.out))) : w.heap.size ≤ gb162)); have n8_ := Aside0.mk ((by rw [hg]; exact Nat.ne_of_lt (blk_lt (g := gb151) (o := .cells #[.int .i64 a1_0, .slice (some ad155) l1_1.length c1_1] 26 (0, 0)) (by (with_reducible repeat (first | refine blk_drewN ?_ _ | refine blk_drew ?_ | refine blk_alloc ?_ _)); exact BK151.out)) : gb151 ≠ gb162)); have n9_ := Aside0.mk ((by rw [hg]; exact Nat.ne_of_gt (blk_lt (g := gb151) (o := .cells #[.int .i64 a1_0, .slice (some ad155) l1_1.length c1_1] 26 (0, 0)) (by (with_reducible repeat (first | refine blk_drewN ?_ _ | refine blk_drew ?_ | refine blk_alloc ?_ _)); exact BK151.out)) : gb162 ≠ gb151)); have n10_ := Aside0.mk ((by rw [hg]; exact Nat.ne_of_lt (blk_lt (g := gb152) (o := .cells #[.int .u8 a2_0, .int .u8 a2_1, .int .u8 a2_2, .int .u8 a2_3] 28 (0, 0)) (by (with_reducible repeat (first | refine blk_drewN ?_ _ | refine blk_drew ?_ | refine blk_alloc ?_ _)); exact BK152.out)) : gb152 ≠ gb162)); have n11_ := Aside0.mk ((by rw [hg]; exact Nat.ne_of_gt (blk_lt (g := gb152) (o := .cells #[.int .u8 a2_0, .int .u8 a2_1, .int .u8 a2_2, .int .u8 a2_3] 28 (0, 0)) (by (with_reducible repeat (first | refine blk_drewN ?_ _ | refine blk_drew ?_ | refine blk_alloc ?_ _)); exact BK152.out)) : gb162 ≠ gb152)); have n12_ := Aside0.mk ((by rw [hg]; exact Nat.ne_of_lt (blk_lt (g := gb153) (o := .cells #[.int .u8 0, .int .u8 0, .int .u8 0, .int .u8 0, .int .i64 0] 30 (0, 0)) (by (with_reducible repeat (first | refine blk_drewN ?_ _ | refine blk_drew ?_ | refine blk_alloc ?_ _)); exact BK153.out)) : gb153 ≠ gb162)); have n13_ := Aside0.mk ((by rw [hg]; exact Nat.ne_of_gt (blk_lt (g := gb153) (o := .cells #[.int .u8 0, .int .u8 0, .int .u8 0, .int .u8 0, .int .i64 0] 30 (0, 0)) (by (with_reducible repeat (first | refine blk_drewN ?_ _ | refine blk_drew ?_ | refine blk_alloc ?_ _)); exact BK153.out)) : gb162 ≠ gb153)); have n14_ := Aside0.mk ((by rw [hg]; exact Nat.ne_of_lt (blk_lt (g := gb154) (o := .cells #[.int .u8 a2_0, .int .u8 a2_1, .int .u8 a2_2, .int .u8 a2_3, .int .i64 0] 30 (0, 0)) (by (with_reducible repeat (first | refine blk_drewN ?_ _ | refine blk_drew ?_ | refine blk_alloc ?_ _)); exact BK154.out)) : gb154 ≠ gb162)); have n15_ := Aside0.mk ((by rw [hg]; exact Nat.ne_of_gt (blk_lt (g := gb154) (o := .cells #[.int .u8 a2_0, .int .u8 a2_1, .int .u8 a2_2, .int .u8 a2_3, .int .i64 0] 30 (0, 0)) (by (with_reducible repeat (first | refine blk_drewN ?_ _ | refine blk_drew ?_ | refine blk_alloc ?_ _)); exact BK154.out)) : gb162 ≠ gb154)); clear BK151; clear BK152; clear BK153; clear BK154; clear HB; have BK151 := n0_; have BK152 := n1_; have BK153 := n2_; have BK154 := n3_; have HB := n4_; have BK162 := n5_; have GW162 := n6_; have GE162 := n7_; have NB151_162 := n8_; have NB162_151 := n9_; have NB152_162 := n10_; have NB162_152 := n11_; have NB153_162 := n12_; have NB162_153 := n13_; have NB154_162 := n14_; have NB162_154 := n15_; clear n0_ n1_ n2_ n3_ n4_ n5_ n6_ n7_ n8_ n9_ n10_ n11_ n12_ n13_ n14_ n15_; clear hb hbox hg; have hnb86 := NB162_151.out; have hnc86 := NB151_162.out; have hnb87 := NB162_152.out; have hnc87 := NB152_162.out; have hnb88 := NB162_153.out; have hnc88 := NB153_162.out; have hnb89 := NB162_154.out; have hnc89 := NB154_162.out; obtain ⟨hcz90_0, hcz90_1, hcz90_2, hcz90_3, hcz90_4⟩ := cl_5 (.int .u8 0) (.int .u8 0) (.int .u8 0) (.int .u8 0) (.int .i64 0) BK162.out; obtain ⟨hfz90_0, hfz90_1, hfz90_2, hfz90_3, hfz90_4⟩ := fz_5 BK162.out; obtain ⟨hcz91_0, hcz91_1, hcz91_2, hcz91_3, hcz91_4⟩ := cl_5 (.int .u8 0) (.int .u8 0) (.int .u8 0) (.int .u8 0) (.int .i64 0) BK153.out; obtain ⟨hfz91_0, hfz91_1, hfz91_2, hfz91_3, hfz91_4⟩ := fz_5 BK153.out))
          refine bodyPost_ret (results_ct rfl _ _ gb153 30 #[.int .u8 0, .int .u8 0, .int .u8 0, .int .u8 0, .int .i64 0] (0, 0) _ rfl (by (with_reducible repeat (first | refine blk_drewN ?_ _ | refine blk_drew ?_ | refine blk_alloc ?_ _)); refine blk_put (cs := #[.int .u8 0, .int .u8 0, .int .u8 0, .int .u8 0, .int .i64 0]) ?_ 4 _ rfl; (with_reducible repeat (first | refine blk_drewN ?_ _ | refine blk_drew ?_ | refine blk_alloc ?_ _)); refine blk_put (cs := #[.int .u8 0, .int .u8 0, .int .u8 0, .int .u8 0, .int .i64 0]) ?_ 3 _ rfl; (with_reducible repeat (first | refine blk_drewN ?_ _ | refine blk_drew ?_ | refine blk_alloc ?_ _)); refine blk_put (cs := #[.int .u8 0, .int .u8 0, .int .u8 0, .int .u8 0, .int .i64 0]) ?_ 2 _ rfl; (with_reducible repeat (first | refine blk_drewN ?_ _ | refine blk_drew ?_ | refine blk_alloc ?_ _)); refine blk_put (cs := #[.int .u8 0, .int .u8 0, .int .u8 0, .int .u8 0, .int .i64 0]) ?_ 1 _ rfl; (with_reducible repeat (first | refine blk_drewN ?_ _ | refine blk_drew ?_ | refine blk_alloc ?_ _)); refine blk_put (cs := #[.int .u8 0, .int .u8 0, .int .u8 0, .int .u8 0, .int .i64 0]) ?_ 0 _ rfl; (iterate 5 ((with_reducible repeat (first | refine blk_drewN ?_ _ | refine blk_drew ?_ | refine blk_alloc ?_ _)); refine blk_far ?_ NB153_162.out _)); (with_reducible repeat (first | refine blk_drewN ?_ _ | refine blk_drew ?_ | refine blk_alloc ?_ _)); exact BK153.out) Tryz.underlying30 rfl (by kernel_rfl)) rfl ?_
          exact ⟨by first | rfl | (simp [errW_none, errW_some] <;> rfl) | (simp [*, errW_none, errW_some] <;> rfl), by repeat (first | (with_reducible first | exact HB.out | apply below_alloc | apply pw_below_drewN | apply below_drew1 | refine below_set ?_ GE151.out | refine below_set ?_ GE152.out | refine below_set ?_ GE153.out | refine below_set ?_ GE154.out | refine below_set ?_ GE162.out) | exact HB.out)⟩
        ·
         rw [if_neg c42] at H
         exact absurd H (by simp)
       ·
        rw [if_neg c41] at H
        have c41b0 : (a0.toList == ([80, 65, 83, 86] : List UInt8)) = false := beq_eq_false_iff_ne.mpr c41
        have c41b1 : (a0.toList != ([80, 65, 83, 86] : List UInt8)) = true := bne_iff_ne.mpr c41
        by_cases c92 : 0 < (l1_1.length : Int)
        ·
         rw [if_pos c92] at H
         have c92b0 : decide (0 < (l1_1.length : Int)) = true := decide_eq_true c92
         have c92b1 : decide (0 < l1_1.length) = true := decide_eq_true (by omega)
         clear c92
         replace H := Option.bind_eq_some_iff.mp H
         obtain ⟨⟨t171, t172⟩, A930, H⟩ := H
         replace H : (if t172 = true then ((wharfingerref19_own.f a2_0 a2_1 a2_2 a2_3 t171 a2_0 a2_1 a2_2 a2_3).bind fun bt173 => (some (bt173.1, bt173.2.1, bt173.2.2.1, bt173.2.2.2.1, bt173.2.2.2.2.1, bt173.2.2.2.2.2))) else (some (0, 0, 0, 0, 0, 2))) = some (r1, r2, r3, r4, r5, r6) := H
         have A93 := Aside0.mk A930
         clear A930
         by_cases c94 : t172 = true
         ·
          subst c94
          have H1 : ((wharfingerref19_own.f a2_0 a2_1 a2_2 a2_3 t171 a2_0 a2_1 a2_2 a2_3).bind fun bt173 => (some (bt173.1, bt173.2.1, bt173.2.2.1, bt173.2.2.2.1, bt173.2.2.2.2.1, bt173.2.2.2.2.2))) = some (r1, r2, r3, r4, r5, r6) := by rw [if_pos rfl] at H; exact H
          clear H
          have H := H1
          clear H1
          replace H := Option.bind_eq_some_iff.mp H
          obtain ⟨⟨t173, t174, t175, t176, t177, t178⟩, A950, H⟩ := H
          replace H : (some (t173, t174, t175, t176, t177, t178)) = some (r1, r2, r3, r4, r5, r6) := H
          have A95 := Aside0.mk A950
          clear A950
          simp only [Option.some.injEq, Prod.mk.injEq] at H
          obtain ⟨rfl, rfl, rfl, rfl, rfl, rfl⟩ := H
          have hnb96 := NB152_151.out
          have hnc96 := NB151_152.out
          have hnb97 := NB152_153.out
          have hnc97 := NB153_152.out
          have hcz98_0 : wc.cell? ⟨gb152, 0, none⟩ = some (.int .u8 a2_0) := (blk_cell BK152.out 0).trans rfl
          have hcz98_1 : wc.cell? ⟨gb152, 1, none⟩ = some (.int .u8 a2_1) := (blk_cell BK152.out 1).trans rfl
          have hcz98_2 : wc.cell? ⟨gb152, 2, none⟩ = some (.int .u8 a2_2) := (blk_cell BK152.out 2).trans rfl
          have hcz98_3 : wc.cell? ⟨gb152, 3, none⟩ = some (.int .u8 a2_3) := (blk_cell BK152.out 3).trans rfl
          have hfz98_0 := blk_frozen BK152.out 0
          have hfz98_1 := blk_frozen BK152.out 1
          have hfz98_2 := blk_frozen BK152.out 2
          have hfz98_3 := blk_frozen BK152.out 3
          go_wp2_with (first | ((with_reducible refine gate_dst (N := 8) rfl ?_); refine box_event ?hg (N := 8) ?hd (cs := #[.int .u8 0, .int .u8 0, .int .u8 0, .int .u8 0, .int .i64 0]) (t := 30) ?hr ?_; (case hd => rfl); (case hg => rfl); (case hr => first | (go_simp; done) | (go_simp; rfl)); intro gb154 hg w99 hbox hb; have n0_ := Aside0.mk (blk_below (g := gb151) (o := .cells #[.int .i64 a1_0, .slice A1_1 l1_1.length c1_1] 26 (0, 0)) (by (with_reducible repeat (first | refine blk_drewN ?_ _ | refine blk_drew ?_ | refine blk_alloc ?_ _)); exact BK151.out) hb); have n1_ := Aside0.mk (blk_below (g := gb152) (o := .cells #[.int .u8 a2_0, .int .u8 a2_1, .int .u8 a2_2, .int .u8 a2_3] 28 (0, 0)) (by (with_reducible repeat (first | refine blk_drewN ?_ _ | refine blk_drew ?_ | refine blk_alloc ?_ _)); exact BK152.out) hb); have n2_ := Aside0.mk (blk_below (g := gb153) (o := .cells #[.int .u8 0, .int .u8 0, .int .u8 0, .int .u8 0, .int .i64 0] 30 (0, 0)) (by (with_reducible repeat (first | refine blk_drewN ?_ _ | refine blk_drew ?_ | refine blk_alloc ?_ _)); exact BK153.out) hb); have n3_ := Aside0.mk (below_step (by repeat (first | (with_reducible first | exact HB.out | apply below_alloc | apply pw_below_drewN | apply below_drew1 | refine below_set ?_ GE151.out | refine below_set ?_ GE152.out | refine below_set ?_ GE153.out) | exact HB.out)) hb); have n4_ := Aside0.mk (hbox); have n5_ := Aside0.mk ((by rw [hg]; exact (below_size (by repeat (first | (with_reducible first | exact HB.out | apply below_alloc | apply pw_below_drewN | apply below_drew1 | refine below_set ?_ GE151.out | refine below_set ?_ GE152.out | refine below_set ?_ GE153.out) | exact HB.out))) : w.heap.size ≤ gb154)); have n6_ := Aside0.mk ((by rw [hg]; exact (below_size (by repeat (first | (with_reducible first | exact HB.out | apply below_alloc | apply pw_below_drewN | apply below_drew1 | refine below_set ?_ GE151.out | refine below_set ?_ GE152.out | refine below_set ?_ GE153.out) | exact HB.out))) : w.heap.size ≤ gb154)); have n7_ := Aside0.mk ((by rw [hg]; exact Nat.ne_of_lt (blk_lt (g := gb151) (o := .cells #[.int .i64 a1_0, .slice A1_1 l1_1.length c1_1] 26 (0, 0)) (by (with_reducible repeat (first | refine blk_drewN ?_ _ | refine blk_drew ?_ | refine blk_alloc ?_ _)); exact BK151.out)) : gb151 ≠ gb154)); have n8_ := Aside0.mk ((by rw [hg]; exact Nat.ne_of_gt (blk_lt (g := gb151) (o := .cells #[.int .i64 a1_0, .slice A1_1 l1_1.length c1_1] 26 (0, 0)) (by (with_reducible repeat (first | refine blk_drewN ?_ _ | refine blk_drew ?_ | refine blk_alloc ?_ _)); exact BK151.out)) : gb154 ≠ gb151)); have n9_ := Aside0.mk ((by rw [hg]; exact Nat.ne_of_lt (blk_lt (g := gb152) (o := .cells #[.int .u8 a2_0, .int .u8 a2_1, .int .u8 a2_2, .int .u8 a2_3] 28 (0, 0)) (by (with_reducible repeat (first | refine blk_drewN ?_ _ | refine blk_drew ?_ | refine blk_alloc ?_ _)); exact BK152.out)) : gb152 ≠ gb154)); have n10_ := Aside0.mk ((by rw [hg]; exact Nat.ne_of_gt (blk_lt (g := gb152) (o := .cells #[.int .u8 a2_0, .int .u8 a2_1, .int .u8 a2_2, .int .u8 a2_3] 28 (0, 0)) (by (with_reducible repeat (first | refine blk_drewN ?_ _ | refine blk_drew ?_ | refine blk_alloc ?_ _)); exact BK152.out)) : gb154 ≠ gb152)); have n11_ := Aside0.mk ((by rw [hg]; exact Nat.ne_of_lt (blk_lt (g := gb153) (o := .cells #[.int .u8 0, .int .u8 0, .int .u8 0, .int .u8 0, .int .i64 0] 30 (0, 0)) (by (with_reducible repeat (first | refine blk_drewN ?_ _ | refine blk_drew ?_ | refine blk_alloc ?_ _)); exact BK153.out)) : gb153 ≠ gb154)); have n12_ := Aside0.mk ((by rw [hg]; exact Nat.ne_of_gt (blk_lt (g := gb153) (o := .cells #[.int .u8 0, .int .u8 0, .int .u8 0, .int .u8 0, .int .i64 0] 30 (0, 0)) (by (with_reducible repeat (first | refine blk_drewN ?_ _ | refine blk_drew ?_ | refine blk_alloc ?_ _)); exact BK153.out)) : gb154 ≠ gb153)); clear BK151; clear BK152; clear BK153; clear HB; have BK151 := n0_; have BK152 := n1_; have BK153 := n2_; have HB := n3_; have BK154 := n4_; have GW154 := n5_; have GE154 := n6_; have NB151_154 := n7_; have NB154_151 := n8_; have NB152_154 := n9_; have NB154_152 := n10_; have NB153_154 := n11_; have NB154_153 := n12_; clear n0_ n1_ n2_ n3_ n4_ n5_ n6_ n7_ n8_ n9_ n10_ n11_ n12_; clear hb hbox hg; have hnb100 := NB154_151.out; have hnc100 := NB151_154.out; have hnb101 := NB154_152.out; have hnc101 := NB152_154.out; have hnb102 := NB154_153.out; have hnc102 := NB153_154.out; obtain ⟨hcz103_0, hcz103_1, hcz103_2, hcz103_3, hcz103_4⟩ := cl_5 (.int .u8 0) (.int .u8 0) (.int .u8 0) (.int .u8 0) (.int .i64 0) BK154.out; obtain ⟨hfz103_0, hfz103_1, hfz103_2, hfz103_3, hfz103_4⟩ := fz_5 BK154.out; have hnb104 := NB151_153.out; have hnc104 := NB153_151.out; obtain ⟨hcz105_0, hcz105_1⟩ := cl_2 (.int .i64 a1_0) (.slice A1_1 l1_1.length c1_1) BK151.out; obtain ⟨hfz105_0, hfz105_1⟩ := fz_2 BK151.out; have p170 : 0 ≤ (0 : Int) := (by omega); have q170 : 0 < (l1_1.length : Int) := of_decide_eq_true (by first | (with_reducible assumption) | assumption); obtain ⟨ad170, e170, hx170_0⟩ := Kd.at_string HR1_1.out 0 p170 q170; cases e170; have qi170 : (0 < l1_1.length) = True := eq_true (by omega); (try rw [show ((0 : Int)).toNat = 0 from rfl] at hx170_0); (try rw [Addr.add_zero'] at hx170_0); have hn170_0 : ad170.block ≠ gb154 := Nat.ne_of_lt (Nat.lt_of_lt_of_le (by have := World.block_lt_of_cell? _ _ hx170_0; first | rwa [add_block] at this | exact this) GW154.out); have hn170_1 : ad170.block ≠ gb154 := Nat.ne_of_lt (Nat.lt_of_lt_of_le (by have := World.block_lt_of_cell? _ _ hx170_0; first | rwa [add_block] at this | exact this) GW154.out); have hn170_2 : ad170.block ≠ gb154 := Nat.ne_of_lt (Nat.lt_of_lt_of_le (by have := World.block_lt_of_cell? _ _ hx170_0; first | rwa [add_block] at this | exact this) GW154.out); have hn170_3 : ad170.block ≠ gb154 := Nat.ne_of_lt (Nat.lt_of_lt_of_le (by have := World.block_lt_of_cell? _ _ hx170_0; first | rwa [add_block] at this | exact this) GW154.out); have hn170_4 : ad170.block ≠ gb154 := Nat.ne_of_lt (Nat.lt_of_lt_of_le (by have := World.block_lt_of_cell? _ _ hx170_0; first | rwa [add_block] at this | exact this) GW154.out); replace hx170_0 := (HB.out.cell (World.block_lt_of_cell? w _ hx170_0)).trans hx170_0; replace hx170_0 := (cell_far (p := ⟨gb154, 0, none⟩) (by first | (rw [add_block]; exact hn170_0) | (show (Addr.add _ _).block ≠ _; rw [add_block]; exact hn170_0) | exact hn170_0) (.int .u8 a2_0)).trans hx170_0; replace hx170_0 := (cell_far (p := ⟨gb154, 1, none⟩) (by first | (rw [add_block]; exact hn170_1) | (show (Addr.add _ _).block ≠ _; rw [add_block]; exact hn170_1) | exact hn170_1) (.int .u8 a2_1)).trans hx170_0; replace hx170_0 := (cell_far (p := ⟨gb154, 2, none⟩) (by first | (rw [add_block]; exact hn170_2) | (show (Addr.add _ _).block ≠ _; rw [add_block]; exact hn170_2) | exact hn170_2) (.int .u8 a2_2)).trans hx170_0; replace hx170_0 := (cell_far (p := ⟨gb154, 3, none⟩) (by first | (rw [add_block]; exact hn170_3) | (show (Addr.add _ _).block ≠ _; rw [add_block]; exact hn170_3) | exact hn170_3) (.int .u8 a2_3)).trans hx170_0; replace hx170_0 := (cell_far (p := ⟨gb154, 4, none⟩) (by first | (rw [add_block]; exact hn170_4) | (show (Addr.add _ _).block ≠ _; rw [add_block]; exact hn170_4) | exact hn170_4) (.int .i64 0)).trans hx170_0; clear hn170_0; clear hn170_1; clear hn170_2; clear hn170_3; clear hn170_4; replace p170 := eq_true p170; replace q170 := eq_true q170) | ((with_reducible refine gate_callee (f := 25) rfl ?_); refine goesL_ (some 66) rfl rfl Tryz.func25 (by kernel_rfl) rfl #[.string (rdOf ByteArray.empty l1_1 0)] rfl (by (try simp only [List.map_toArray, List.map_cons, List.map_nil]); first | done | rfl | (simp only [List.length_drop, List.length_take]; rfl)) ?_; (with_reducible refine (wharfingerref04_Find.calls (rdOf ByteArray.empty l1_1 0) t171 true _ A93.out).mono ?_); rintro e w106 ⟨rfl, hb⟩; refine ⟨_, rfl, ?_⟩; have n0_ := Aside0.mk (blk_below (g := gb151) (o := .cells #[.int .i64 a1_0, .slice (some ad170) l1_1.length c1_1] 26 (0, 0)) (by (iterate 5 ((with_reducible repeat (first | refine blk_drewN ?_ _ | refine blk_drew ?_ | refine blk_alloc ?_ _)); refine blk_far ?_ NB151_154.out _)); (with_reducible repeat (first | refine blk_drewN ?_ _ | refine blk_drew ?_ | refine blk_alloc ?_ _)); exact BK151.out) hb); have n1_ := Aside0.mk (blk_below (g := gb152) (o := .cells #[.int .u8 a2_0, .int .u8 a2_1, .int .u8 a2_2, .int .u8 a2_3] 28 (0, 0)) (by (iterate 5 ((with_reducible repeat (first | refine blk_drewN ?_ _ | refine blk_drew ?_ | refine blk_alloc ?_ _)); refine blk_far ?_ NB152_154.out _)); (with_reducible repeat (first | refine blk_drewN ?_ _ | refine blk_drew ?_ | refine blk_alloc ?_ _)); exact BK152.out) hb); have n2_ := Aside0.mk (blk_below (g := gb153) (o := .cells #[.int .u8 0, .int .u8 0, .int .u8 0, .int .u8 0, .int .i64 0] 30 (0, 0)) (by (iterate 5 ((with_reducible repeat (first | refine blk_drewN ?_ _ | refine blk_drew ?_ | refine blk_alloc ?_ _)); refine blk_far ?_ NB153_154.out _)); (with_reducible repeat (first | refine blk_drewN ?_ _ | refine blk_drew ?_ | refine blk_alloc ?_ _)); exact BK153.out) hb); have n3_ := Aside0.mk (blk_below (g := gb154) (o := .cells #[.int .u8 a2_0, .int .u8 a2_1, .int .u8 a2_2, .int .u8 a2_3, .int .i64 0] 30 (0, 0)) (by (with_reducible repeat (first | refine blk_drewN ?_ _ | refine blk_drew ?_ | refine blk_alloc ?_ _)); refine blk_put (cs := #[.int .u8 a2_0, .int .u8 a2_1, .int .u8 a2_2, .int .u8 a2_3, .int .i64 0]) ?_ 4 _ rfl; (with_reducible repeat (first | refine blk_drewN ?_ _ | refine blk_drew ?_ | refine blk_alloc ?_ _)); refine blk_put (cs := #[.int .u8 a2_0, .int .u8 a2_1, .int .u8 a2_2, .int .u8 0, .int .i64 0]) ?_ 3 _ rfl; (with_reducible repeat (first | refine blk_drewN ?_ _ | refine blk_drew ?_ | refine blk_alloc ?_ _)); refine blk_put (cs := #[.int .u8 a2_0, .int .u8 a2_1, .int .u8 0, .int .u8 0, .int .i64 0]) ?_ 2 _ rfl; (with_reducible repeat (first | refine blk_drewN ?_ _ | refine blk_drew ?_ | refine blk_alloc ?_ _)); refine blk_put (cs := #[.int .u8 a2_0, .int .u8 0, .int .u8 0, .int .u8 0, .int .i64 0]) ?_ 1 _ rfl; (with_reducible repeat (first | refine blk_drewN ?_ _ | refine blk_drew ?_ | refine blk_alloc ?_ _)); refine blk_put (cs := #[.int .u8 0, .int .u8 0, .int .u8 0, .int .u8 0, .int .i64 0]) ?_ 0 _ rfl; (with_reducible repeat (first | refine blk_drewN ?_ _ | refine blk_drew ?_ | refine blk_alloc ?_ _)); exact BK154.out) hb); have n4_ := Aside0.mk (below_step (by repeat (first | (with_reducible first | exact HB.out | apply below_alloc | apply pw_below_drewN | apply below_drew1 | refine below_set ?_ GE151.out | refine below_set ?_ GE152.out | refine below_set ?_ GE153.out | refine below_set ?_ GE154.out) | exact HB.out)) hb); clear BK151; clear BK152; clear BK153; clear BK154; clear HB; have BK151 := n0_; have BK152 := n1_; have BK153 := n2_; have BK154 := n3_; have HB := n4_; clear n0_ n1_ n2_ n3_ n4_; (try clear hb); (try clear hb2); (try clear hk); (try clear hi); obtain ⟨hcz107_0, hcz107_1, hcz107_2, hcz107_3, hcz107_4⟩ := cl_5 (.int .u8 a2_0) (.int .u8 a2_1) (.int .u8 a2_2) (.int .u8 a2_3) (.int .i64 0) BK154.out; obtain ⟨hfz107_0, hfz107_1, hfz107_2, hfz107_3, hfz107_4⟩ := fz_5 BK154.out; obtain ⟨hcz108_0, hcz108_1, hcz108_2, hcz108_3⟩ := cl_4 (.int .u8 a2_0) (.int .u8 a2_1) (.int .u8 a2_2) (.int .u8 a2_3) BK152.out; obtain ⟨hfz108_0, hfz108_1, hfz108_2, hfz108_3⟩ := fz_4 BK152.out) | ((with_reducible refine gate_callee (f := 21) rfl ?_); refine goesL_ (some 77) rfl rfl Tryz.func21 (by kernel_rfl) rfl #[.agg #[.int .u8 a2_0, .int .u8 a2_1, .int .u8 a2_2, .int .u8 a2_3, .int .i64 t171], .agg #[.int .u8 a2_0, .int .u8 a2_1, .int .u8 a2_2, .int .u8 a2_3]] rfl (by (try simp only [List.map_toArray, List.map_cons, List.map_nil]); first | done | rfl | (simp only [List.length_drop, List.length_take]; rfl)) ?_; (with_reducible refine (wharfingerref19_own.calls a2_0 a2_1 a2_2 a2_3 t171 a2_0 a2_1 a2_2 a2_3 t173 t174 t175 t176 t177 t178 _ A95.out).mono ?_); rintro e w109 ⟨rfl, hb⟩; refine ⟨_, rfl, ?_⟩; have n0_ := Aside0.mk (blk_below (g := gb151) (o := .cells #[.int .i64 a1_0, .slice (some ad170) l1_1.length c1_1] 26 (0, 0)) (by (with_reducible repeat (first | refine blk_drewN ?_ _ | refine blk_drew ?_ | refine blk_alloc ?_ _)); refine blk_far ?_ NB151_154.out _; (with_reducible repeat (first | refine blk_drewN ?_ _ | refine blk_drew ?_ | refine blk_alloc ?_ _)); exact BK151.out) hb); have n1_ := Aside0.mk (blk_below (g := gb152) (o := .cells #[.int .u8 a2_0, .int .u8 a2_1, .int .u8 a2_2, .int .u8 a2_3] 28 (0, 0)) (by (with_reducible repeat (first | refine blk_drewN ?_ _ | refine blk_drew ?_ | refine blk_alloc ?_ _)); refine blk_far ?_ NB152_154.out _; (with_reducible repeat (first | refine blk_drewN ?_ _ | refine blk_drew ?_ | refine blk_alloc ?_ _)); exact BK152.out) hb); have n2_ := Aside0.mk (blk_below (g := gb153) (o := .cells #[.int .u8 0, .int .u8 0, .int .u8 0, .int .u8 0, .int .i64 0] 30 (0, 0)) (by (with_reducible repeat (first | refine blk_drewN ?_ _ | refine blk_drew ?_ | refine blk_alloc ?_ _)); refine blk_far ?_ NB153_154.out _; (with_reducible repeat (first | refine blk_drewN ?_ _ | refine blk_drew ?_ | refine blk_alloc ?_ _)); exact BK153.out) hb); have n3_ := Aside0.mk (blk_below (g := gb154) (o := .cells #[.int .u8 a2_0, .int .u8 a2_1, .int .u8 a2_2, .int .u8 a2_3, .int .i64 t171] 30 (0, 0)) (by (with_reducible repeat (first | refine blk_drewN ?_ _ | refine blk_drew ?_ | refine blk_alloc ?_ _)); refine blk_put (cs := #[.int .u8 a2_0, .int .u8 a2_1, .int .u8 a2_2, .int .u8 a2_3, .int .i64 0]) ?_ 4 _ rfl; (with_reducible repeat (first | refine blk_drewN ?_ _ | refine blk_drew ?_ | refine blk_alloc ?_ _)); exact BK154.out) hb); have n4_ := Aside0.mk (below_step (by repeat (first | (with_reducible first | exact HB.out | apply below_alloc | apply pw_below_drewN | apply below_drew1 | refine below_set ?_ GE151.out | refine below_set ?_ GE152.out | refine below_set ?_ GE153.out | refine below_set ?_ GE154.out) | exact HB.out)) hb); clear BK151; clear BK152; clear BK153; clear BK154; clear HB; have BK151 := n0_; have BK152 := n1_; have BK153 := n2_; have BK154 := n3_; have HB := n4_; clear n0_ n1_ n2_ n3_ n4_; (try clear hb); (try clear hb2); (try clear hk); (try clear hi)) | ((with_reducible refine gate_dst (N := 13) rfl ?_); refine box_event ?hg (N := 13) ?hd (cs := #[.int .u8 0, .int .u8 0, .int .u8 0, .int .u8 0, .int .i64 0]) (t := 30) ?hr ?_; (case hd => rfl); (case hg => rfl); (case hr => first | (go_simp; done) | (go_simp; rfl)); intro gb179 hg w110 hbox hb; have n0_ := Aside0.mk (blk_below (g := gb151) (o := .cells #[.int .i64 a1_0, .slice (some ad170) l1_1.length c1_1] 26 (0, 0)) (by (with_reducible repeat (first | refine blk_drewN ?_ _ | refine blk_drew ?_ | refine blk_alloc ?_ _)); exact BK151.out) hb); have n1_ := Aside0.mk (blk_below (g := gb152) (o := .cells #[.int .u8 a2_0, .int .u8 a2_1, .int .u8 a2_2, .int .u8 a2_3] 28 (0, 0)) (by (with_reducible repeat (first | refine blk_drewN ?_ _ | refine blk_drew ?_ | refine blk_alloc ?_ _)); exact BK152.out) hb); have n2_ := Aside0.mk (blk_below (g := gb153) (o := .cells #[.int .u8 0, .int .u8 0, .int .u8 0, .int .u8 0, .int .i64 0] 30 (0, 0)) (by (with_reducible repeat (first | refine blk_drewN ?_ _ | refine blk_drew ?_ | refine blk_alloc ?_ _)); exact BK153.out) hb); have n3_ := Aside0.mk (blk_below (g := gb154) (o := .cells #[.int .u8 a2_0, .int .u8 a2_1, .int .u8 a2_2, .int .u8 a2_3, .int .i64 t171] 30 (0, 0)) (by (with_reducible repeat (first | refine blk_drewN ?_ _ | refine blk_drew ?_ | refine blk_alloc ?_ _)); exact BK154.out) hb); have n4_ := Aside0.mk (below_step (by repeat (first | (with_reducible first | exact HB.out | apply below_alloc | apply pw_below_drewN | apply below_drew1 | refine below_set ?_ GE151.out | refine below_set ?_ GE152.out | refine below_set ?_ GE153.out | refine below_set ?_ GE154.out) | exact HB.out)) hb); have n5_ := Aside0.mk (hbox); have n6_ := Aside0.mk ((by rw [hg]; exact (below_size (by repeat (first | (with_reducible first | exact HB.out | apply below_alloc | apply pw_below_drewN | apply below_drew1 | refine below_set ?_ GE151.out | refine below_set ?_ GE152.out | refine below_set ?_ GE153.out | refine below_set ?_ GE154.out) | exact HB.out))) : w.heap.size ≤ gb179)); have n7_ := Aside0.mk ((by rw [hg]; exact (below_size (by repeat (first | (with_reducible first | exact HB.out | apply below_alloc | apply pw_below_drewN | apply below_drew1 | refine below_set ?_ GE151.out | refine below_set ?_ GE152.out | refine below_set ?_ GE153.out | refine below_set ?_ GE154.out) | exact HB.out))) : w.heap.size ≤ gb179)); have n8_ := Aside0.mk ((by rw [hg]; exact Nat.ne_of_lt (blk_lt (g := gb151) (o := .cells #[.int .i64 a1_0, .slice (some ad170) l1_1.length c1_1] 26 (0, 0)) (by (with_reducible repeat (first | refine blk_drewN ?_ _ | refine blk_drew ?_ | refine blk_alloc ?_ _)); exact BK151.out)) : gb151 ≠ gb179)); have n9_ := Aside0.mk ((by rw [hg]; exact Nat.ne_of_gt (blk_lt (g := gb151) (o := .cells #[.int .i64 a1_0, .slice (some ad170) l1_1.length c1_1] 26 (0, 0)) (by (with_reducible repeat (first | refine blk_drewN ?_ _ | refine blk_drew ?_ | refine blk_alloc ?_ _)); exact BK151.out)) : gb179 ≠ gb151)); have n10_ := Aside0.mk ((by rw [hg]; exact Nat.ne_of_lt (blk_lt (g := gb152) (o := .cells #[.int .u8 a2_0, .int .u8 a2_1, .int .u8 a2_2, .int .u8 a2_3] 28 (0, 0)) (by (with_reducible repeat (first | refine blk_drewN ?_ _ | refine blk_drew ?_ | refine blk_alloc ?_ _)); exact BK152.out)) : gb152 ≠ gb179)); have n11_ := Aside0.mk ((by rw [hg]; exact Nat.ne_of_gt (blk_lt (g := gb152) (o := .cells #[.int .u8 a2_0, .int .u8 a2_1, .int .u8 a2_2, .int .u8 a2_3] 28 (0, 0)) (by (with_reducible repeat (first | refine blk_drewN ?_ _ | refine blk_drew ?_ | refine blk_alloc ?_ _)); exact BK152.out)) : gb179 ≠ gb152)); have n12_ := Aside0.mk ((by rw [hg]; exact Nat.ne_of_lt (blk_lt (g := gb153) (o := .cells #[.int .u8 0, .int .u8 0, .int .u8 0, .int .u8 0, .int .i64 0] 30 (0, 0)) (by (with_reducible repeat (first | refine blk_drewN ?_ _ | refine blk_drew ?_ | refine blk_alloc ?_ _)); exact BK153.out)) : gb153 ≠ gb179)); have n13_ := Aside0.mk ((by rw [hg]; exact Nat.ne_of_gt (blk_lt (g := gb153) (o := .cells #[.int .u8 0, .int .u8 0, .int .u8 0, .int .u8 0, .int .i64 0] 30 (0, 0)) (by (with_reducible repeat (first | refine blk_drewN ?_ _ | refine blk_drew ?_ | refine blk_alloc ?_ _)); exact BK153.out)) : gb179 ≠ gb153)); have n14_ := Aside0.mk ((by rw [hg]; exact Nat.ne_of_lt (blk_lt (g := gb154) (o := .cells #[.int .u8 a2_0, .int .u8 a2_1, .int .u8 a2_2, .int .u8 a2_3, .int .i64 t171] 30 (0, 0)) (by (with_reducible repeat (first | refine blk_drewN ?_ _ | refine blk_drew ?_ | refine blk_alloc ?_ _)); exact BK154.out)) : gb154 ≠ gb179)); have n15_ := Aside0.mk ((by rw [hg]; exact Nat.ne_of_gt (blk_lt (g := gb154) (o := .cells #[.int .u8 a2_0, .int .u8 a2_1, .int .u8 a2_2, .int .u8 a2_3, .int .i64 t171] 30 (0, 0)) (by (with_reducible repeat (first | refine blk_drewN ?_ _ | refine blk_drew ?_ | refine blk_alloc ?_ _)); exact BK154.out)) : gb179 ≠ gb154)); clear BK151; clear BK152; clear BK153; clear BK154; clear HB; have BK151 := n0_; have BK152 := n1_; have BK153 := n2_; have BK154 := n3_; have HB := n4_; have BK179 := n5_; have GW179 := n6_; have GE179 := n7_; have NB151_179 := n8_; have NB179_151 := n9_; have NB152_179 := n10_; have NB179_152 := n11_; have NB153_179 := n12_; have NB179_153 := n13_; have NB154_179 := n14_; have NB179_154 := n15_; clear n0_ n1_ n2_ n3_ n4_ n5_ n6_ n7_ n8_ n9_ n10_ n11_ n12_ n13_ n14_ n15_; clear hb hbox hg; have hnb111 := NB179_151.out; have hnc111 := NB151_179.out; have hnb112 := NB179_152.out; have hnc112 := NB152_179.out; have hnb113 := NB179_153.out; have hnc113 := NB153_179.out; have hnb114 := NB179_154.out; have hnc114 := NB154_179.out; obtain ⟨hcz115_0, hcz115_1, hcz115_2, hcz115_3, hcz115_4⟩ := cl_5 (.int .u8 0) (.int .u8 0) (.int .u8 0) (.int .u8 0) (.int .i64 0) BK179.out; obtain ⟨hfz115_0, hfz115_1, hfz115_2, hfz115_3, hfz115_4⟩ := fz_5 BK179.out; obtain ⟨hcz116_0, hcz116_1, hcz116_2, hcz116_3, hcz116_4⟩ := cl_5 (.int .u8 0) (.int .u8 0) (.int .u8 0) (.int .u8 0) (.int .i64 0) BK153.out; obtain ⟨hfz116_0, hfz116_1, hfz116_2, hfz116_3, hfz116_4⟩ := fz_5 BK153.out))
          refine bodyPost_ret (results_ct rfl _ _ gb153 30 #[.int .u8 t173, .int .u8 t174, .int .u8 t175, .int .u8 t176, .int .i64 t177] (0, 0) _ rfl (by (with_reducible repeat (first | refine blk_drewN ?_ _ | refine blk_drew ?_ | refine blk_alloc ?_ _)); refine blk_put (cs := #[.int .u8 t173, .int .u8 t174, .int .u8 t175, .int .u8 t176, .int .i64 0]) ?_ 4 _ rfl; (with_reducible repeat (first | refine blk_drewN ?_ _ | refine blk_drew ?_ | refine blk_alloc ?_ _)); refine blk_put (cs := #[.int .u8 t173, .int .u8 t174, .int .u8 t175, .int .u8 0, .int .i64 0]) ?_ 3 _ rfl; (with_reducible repeat (first | refine blk_drewN ?_ _ | refine blk_drew ?_ | refine blk_alloc ?_ _)); refine blk_put (cs := #[.int .u8 t173, .int .u8 t174, .int .u8 0, .int .u8 0, .int .i64 0]) ?_ 2 _ rfl; (with_reducible repeat (first | refine blk_drewN ?_ _ | refine blk_drew ?_ | refine blk_alloc ?_ _)); refine blk_put (cs := #[.int .u8 t173, .int .u8 0, .int .u8 0, .int .u8 0, .int .i64 0]) ?_ 1 _ rfl; (with_reducible repeat (first | refine blk_drewN ?_ _ | refine blk_drew ?_ | refine blk_alloc ?_ _)); refine blk_put (cs := #[.int .u8 0, .int .u8 0, .int .u8 0, .int .u8 0, .int .i64 0]) ?_ 0 _ rfl; (iterate 5 ((with_reducible repeat (first | refine blk_drewN ?_ _ | refine blk_drew ?_ | refine blk_alloc ?_ _)); refine blk_far ?_ NB153_179.out _)); (with_reducible repeat (first | refine blk_drewN ?_ _ | refine blk_drew ?_ | refine blk_alloc ?_ _)); exact BK153.out) Tryz.underlying30 rfl (by kernel_rfl)) rfl ?_
          exact ⟨by first | rfl | (simp [errW_none, errW_some] <;> rfl) | (simp [*, errW_none, errW_some] <;> rfl), by repeat (first | (with_reducible first | exact HB.out | apply below_alloc | apply pw_below_drewN | apply below_drew1 | refine below_set ?_ GE151.out | refine below_set ?_ GE152.out | refine below_set ?_ GE153.out | refine below_set ?_ GE154.out | refine below_set ?_ GE179.out) | exact HB.out)⟩
         ·
          replace c94 := Bool.eq_false_iff.mpr c94
          subst c94
          have H1 : (some (0, 0, 0, 0, 0, 2)) = some (r1, r2, r3, r4, r5, r6) := by rw [if_neg (show ¬ (false = true) by decide)] at H; exact H
          clear H
          have H := H1
          clear H1
          simp only [Option.some.injEq, Prod.mk.injEq] at H
          obtain ⟨rfl, rfl, rfl, rfl, rfl, rfl⟩ := H
          have hnb117 := NB152_151.out
          have hnc117 := NB151_152.out
          have hnb118 := NB152_153.out
          have hnc118 := NB153_152.out
          have hcz119_0 : wc.cell? ⟨gb152, 0, none⟩ = some (.int .u8 a2_0) := (blk_cell BK152.out 0).trans rfl
          have hcz119_1 : wc.cell? ⟨gb152, 1, none⟩ = some (.int .u8 a2_1) := (blk_cell BK152.out 1).trans rfl
          have hcz119_2 : wc.cell? ⟨gb152, 2, none⟩ = some (.int .u8 a2_2) := (blk_cell BK152.out 2).trans rfl
          have hcz119_3 : wc.cell? ⟨gb152, 3, none⟩ = some (.int .u8 a2_3) := (blk_cell BK152.out 3).trans rfl
          have hfz119_0 := blk_frozen BK152.out 0
          have hfz119_1 := blk_frozen BK152.out 1
          have hfz119_2 := blk_frozen BK152.out 2
          have hfz119_3 := blk_frozen BK152.out 3
          go_wp2_with (first | ((with_reducible refine gate_dst (N := 8) rfl ?_); refine box_event ?hg (N := 8) ?hd (cs := #[.int .u8 0, .int .u8 0, .int .u8 0, .int .u8 0, .int .i64 0]) (t := 30) ?hr ?_; (case hd => rfl); (case hg => rfl); (case hr => first | (go_simp; done) | (go_simp; rfl)); intro gb154 hg w120 hbox hb; have n0_ := Aside0.mk (blk_below (g := gb151) (o := .cells #[.int .i64 a1_0, .slice A1_1 l1_1.length c1_1] 26 (0, 0)) (by (with_reducible repeat (first | refine blk_drewN ?_ _ | refine blk_drew ?_ | refine blk_alloc ?_ _)); exact BK151.out) hb); have n1_ := Aside0.mk (blk_below (g := gb152) (o := .cells #[.int .u8 a2_0, .int .u8 a2_1, .int .u8 a2_2, .int .u8 a2_3] 28 (0, 0)) (by (with_reducible repeat (first | refine blk_drewN ?_ _ | refine blk_drew ?_ | refine blk_alloc ?_ _)); exact BK152.out) hb); have n2_ := Aside0.mk (blk_below (g := gb153) (o := .cells #[.int .u8 0, .int .u8 0, .int .u8 0, .int .u8 0, .int .i64 0] 30 (0, 0)) (by (with_reducible repeat (first | refine blk_drewN ?_ _ | refine blk_drew ?_ | refine blk_alloc ?_ _)); exact BK153.out) hb); have n3_ := Aside0.mk (below_step (by repeat (first | (with_reducible first | exact HB.out | apply below_alloc | apply pw_below_drewN | apply below_drew1 | refine below_set ?_ GE151.out | refine below_set ?_ GE152.out | refine below_set ?_ GE153.out) | exact HB.out)) hb); have n4_ := Aside0.mk (hbox); have n5_ := Aside0.mk ((by rw [hg]; exact (below_size (by repeat (first | (with_reducible first | exact HB.out | apply below_alloc | apply pw_below_drewN | apply below_drew1 | refine below_set ?_ GE151.out | refine below_set ?_ GE152.out | refine below_set ?_ GE153.out) | exact HB.out))) : w.heap.size ≤ gb154)); have n6_ := Aside0.mk ((by rw [hg]; exact (below_size (by repeat (first | (with_reducible first | exact HB.out | apply below_alloc | apply pw_below_drewN | apply below_drew1 | refine below_set ?_ GE151.out | refine below_set ?_ GE152.out | refine below_set ?_ GE153.out) | exact HB.out))) : w.heap.size ≤ gb154)); have n7_ := Aside0.mk ((by rw [hg]; exact Nat.ne_of_lt (blk_lt (g := gb151) (o := .cells #[.int .i64 a1_0, .slice A1_1 l1_1.length c1_1] 26 (0, 0)) (by (with_reducible repeat (first | refine blk_drewN ?_ _ | refine blk_drew ?_ | refine blk_alloc ?_ _)); exact BK151.out)) : gb151 ≠ gb154)); have n8_ := Aside0.mk ((by rw [hg]; exact Nat.ne_of_gt (blk_lt (g := gb151) (o := .cells #[.int .i64 a1_0, .slice A1_1 l1_1.length c1_1] 26 (0, 0)) (by (with_reducible repeat (first | refine blk_drewN ?_ _ | refine blk_drew ?_ | refine blk_alloc ?_ _)); exact BK151.out)) : gb154 ≠ gb151)); have n9_ := Aside0.mk ((by rw [hg]; exact Nat.ne_of_lt (blk_lt (g := gb152) (o := .cells #[.int .u8 a2_0, .int .u8 a2_1, .int .u8 a2_2, .int .u8 a2_3] 28 (0, 0)) (by (with_reducible repeat (first | refine blk_drewN ?_ _ | refine blk_drew ?_ | refine blk_alloc ?_ _)); exact BK152.out)) : gb152 ≠ gb154)); have n10_ := Aside0.mk ((by rw [hg]; exact Nat.ne_of_gt (blk_lt (g := gb152) (o := .cells #[.int .u8 a2_0, .int .u8 a2_1, .int .u8 a2_2, .int .u8 a2_3] 28 (0, 0)) (by (with_reducible repeat (first | refine blk_drewN ?_ _ | refine blk_drew ?_ | refine blk_alloc ?_ _)); exact BK152.out)) : gb154 ≠ gb152)); have n11_ := Aside0.mk ((by rw [hg]; exact Nat.ne_of_lt (blk_lt (g := gb153) (o := .cells #[.int .u8 0, .int .u8 0, .int .u8 0, .int .u8 0, .int .i64 0] 30 (0, 0)) (by (with_reducible repeat (first | refine blk_drewN ?_ _ | refine blk_drew ?_ | refine blk_alloc ?_ _)); exact BK153.out)) : gb153 ≠ gb154)); have n12_ := Aside0.mk ((by rw [hg]; exact Nat.ne_of_gt (blk_lt (g := gb153) (o := .cells #[.int .u8 0, .int .u8 0, .int .u8 0, .int .u8 0, .int .i64 0] 30 (0, 0)) (by (with_reducible repeat (first | refine blk_drewN ?_ _ | refine blk_drew ?_ | refine blk_alloc ?_ _)); exact BK153.out)) : gb154 ≠ gb153)); clear BK151; clear BK152; clear BK153; clear HB; have BK151 := n0_; have BK152 := n1_; have BK153 := n2_; have HB := n3_; have BK154 := n4_; have GW154 := n5_; have GE154 := n6_; have NB151_154 := n7_; have NB154_151 := n8_; have NB152_154 := n9_; have NB154_152 := n10_; have NB153_154 := n11_; have NB154_153 := n12_; clear n0_ n1_ n2_ n3_ n4_ n5_ n6_ n7_ n8_ n9_ n10_ n11_ n12_; clear hb hbox hg; have hnb121 := NB154_151.out; have hnc121 := NB151_154.out; have hnb122 := NB154_152.out; have hnc122 := NB152_154.out; have hnb123 := NB154_153.out; have hnc123 := NB153_154.out; obtain ⟨hcz124_0, hcz124_1, hcz124_2, hcz124_3, hcz124_4⟩ := cl_5 (.int .u8 0) (.int .u8 0) (.int .u8 0) (.int .u8 0) (.int .i64 0) BK154.out; obtain ⟨hfz124_0, hfz124_1, hfz124_2, hfz124_3, hfz124_4⟩ := fz_5 BK154.out; have hnb125 := NB151_153.out; have hnc125 := NB153_151.out; obtain ⟨hcz126_0, hcz126_1⟩ := cl_2 (.int .i64 a1_0) (.slice A1_1 l1_1.length c1_1) BK151.out; obtain ⟨hfz126_0, hfz126_1⟩ := fz_2 BK151.out; have p170 : 0 ≤ (0 : Int) := (by omega); have q170 : 0 < (l1_1.length : Int) := of_decide_eq_true (by first | (with_reducible assumption) | assumption); obtain ⟨ad170, e170, hx170_0⟩ := Kd.at_string HR1_1.out 0 p170 q170; cases e170; have qi170 : (0 < l1_1.length) = True := eq_true (by omega); (try rw [show ((0 : Int)).toNat = 0 from rfl] at hx170_0); (try rw [Addr.add_zero'] at hx170_0); have hn170_0 : ad170.block ≠ gb154 := Nat.ne_of_lt (Nat.lt_of_lt_of_le (by have := World.block_lt_of_cell? _ _ hx170_0; first | rwa [add_block] at this | exact this) GW154.out); have hn170_1 : ad170.block ≠ gb154 := Nat.ne_of_lt (Nat.lt_of_lt_of_le (by have := World.block_lt_of_cell? _ _ hx170_0; first | rwa [add_block] at this | exact this) GW154.out); have hn170_2 : ad170.block ≠ gb154 := Nat.ne_of_lt (Nat.lt_of_lt_of_le (by have := World.block_lt_of_cell? _ _ hx170_0; first | rwa [add_block] at this | exact this) GW154.out); have hn170_3 : ad170.block ≠ gb154 := Nat.ne_of_lt (Nat.lt_of_lt_of_le (by have := World.block_lt_of_cell? _ _ hx170_0; first | rwa [add_block] at this | exact this) GW154.out); have hn170_4 : ad170.block ≠ gb154 := Nat.ne_of_lt (Nat.lt_of_lt_of_le (by have := World.block_lt_of_cell? _ _ hx170_0; first | rwa [add_block] at this | exact this) GW154.out); replace hx170_0 := (HB.out.cell (World.block_lt_of_cell? w _ hx170_0)).trans hx170_0; replace hx170_0 := (cell_far (p := ⟨gb154, 0, none⟩) (by first | (rw [add_block]; exact hn170_0) | (show (Addr.add _ _).block ≠ _; rw [add_block]; exact hn170_0) | exact hn170_0) (.int .u8 a2_0)).trans hx170_0; replace hx170_0 := (cell_far (p := ⟨gb154, 1, none⟩) (by first | (rw [add_block]; exact hn170_1) | (show (Addr.add _ _).block ≠ _; rw [add_block]; exact hn170_1) | exact hn170_1) (.int .u8 a2_1)).trans hx170_0; replace hx170_0 := (cell_far (p := ⟨gb154, 2, none⟩) (by first | (rw [add_block]; exact hn170_2) | (show (Addr.add _ _).block ≠ _; rw [add_block]; exact hn170_2) | exact hn170_2) (.int .u8 a2_2)).trans hx170_0; replace hx170_0 := (cell_far (p := ⟨gb154, 3, none⟩) (by first | (rw [add_block]; exact hn170_3) | (show (Addr.add _ _).block ≠ _; rw [add_block]; exact hn170_3) | exact hn170_3) (.int .u8 a2_3)).trans hx170_0; replace hx170_0 := (cell_far (p := ⟨gb154, 4, none⟩) (by first | (rw [add_block]; exact hn170_4) | (show (Addr.add _ _).block ≠ _; rw [add_block]; exact hn170_4) | exact hn170_4) (.int .i64 0)).trans hx170_0; clear hn170_0; clear hn170_1; clear hn170_2; clear hn170_3; clear hn170_4; replace p170 := eq_true p170; replace q170 := eq_true q170) | ((with_reducible refine gate_callee (f := 25) rfl ?_); refine goesL_ (some 66) rfl rfl Tryz.func25 (by kernel_rfl) rfl #[.string (rdOf ByteArray.empty l1_1 0)] rfl (by (try simp only [List.map_toArray, List.map_cons, List.map_nil]); first | done | rfl | (simp only [List.length_drop, List.length_take]; rfl)) ?_; (with_reducible refine (wharfingerref04_Find.calls (rdOf ByteArray.empty l1_1 0) t171 false _ A93.out).mono ?_); rintro e w127 ⟨rfl, hb⟩; refine ⟨_, rfl, ?_⟩; have n0_ := Aside0.mk (blk_below (g := gb151) (o := .cells #[.int .i64 a1_0, .slice (some ad170) l1_1.length c1_1] 26 (0, 0)) (by (iterate 5 ((with_reducible repeat (first | refine blk_drewN ?_ _ | refine blk_drew ?_ | refine blk_alloc ?_ _)); refine blk_far ?_ NB151_154.out _)); (with_reducible repeat (first | refine blk_drewN ?_ _ | refine blk_drew ?_ | refine blk_alloc ?_ _)); exact BK151.out) hb); have n1_ := Aside0.mk (blk_below (g := gb152) (o := .cells #[.int .u8 a2_0, .int .u8 a2_1, .int .u8 a2_2, .int .u8 a2_3] 28 (0, 0)) (by (iterate 5 ((with_reducible repeat (first | refine blk_drewN ?_ _ | refine blk_drew ?_ | refine blk_alloc ?_ _)); refine blk_far ?_ NB152_154.out _)); (with_reducible repeat (first | refine blk_drewN ?_ _ | refine blk_drew ?_ | refine blk_alloc ?_ _)); exact BK152.out) hb); have n2_ := Aside0.mk (blk_below (g := gb153) (o := .cells #[.int .u8 0, .int .u8 0, .int .u8 0, .int .u8 0, .int .i64 0] 30 (0, 0)) (by (iterate 5 ((with_reducible repeat (first | refine blk_drewN ?_ _ | refine blk_drew ?_ | refine blk_alloc ?_ _)); refine blk_far ?_ NB153_154.out _)); (with_reducible repeat (first | refine blk_drewN ?_ _ | refine blk_drew ?_ | refine blk_alloc ?_ _)); exact BK153.out) hb); have n3_ := Aside0.mk (blk_below (g := gb154) (o := .cells #[.int .u8 a2_0, .int .u8 a2_1, .int .u8 a2_2, .int .u8 a2_3, .int .i64 0] 30 (0, 0)) (by (with_reducible repeat (first | refine blk_drewN ?_ _ | refine blk_drew ?_ | refine blk_alloc ?_ _)); refine blk_put (cs := #[.int .u8 a2_0, .int .u8 a2_1, .int .u8 a2_2, .int .u8 a2_3, .int .i64 0]) ?_ 4 _ rfl; (with_reducible repeat (first | refine blk_drewN ?_ _ | refine blk_drew ?_ | refine blk_alloc ?_ _)); refine blk_put (cs := #[.int .u8 a2_0, .int .u8 a2_1, .int .u8 a2_2, .int .u8 0, .int .i64 0]) ?_ 3 _ rfl; (with_reducible repeat (first | refine blk_drewN ?_ _ | refine blk_drew ?_ | refine blk_alloc ?_ _)); refine blk_put (cs := #[.int .u8 a2_0, .int .u8 a2_1, .int .u8 0, .int .u8 0, .int .i64 0]) ?_ 2 _ rfl; (with_reducible repeat (first | refine blk_drewN ?_ _ | refine blk_drew ?_ | refine blk_alloc ?_ _)); refine blk_put (cs := #[.int .u8 a2_0, .int .u8 0, .int .u8 0, .int .u8 0, .int .i64 0]) ?_ 1 _ rfl; (with_reducible repeat (first | refine blk_drewN ?_ _ | refine blk_drew ?_ | refine blk_alloc ?_ _)); refine blk_put (cs := #[.int .u8 0, .int .u8 0, .int .u8 0, .int .u8 0, .int .i64 0]) ?_ 0 _ rfl; (with_reducible repeat (first | refine blk_drewN ?_ _ | refine blk_drew ?_ | refine blk_alloc ?_ _)); exact BK154.out) hb); have n4_ := Aside0.mk (below_step (by repeat (first | (with_reducible first | exact HB.out | apply below_alloc | apply pw_below_drewN | apply below_drew1 | refine below_set ?_ GE151.out | refine below_set ?_ GE152.out | refine below_set ?_ GE153.out | refine below_set ?_ GE154.out) | exact HB.out)) hb); clear BK151; clear BK152; clear BK153; clear BK154; clear HB; have BK151 := n0_; have BK152 := n1_; have BK153 := n2_; have BK154 := n3_; have HB := n4_; clear n0_ n1_ n2_ n3_ n4_; (try clear hb); (try clear hb2); (try clear hk); (try clear hi); obtain ⟨hcz128_0, hcz128_1, hcz128_2, hcz128_3, hcz128_4⟩ := cl_5 (.int .u8 0) (.int .u8 0) (.int .u8 0) (.int .u8 0) (.int .i64 0) BK153.out; obtain ⟨hfz128_0, hfz128_1, hfz128_2, hfz128_3, hfz128_4⟩ := fz_5 BK153.out))
          refine bodyPost_ret (results_ct rfl _ _ gb153 30 #[.int .u8 0, .int .u8 0, .int .u8 0, .int .u8 0, .int .i64 0] (0, 0) _ rfl (by (with_reducible repeat (first | refine blk_drewN ?_ _ | refine blk_drew ?_ | refine blk_alloc ?_ _)); refine blk_put (cs := #[.int .u8 0, .int .u8 0, .int .u8 0, .int .u8 0, .int .i64 0]) ?_ 4 _ rfl; (with_reducible repeat (first | refine blk_drewN ?_ _ | refine blk_drew ?_ | refine blk_alloc ?_ _)); refine blk_put (cs := #[.int .u8 0, .int .u8 0, .int .u8 0, .int .u8 0, .int .i64 0]) ?_ 3 _ rfl; (with_reducible repeat (first | refine blk_drewN ?_ _ | refine blk_drew ?_ | refine blk_alloc ?_ _)); refine blk_put (cs := #[.int .u8 0, .int .u8 0, .int .u8 0, .int .u8 0, .int .i64 0]) ?_ 2 _ rfl; (with_reducible repeat (first | refine blk_drewN ?_ _ | refine blk_drew ?_ | refine blk_alloc ?_ _)); refine blk_put (cs := #[.int .u8 0, .int .u8 0, .int .u8 0, .int .u8 0, .int .i64 0]) ?_ 1 _ rfl; (with_reducible repeat (first | refine blk_drewN ?_ _ | refine blk_drew ?_ | refine blk_alloc ?_ _)); refine blk_put (cs := #[.int .u8 0, .int .u8 0, .int .u8 0, .int .u8 0, .int .i64 0]) ?_ 0 _ rfl; (with_reducible repeat (first | refine blk_drewN ?_ _ | refine blk_drew ?_ | refine blk_alloc ?_ _)); exact BK153.out) Tryz.underlying30 rfl (by kernel_rfl)) rfl ?_
          exact ⟨by first | rfl | (simp [errW_none, errW_some] <;> rfl) | (simp [*, errW_none, errW_some] <;> rfl), by repeat (first | (with_reducible first | exact HB.out | apply below_alloc | apply pw_below_drewN | apply below_drew1 | refine below_set ?_ GE151.out | refine below_set ?_ GE152.out | refine below_set ?_ GE153.out | refine below_set ?_ GE154.out) | exact HB.out)⟩
        ·
         rw [if_neg c92] at H
         exact absurd H (by simp)

end Go.Proofs.YtdcbkeihgbekdaaGreatDoor.Q

namespace Go.Proofs.YtdcbkeihgbekdaaGreatDoor.Q
open Go.RowKit Go.Proofs.YtdcbkeihgbekdaaGreatDoor.Turn Go.Proofs.YtdcbkeihgbekdaaGreatDoorW.PrintWords Go.Proofs.YtdcbkeihgbekdaaGreatDoorW.PrintLast Go.Proofs.YtdcbkeihgbekdaaGreatDoorW.PrintMore
attribute [local go_sem] max2_int min2_int max_two min_two max_three min_three max_four min_four   -- for this text's walks alone
set_option linter.unusedVariables false
set_option linter.unusedSimpArgs false

/-! ### wharfingerref19_high: function 29 -/
def wharfingerref19_high.f (a0_0 : Int) (a0_1 : Int) (a0_2 : Int) (a0_3 : Int) (a0_4 : Int) : Option (Bool) := if a0_4 ≥ 1024 then (some (decide (a0_4 ≤ 65535))) else (some false)
set_option maxHeartbeats 8000000 in
set_option maxRecDepth 100000 in
theorem wharfingerref19_high.calls (a0_0 : Int) (a0_1 : Int) (a0_2 : Int) (a0_3 : Int) (a0_4 : Int) (r : Bool) (w : World) (h : wharfingerref19_high.f a0_0 a0_1 a0_2 a0_3 a0_4 = some r) :
  Calls Tryz.prog 29 #[.agg #[.int .u8 a0_0, .int .u8 a0_1, .int .u8 a0_2, .int .u8 a0_3, .int .i64 a0_4]] w fun e w' => e = .returned (.bool r) ∧ Below w.heap.size w w' := by
 have hu30 := Tryz.underlying30
 have HB := Aside0.mk (Below.refl w.heap.size w)
 have H : (if a0_4 ≥ 1024 then (some (decide (a0_4 ≤ 65535))) else (some false)) = some r := h
 clear h
 by_cases c2 : a0_4 ≥ 1024
 ·
  rw [if_pos c2] at H
  have c2b0 : decide (1024 ≤ a0_4) = true := decide_eq_true c2
  clear c2
  obtain rfl := Option.some.inj H
  go_enter Tryz.func29, Tryz.ntmps29
  go_wp2_with (first | ((with_reducible refine gate_dst (N := 1) rfl ?_); refine box_event ?hg (N := 1) ?hd (cs := #[.int .u8 a0_0, .int .u8 a0_1, .int .u8 a0_2, .int .u8 a0_3, .int .i64 a0_4]) (t := 30) ?hr ?_; (case hd => rfl); (case hg => rfl); (case hr => first | (go_simp; done) | (go_simp; rfl)); intro gb180 hg w3 hbox hb; have n0_ := Aside0.mk (below_step (by repeat (first | (with_reducible first | exact HB.out | apply below_alloc | apply pw_below_drewN | apply below_drew1) | exact HB.out)) hb); have n1_ := Aside0.mk (hbox); have n2_ := Aside0.mk ((by rw [hg]; exact (below_size (by repeat (first | (with_reducible first | exact HB.out | apply below_alloc | apply pw_below_drewN | apply below_drew1) | exact HB.out))) : w.heap.size ≤ gb180)); have n3_ := Aside0.mk ((by rw [hg]; exact (below_size (by repeat (first | (with_reducible first | exact HB.out | apply below_alloc | apply pw_below_drewN | apply below_drew1) | exact HB.out))) : w.heap.size ≤ gb180)); clear HB; have HB := n0_; have BK180 := n1_; have GW180 := n2_; have GE180 := n3_; clear n0_ n1_ n2_ n3_; clear hb hbox hg; obtain ⟨hcz4_0, hcz4_1, hcz4_2, hcz4_3, hcz4_4⟩ := cl_5 (.int .u8 a0_0) (.int .u8 a0_1) (.int .u8 a0_2) (.int .u8 a0_3) (.int .i64 a0_4) BK180.out; obtain ⟨hfz4_0, hfz4_1, hfz4_2, hfz4_3, hfz4_4⟩ := fz_5 BK180.out))
  go_ret
  exact ⟨by first | rfl | (simp [errW_none, errW_some] <;> rfl) | (simp [*, errW_none, errW_some] <;> rfl), by repeat (first | (with_reducible first | exact HB.out | apply below_alloc | apply pw_below_drewN | apply below_drew1 | refine below_set ?_ GE180.out) | exact HB.out)⟩
 ·
  rw [if_neg c2] at H
  have c2b0 : decide (1024 ≤ a0_4) = false := decide_eq_false c2
  clear c2
  obtain rfl := Option.some.inj H
  go_enter Tryz.func29, Tryz.ntmps29
  go_wp2_with (first | ((with_reducible refine gate_dst (N := 1) rfl ?_); refine box_event ?hg (N := 1) ?hd (cs := #[.int .u8 a0_0, .int .u8 a0_1, .int .u8 a0_2, .int .u8 a0_3, .int .i64 a0_4]) (t := 30) ?hr ?_; (case hd => rfl); (case hg => rfl); (case hr => first | (go_simp; done) | (go_simp; rfl)); intro gb180 hg w5 hbox hb; have n0_ := Aside0.mk (below_step (by repeat (first | (with_reducible first | exact HB.out | apply below_alloc | apply pw_below_drewN | apply below_drew1) | exact HB.out)) hb); have n1_ := Aside0.mk (hbox); have n2_ := Aside0.mk ((by rw [hg]; exact (below_size (by repeat (first | (with_reducible first | exact HB.out | apply below_alloc | apply pw_below_drewN | apply below_drew1) | exact HB.out))) : w.heap.size ≤ gb180)); have n3_ := Aside0.mk ((by rw [hg]; exact (below_size (by repeat (first | (with_reducible first | exact HB.out | apply below_alloc | apply pw_below_drewN | apply below_drew1) | exact HB.out))) : w.heap.size ≤ gb180)); clear HB; have HB := n0_; have BK180 := n1_; have GW180 := n2_; have GE180 := n3_; clear n0_ n1_ n2_ n3_; clear hb hbox hg; obtain ⟨hcz6_0, hcz6_1, hcz6_2, hcz6_3, hcz6_4⟩ := cl_5 (.int .u8 a0_0) (.int .u8 a0_1) (.int .u8 a0_2) (.int .u8 a0_3) (.int .i64 a0_4) BK180.out; obtain ⟨hfz6_0, hfz6_1, hfz6_2, hfz6_3, hfz6_4⟩ := fz_5 BK180.out))
  go_ret
  exact ⟨by first | rfl | (simp [errW_none, errW_some] <;> rfl) | (simp [*, errW_none, errW_some] <;> rfl), by repeat (first | (with_reducible first | exact HB.out | apply below_alloc | apply pw_below_drewN | apply below_drew1 | refine below_set ?_ GE180.out) | exact HB.out)⟩

end Go.Proofs.YtdcbkeihgbekdaaGreatDoor.Q

namespace Go.Proofs.YtdcbkeihgbekdaaGreatDoor.Q
open Go.RowKit Go.Proofs.YtdcbkeihgbekdaaGreatDoor.Turn Go.Proofs.YtdcbkeihgbekdaaGreatDoorW.PrintWords Go.Proofs.YtdcbkeihgbekdaaGreatDoorW.PrintLast Go.Proofs.YtdcbkeihgbekdaaGreatDoorW.PrintMore
attribute [local go_sem] max2_int min2_int max_two min_two max_three min_three max_four min_four   -- for this text's walks alone
set_option linter.unusedVariables false
set_option linter.unusedSimpArgs false

/-! ### wharfingerref19_Ask: function 10 -/
def wharfingerref19_Ask.j0 : Nat → ByteArray → Bool → Int → Int → Int → Int → Int → Option (ByteArray × ByteArray × Bool)
 | 0, _, _, _, _, _, _, _ => none
 | k + 1, x0, x20, x183000, x183001, x183002, x183003, x183004 => if x20 = true then (some ((⟨#[]⟩ : ByteArray), (⟨#[]⟩ : ByteArray), false)) else ((wharfingerref03_Text.f x183000 x183001 x183002 x183003 x183004).bind fun bt185 => (if x0.toList = ([69, 80, 82, 84] : List UInt8) then ((wharfingerref04_Text.f x183000 x183001 x183002 x183003 x183004).bind fun bt187 => (some (x0, bt187.1, true))) else (some (x0, bt185.1, true))))
def wharfingerref19_Ask.f (k : Nat) (a0 : ByteArray) (a1_0 : Int) (a1_1 : Int) (a1_2 : Int) (a1_3 : Int) (a1_4 : Int) : Option (ByteArray × ByteArray × Bool) := (wharfingerref19_high.f a1_0 a1_1 a1_2 a1_3 a1_4).bind fun t184 => (if t184 = true then (if a0.toList = ([80, 79, 82, 84] : List UInt8) then (wharfingerref19_Ask.j0 k a0 false a1_0 a1_1 a1_2 a1_3 a1_4) else (wharfingerref19_Ask.j0 k a0 (a0.toList != ([69, 80, 82, 84] : List UInt8)) a1_0 a1_1 a1_2 a1_3 a1_4)) else (wharfingerref19_Ask.j0 k a0 true a1_0 a1_1 a1_2 a1_3 a1_4))
theorem wharfingerref19_Ask.mono_l : ∀ k, (∀ y0 y1 y2 y3 y4 y5 y6, LeO (wharfingerref19_Ask.j0 k y0 y1 y2 y3 y4 y5 y6) (wharfingerref19_Ask.j0 (k + 1) y0 y1 y2 y3 y4 y5 y6))
 | 0 => fun _ _ _ _ _ _ _ r h => by simp [wharfingerref19_Ask.j0] at h
 | k + 1 => by
  have ih0 := wharfingerref19_Ask.mono_l k
  ·
   intro y0 y1 y2 y3 y4 y5 y6
   unfold wharfingerref19_Ask.j0
   repeat' first
   | (with_reducible exact ih0 _ _ _ _ _ _ _)
   | (with_reducible exact LeO.refl _)
   | (with_reducible exact LeO.none _)
   | (with_reducible refine LeO.ite ?_ ?_)
   | (with_reducible refine LeO.bind ?_ (fun _ => ?_))
   | exact ih0 _ _ _ _ _ _ _
   | exact LeO.none _
   | refine LeO.ite ?_ ?_
   | refine LeO.bind ?_ (fun _ => ?_)
theorem wharfingerref19_Ask.mono : ∀ a0 a1 a2 a3 a4 a5 k, LeO (wharfingerref19_Ask.f k a0 a1 a2 a3 a4 a5) (wharfingerref19_Ask.f (k + 1) a0 a1 a2 a3 a4 a5) := by
 intro a0 a1 a2 a3 a4 a5 k
 have ih0 := wharfingerref19_Ask.mono_l k
 unfold wharfingerref19_Ask.f
 repeat' first
   | (with_reducible exact ih0 _ _ _ _ _ _ _)
   | (with_reducible exact LeO.refl _)
   | (with_reducible exact LeO.none _)
   | (with_reducible refine LeO.ite ?_ ?_)
   | (with_reducible refine LeO.bind ?_ (fun _ => ?_))
   | exact ih0 _ _ _ _ _ _ _
   | exact LeO.none _
   | refine LeO.ite ?_ ?_
   | refine LeO.bind ?_ (fun _ => ?_)
set_option maxHeartbeats 8000000 in
set_option maxRecDepth 100000 in
theorem wharfingerref19_Ask.calls (k : Nat) (a0 : ByteArray) (a1_0 : Int) (a1_1 : Int) (a1_2 : Int) (a1_3 : Int) (a1_4 : Int) (r1 : ByteArray) (r2 : ByteArray) (r3 : Bool) (w : World) (h : wharfingerref19_Ask.f k a0 a1_0 a1_1 a1_2 a1_3 a1_4 = some (r1, r2, r3)) :
  Calls Tryz.prog 10 #[.string a0, .agg #[.int .u8 a1_0, .int .u8 a1_1, .int .u8 a1_2, .int .u8 a1_3, .int .i64 a1_4]] w fun e w' => e = .returned (.tuple #[.agg #[.string r1, .string r2], .bool r3]) ∧ Below w.heap.size w w' := by
 have hu30 := Tryz.underlying30
 have hu23 := Tryz.underlying23
 have HB := Aside0.mk (Below.refl w.heap.size w)
 have H : ((wharfingerref19_high.f a1_0 a1_1 a1_2 a1_3 a1_4).bind fun t184 => (if t184 = true then (if a0.toList = ([80, 79, 82, 84] : List UInt8) then (wharfingerref19_Ask.j0 k a0 false a1_0 a1_1 a1_2 a1_3 a1_4) else (wharfingerref19_Ask.j0 k a0 (a0.toList != ([69, 80, 82, 84] : List UInt8)) a1_0 a1_1 a1_2 a1_3 a1_4)) else (wharfingerref19_Ask.j0 k a0 true a1_0 a1_1 a1_2 a1_3 a1_4))) = some (r1, r2, r3) := h
 clear h
 replace H := Option.bind_eq_some_iff.mp H
 obtain ⟨t184, A30, H⟩ := H
 replace H : (if t184 = true then (if a0.toList = ([80, 79, 82, 84] : List UInt8) then (wharfingerref19_Ask.j0 k a0 false a1_0 a1_1 a1_2 a1_3 a1_4) else (wharfingerref19_Ask.j0 k a0 (a0.toList != ([69, 80, 82, 84] : List UInt8)) a1_0 a1_1 a1_2 a1_3 a1_4)) else (wharfingerref19_Ask.j0 k a0 true a1_0 a1_1 a1_2 a1_3 a1_4)) = some (r1, r2, r3) := H
 have A3 := Aside0.mk A30
 clear A30
 have HC4 := Aside0.mk H
 clear H
 go_enter Tryz.func10, Tryz.ntmps10
 go_upto_region 2 with (first | ((with_reducible refine gate_dst (N := 3) rfl ?_); refine box_event ?hg (N := 3) ?hd (cs := #[.int .u8 a1_0, .int .u8 a1_1, .int .u8 a1_2, .int .u8 a1_3, .int .i64 a1_4]) (t := 30) ?hr ?_; (case hd => rfl); (case hg => rfl); (case hr => first | (go_simp; done) | (go_simp; rfl)); intro gb182 hg w5 hbox hb; have n0_ := Aside0.mk (below_step (by repeat (first | (with_reducible first | exact HB.out | apply below_alloc | apply pw_below_drewN | apply below_drew1) | exact HB.out)) hb); have n1_ := Aside0.mk (hbox); have n2_ := Aside0.mk ((by rw [hg]; exact (below_size (by repeat (first | (with_reducible first | exact HB.out | apply below_alloc | apply pw_below_drewN | apply below_drew1) | exact HB.out))) : w.heap.size ≤ gb182)); have n3_ := Aside0.mk ((by rw [hg]; exact (below_size (by repeat (first | (with_reducible first | exact HB.out | apply below_alloc | apply pw_below_drewN | apply below_drew1) | exact HB.out))) : w.heap.size ≤ gb182)); clear HB; have HB := n0_; have BK182 := n1_; have GW182 := n2_; have GE182 := n3_; clear n0_ n1_ n2_ n3_; clear hb hbox hg) | ((with_reducible refine gate_dst (N := 4) rfl ?_); refine box_event ?hg (N := 4) ?hd (cs := #[.string (⟨#[]⟩ : ByteArray), .string (⟨#[]⟩ : ByteArray)]) (t := 23) ?hr ?_; (case hd => rfl); (case hg => rfl); (case hr => first | (go_simp; done) | (go_simp; rfl)); intro gb183 hg w6 hbox hb; have n0_ := Aside0.mk (blk_below (g := gb182) (o := .cells #[.int .u8 a1_0, .int .u8 a1_1, .int .u8 a1_2, .int .u8 a1_3, .int .i64 a1_4] 30 (0, 0)) (by (with_reducible repeat (first | refine blk_drewN ?_ _ | refine blk_drew ?_ | refine blk_alloc ?_ _)); exact BK182.out) hb); have n1_ := Aside0.mk (below_step (by repeat (first | (with_reducible first | exact HB.out | apply below_alloc | apply pw_below_drewN | apply below_drew1 | refine below_set ?_ GE182.out) | exact HB.out)) hb); have n2_ := Aside0.mk (hbox); have n3_ := Aside0.mk ((by rw [hg]; exact (below_size (by repeat (first | (with_reducible first | exact HB.out | apply below_alloc | apply pw_below_drewN | apply below_drew1 | refine below_set ?_ GE182.out) | exact HB.out))) : w.heap.size ≤ gb183)); have n4_ := Aside0.mk ((by rw [hg]; exact (below_size (by repeat (first | (with_reducible first | exact HB.out | apply below_alloc | apply pw_below_drewN | apply below_drew1 | refine below_set ?_ GE182.out) | exact HB.out))) : w.heap.size ≤ gb183)); have n5_ := Aside0.mk ((by rw [hg]; exact Nat.ne_of_lt (blk_lt (g := gb182) (o := .cells #[.int .u8 a1_0, .int .u8 a1_1, .int .u8 a1_2, .int .u8 a1_3, .int .i64 a1_4] 30 (0, 0)) (by (with_reducible repeat (first | refine blk_drewN ?_ _ | refine blk_drew ?_ | refine blk_alloc ?_ _)); exact BK182.out)) : gb182 ≠ gb183)); have n6_ := Aside0.mk ((by rw [hg]; exact Nat.ne_of_gt (blk_lt (g := gb182) (o := .cells #[.int .u8 a1_0, .int .u8 a1_1, .int .u8 a1_2, .int .u8 a1_3, .int .i64 a1_4] 30 (0, 0)) (by (with_reducible repeat (first | refine blk_drewN ?_ _ | refine blk_drew ?_ | refine blk_alloc ?_ _)); exact BK182.out)) : gb183 ≠ gb182)); clear BK182; clear HB; have BK182 := n0_; have HB := n1_; have BK183 := n2_; have GW183 := n3_; have GE183 := n4_; have NB182_183 := n5_; have NB183_182 := n6_; clear n0_ n1_ n2_ n3_ n4_ n5_ n6_; clear hb hbox hg; have hnb7 := NB182_183.out; have hnc7 := NB183_182.out; obtain ⟨hcz8_0, hcz8_1, hcz8_2, hcz8_3, hcz8_4⟩ := cl_5 (.int .u8 a1_0) (.int .u8 a1_1) (.int .u8 a1_2) (.int .u8 a1_3) (.int .i64 a1_4) BK182.out; obtain ⟨hfz8_0, hfz8_1, hfz8_2, hfz8_3, hfz8_4⟩ := fz_5 BK182.out) | ((with_reducible refine gate_callee (f := 29) rfl ?_); refine goesL_ (some 10) rfl rfl Tryz.func29 (by kernel_rfl) rfl #[.agg #[.int .u8 a1_0, .int .u8 a1_1, .int .u8 a1_2, .int .u8 a1_3, .int .i64 a1_4]] rfl (by (try simp only [List.map_toArray, List.map_cons, List.map_nil]); first | done | rfl | (simp only [List.length_drop, List.length_take]; rfl)) ?_; (with_reducible refine (wharfingerref19_high.calls a1_0 a1_1 a1_2 a1_3 a1_4 t184 _ A3.out).mono ?_); rintro e w9 ⟨rfl, hb⟩; refine ⟨_, rfl, ?_⟩; have n0_ := Aside0.mk (blk_below (g := gb182) (o := .cells #[.int .u8 a1_0, .int .u8 a1_1, .int .u8 a1_2, .int .u8 a1_3, .int .i64 a1_4] 30 (0, 0)) (by (with_reducible repeat (first | refine blk_drewN ?_ _ | refine blk_drew ?_ | refine blk_alloc ?_ _)); exact BK182.out) hb); have n1_ := Aside0.mk (blk_below (g := gb183) (o := .cells #[.string (⟨#[]⟩ : ByteArray), .string (⟨#[]⟩ : ByteArray)] 23 (0, 0)) (by (with_reducible repeat (first | refine blk_drewN ?_ _ | refine blk_drew ?_ | refine blk_alloc ?_ _)); exact BK183.out) hb); have n2_ := Aside0.mk (below_step (by repeat (first | (with_reducible first | exact HB.out | apply below_alloc | apply pw_below_drewN | apply below_drew1 | refine below_set ?_ GE182.out | refine below_set ?_ GE183.out) | exact HB.out)) hb); clear BK182; clear BK183; clear HB; have BK182 := n0_; have BK183 := n1_; have HB := n2_; clear n0_ n1_ n2_; (try clear hb); (try clear hb2); (try clear hk); (try clear hi)))
 (try simp only [Act.put, List.setIfInBounds_toArray, List.set_cons_zero, List.set_cons_succ])
 go_cut [20] (fun v20 wc => ∃ (kq : Nat) (x20_3 : Bool), v20 = .bool x20_3 ∧ Aside0 (wharfingerref19_Ask.j0 kq a0 x20_3 a1_0 a1_1 a1_2 a1_3 a1_4 = some (r1, r2, r3)) ∧ Aside0 (kq ≤ k) ∧ Aside0 (wc.heap[gb182]? = some (.cells #[.int .u8 a1_0, .int .u8 a1_1, .int .u8 a1_2, .int .u8 a1_3, .int .i64 a1_4] 30 (0, 0))) ∧ Aside0 (wc.heap[gb183]? = some (.cells #[.string (⟨#[]⟩ : ByteArray), .string (⟨#[]⟩ : ByteArray)] 23 (0, 0))) ∧ Aside0 (Below w.heap.size w wc))
 case first =>
  have H := HC4.out
  clear HC4
  by_cases c10 : t184 = true
  ·
   subst c10
   have H1 : (if a0.toList = ([80, 79, 82, 84] : List UInt8) then (wharfingerref19_Ask.j0 k a0 false a1_0 a1_1 a1_2 a1_3 a1_4) else (wharfingerref19_Ask.j0 k a0 (a0.toList != ([69, 80, 82, 84] : List UInt8)) a1_0 a1_1 a1_2 a1_3 a1_4)) = some (r1, r2, r3) := by rw [if_pos rfl] at H; exact H
   clear H
   have H := H1
   clear H1
   by_cases c11 : a0.toList = ([80, 79, 82, 84] : List UInt8)
   ·
    rw [if_pos c11] at H
    have c11b0 : (a0.toList == ([80, 79, 82, 84] : List UInt8)) = true := beq_iff_eq.mpr c11
    have c11b1 : (a0.toList != ([80, 79, 82, 84] : List UInt8)) = false := bne_eq_false_iff_eq.mpr c11
    clear c11
    (first | rw [c11b0] | (simp only [i64_w, i32_w]; rw [c11b0]) | skip)
    have H' := Aside0.mk H
    clear H
    go_wp2
    go_meet
    case rel => exact ⟨_, (false), (by first | rfl | (simp; done) | (simp [*]; done)), H', ⟨by first | omega | exact Nat.le_refl _⟩, ⟨by (with_reducible repeat (first | refine blk_drewN ?_ _ | refine blk_drew ?_ | refine blk_alloc ?_ _)); exact BK182.out⟩, ⟨by (with_reducible repeat (first | refine blk_drewN ?_ _ | refine blk_drew ?_ | refine blk_alloc ?_ _)); exact BK183.out⟩, ⟨by repeat (first | (with_reducible first | exact HB.out | apply below_alloc | apply pw_below_drewN | apply below_drew1 | refine below_set ?_ GE182.out | refine below_set ?_ GE183.out) | exact HB.out)⟩⟩
   ·
    rw [if_neg c11] at H
    have c11b0 : (a0.toList == ([80, 79, 82, 84] : List UInt8)) = false := beq_eq_false_iff_ne.mpr c11
    have c11b1 : (a0.toList != ([80, 79, 82, 84] : List UInt8)) = true := bne_iff_ne.mpr c11
    (first | rw [c11b0] | (simp only [i64_w, i32_w]; rw [c11b0]) | skip)
    have H' := Aside0.mk H
    clear H
    go_wp2
    go_meet
    case rel => exact ⟨_, ((a0.toList != ([69, 80, 82, 84] : List UInt8))), (by first | rfl | (simp; done) | (simp [*]; done)), H', ⟨by first | omega | exact Nat.le_refl _⟩, ⟨by (with_reducible repeat (first | refine blk_drewN ?_ _ | refine blk_drew ?_ | refine blk_alloc ?_ _)); exact BK182.out⟩, ⟨by (with_reducible repeat (first | refine blk_drewN ?_ _ | refine blk_drew ?_ | refine blk_alloc ?_ _)); exact BK183.out⟩, ⟨by repeat (first | (with_reducible first | exact HB.out | apply below_alloc | apply pw_below_drewN | apply below_drew1 | refine below_set ?_ GE182.out | refine below_set ?_ GE183.out) | exact HB.out)⟩⟩
  ·
   replace c10 := Bool.eq_false_iff.mpr c10
   subst c10
   have H1 : (wharfingerref19_Ask.j0 k a0 true a1_0 a1_1 a1_2 a1_3 a1_4) = some (r1, r2, r3) := by rw [if_neg (show ¬ (false = true) by decide)] at H; exact H
   clear H
   have H := H1
   clear H1
   have H' := Aside0.mk H
   clear H
   go_wp2
   go_meet
   case rel => exact ⟨_, (true), (by first | rfl | (simp; done) | (simp [*]; done)), H', ⟨by first | omega | exact Nat.le_refl _⟩, ⟨by (with_reducible repeat (first | refine blk_drewN ?_ _ | refine blk_drew ?_ | refine blk_alloc ?_ _)); exact BK182.out⟩, ⟨by (with_reducible repeat (first | refine blk_drewN ?_ _ | refine blk_drew ?_ | refine blk_alloc ?_ _)); exact BK183.out⟩, ⟨by repeat (first | (with_reducible first | exact HB.out | apply below_alloc | apply pw_below_drewN | apply below_drew1 | refine below_set ?_ GE182.out | refine below_set ?_ GE183.out) | exact HB.out)⟩⟩
 case rest =>
  clear HC4
  try clear c1
  try clear c2
  try clear p2
  try clear c7
  try clear c10
  try clear c11
  try clear c11b0
  try clear c11b1
  try clear hcz8_0
  try clear hcz8_1
  try clear hcz8_2
  try clear hcz8_3
  try clear hcz8_4
  try clear hfz8_0
  try clear hfz8_1
  try clear hfz8_2
  try clear hfz8_3
  try clear hfz8_4
  obtain ⟨kq, x20_3, rfl, HA, HJ3, BK182, BK183, HB⟩ := hcut
  cases kq with
  | zero => exact absurd HA.out (by simp [wharfingerref19_Ask.j0])
  | succ kj3 =>
   have H := HA.out
   clear HA
   simp only [wharfingerref19_Ask.j0] at H
   by_cases c12 : x20_3 = true
   ·
    subst c12
    have H1 : (some ((⟨#[]⟩ : ByteArray), (⟨#[]⟩ : ByteArray), false)) = some (r1, r2, r3) := by rw [if_pos rfl] at H; exact H
    clear H
    have H := H1
    clear H1
    simp only [Option.some.injEq, Prod.mk.injEq] at H
    obtain ⟨rfl, rfl, rfl⟩ := H
    have hnb13 := NB183_182.out
    have hnc13 := NB182_183.out
    have hcz14_0 : wc.cell? ⟨gb183, 0, none⟩ = some (.string (⟨#[]⟩ : ByteArray)) := (blk_cell BK183.out 0).trans rfl
    have hcz14_1 : wc.cell? ⟨gb183, 1, none⟩ = some (.string (⟨#[]⟩ : ByteArray)) := (blk_cell BK183.out 1).trans rfl
    have hfz14_0 := blk_frozen BK183.out 0
    have hfz14_1 := blk_frozen BK183.out 1
    go_wp2
    refine bodyPost_ret (results_ct rfl _ _ gb183 23 #[.string (⟨#[]⟩ : ByteArray), .string (⟨#[]⟩ : ByteArray)] (0, 0) _ rfl (by (with_reducible repeat (first | refine blk_drewN ?_ _ | refine blk_drew ?_ | refine blk_alloc ?_ _)); refine blk_put (cs := #[.string (⟨#[]⟩ : ByteArray), .string (⟨#[]⟩ : ByteArray)]) ?_ 1 _ rfl; (with_reducible repeat (first | refine blk_drewN ?_ _ | refine blk_drew ?_ | refine blk_alloc ?_ _)); refine blk_put (cs := #[.string (⟨#[]⟩ : ByteArray), .string (⟨#[]⟩ : ByteArray)]) ?_ 0 _ rfl; (with_reducible repeat (first | refine blk_drewN ?_ _ | refine blk_drew ?_ | refine blk_alloc ?_ _)); exact BK183.out) Tryz.underlying23 rfl (by kernel_rfl)) rfl ?_
    exact ⟨by first | rfl | (simp [errW_none, errW_some] <;> rfl) | (simp [*, errW_none, errW_some] <;> rfl), by repeat (first | (with_reducible first | exact HB.out | apply below_alloc | apply pw_below_drewN | apply below_drew1 | refine below_set ?_ GE182.out | refine below_set ?_ GE183.out) | exact HB.out)⟩
   ·
    replace c12 := Bool.eq_false_iff.mpr c12
    subst c12
    have H1 : ((wharfingerref03_Text.f a1_0 a1_1 a1_2 a1_3 a1_4).bind fun bt185 => (if a0.toList = ([69, 80, 82, 84] : List UInt8) then ((wharfingerref04_Text.f a1_0 a1_1 a1_2 a1_3 a1_4).bind fun bt187 => (some (a0, bt187.1, true))) else (some (a0, bt185.1, true)))) = some (r1, r2, r3) := by rw [if_neg (show ¬ (false = true) by decide)] at H; exact H
    clear H
    have H := H1
    clear H1
    replace H := Option.bind_eq_some_iff.mp H
    obtain ⟨⟨t185, t186⟩, A150, H⟩ := H
    replace H : (if a0.toList = ([69, 80, 82, 84] : List UInt8) then ((wharfingerref04_Text.f a1_0 a1_1 a1_2 a1_3 a1_4).bind fun bt187 => (some (a0, bt187.1, true))) else (some (a0, t185, true))) = some (r1, r2, r3) := H
    have A15 := Aside0.mk A150
    clear A150
    by_cases c16 : a0.toList = ([69, 80, 82, 84] : List UInt8)
    ·
     rw [if_pos c16] at H
     have c16b0 : (a0.toList == ([69, 80, 82, 84] : List UInt8)) = true := beq_iff_eq.mpr c16
     have c16b1 : (a0.toList != ([69, 80, 82, 84] : List UInt8)) = false := bne_eq_false_iff_eq.mpr c16
     clear c16
     replace H := Option.bind_eq_some_iff.mp H
     obtain ⟨⟨t187, t188⟩, A170, H⟩ := H
     replace H : (some (a0, t187, true)) = some (r1, r2, r3) := H
     have A17 := Aside0.mk A170
     clear A170
     simp only [Option.some.injEq, Prod.mk.injEq] at H
     obtain ⟨rfl, rfl, rfl⟩ := H
     have hnb18 := NB182_183.out
     have hnc18 := NB183_182.out
     have hcz19_0 : wc.cell? ⟨gb182, 0, none⟩ = some (.int .u8 a1_0) := (blk_cell BK182.out 0).trans rfl
     have hcz19_1 : wc.cell? ⟨gb182, 1, none⟩ = some (.int .u8 a1_1) := (blk_cell BK182.out 1).trans rfl
     have hcz19_2 : wc.cell? ⟨gb182, 2, none⟩ = some (.int .u8 a1_2) := (blk_cell BK182.out 2).trans rfl
     have hcz19_3 : wc.cell? ⟨gb182, 3, none⟩ = some (.int .u8 a1_3) := (blk_cell BK182.out 3).trans rfl
     have hcz19_4 : wc.cell? ⟨gb182, 4, none⟩ = some (.int .i64 a1_4) := (blk_cell BK182.out 4).trans rfl
     have hfz19_0 := blk_frozen BK182.out 0
     have hfz19_1 := blk_frozen BK182.out 1
     have hfz19_2 := blk_frozen BK182.out 2
     have hfz19_3 := blk_frozen BK182.out 3
     have hfz19_4 := blk_frozen BK182.out 4
     go_wp2_with (first | ((with_reducible refine gate_callee (f := 30) rfl ?_); refine goesL_ (some 24) rfl rfl Tryz.func30 (by kernel_rfl) rfl #[.agg #[.int .u8 a1_0, .int .u8 a1_1, .int .u8 a1_2, .int .u8 a1_3, .int .i64 a1_4]] rfl (by (try simp only [List.map_toArray, List.map_cons, List.map_nil]); first | done | rfl | (simp only [List.length_drop, List.length_take]; rfl)) ?_; (with_reducible refine (wharfingerref03_Text.calls a1_0 a1_1 a1_2 a1_3 a1_4 t185 t186 _ A15.out).mono ?_); rintro e w20 ⟨rfl, hb⟩; refine ⟨_, rfl, ?_⟩; have n0_ := Aside0.mk (blk_below (g := gb182) (o := .cells #[.int .u8 a1_0, .int .u8 a1_1, .int .u8 a1_2, .int .u8 a1_3, .int .i64 a1_4] 30 (0, 0)) (by (with_reducible repeat (first | refine blk_drewN ?_ _ | refine blk_drew ?_ | refine blk_alloc ?_ _)); exact BK182.out) hb); have n1_ := Aside0.mk (blk_below (g := gb183) (o := .cells #[.string (⟨#[]⟩ : ByteArray), .string (⟨#[]⟩ : ByteArray)] 23 (0, 0)) (by (with_reducible repeat (first | refine blk_drewN ?_ _ | refine blk_drew ?_ | refine blk_alloc ?_ _)); exact BK183.out) hb); have n2_ := Aside0.mk (below_step (by repeat (first | (with_reducible first | exact HB.out | apply below_alloc | apply pw_below_drewN | apply below_drew1 | refine below_set ?_ GE182.out | refine below_set ?_ GE183.out) | exact HB.out)) hb); clear BK182; clear BK183; clear HB; have BK182 := n0_; have BK183 := n1_; have HB := n2_; clear n0_ n1_ n2_; (try clear hb); (try clear hb2); (try clear hk); (try clear hi); obtain ⟨hcz21_0, hcz21_1, hcz21_2, hcz21_3, hcz21_4⟩ := cl_5 (.int .u8 a1_0) (.int .u8 a1_1) (.int .u8 a1_2) (.int .u8 a1_3) (.int .i64 a1_4) BK182.out; obtain ⟨hfz21_0, hfz21_1, hfz21_2, hfz21_3, hfz21_4⟩ := fz_5 BK182.out) | ((with_reducible refine gate_callee (f := 31) rfl ?_); refine goesL_ (some 31) rfl rfl Tryz.func31 (by kernel_rfl) rfl #[.agg #[.int .u8 a1_0, .int .u8 a1_1, .int .u8 a1_2, .int .u8 a1_3, .int .i64 a1_4]] rfl (by (try simp only [List.map_toArray, List.map_cons, List.map_nil]); first | done | rfl | (simp only [List.length_drop, List.length_take]; rfl)) ?_; (with_reducible refine (wharfingerref04_Text.calls a1_0 a1_1 a1_2 a1_3 a1_4 t187 t188 _ A17.out).mono ?_); rintro e w22 ⟨rfl, hb⟩; refine ⟨_, rfl, ?_⟩; have n0_ := Aside0.mk (blk_below (g := gb182) (o := .cells #[.int .u8 a1_0, .int .u8 a1_1, .int .u8 a1_2, .int .u8 a1_3, .int .i64 a1_4] 30 (0, 0)) (by (with_reducible repeat (first | refine blk_drewN ?_ _ | refine blk_drew ?_ | refine blk_alloc ?_ _)); exact BK182.out) hb); have n1_ := Aside0.mk (blk_below (g := gb183) (o := .cells #[.string (⟨#[]⟩ : ByteArray), .string (⟨#[]⟩ : ByteArray)] 23 (0, 0)) (by (with_reducible repeat (first | refine blk_drewN ?_ _ | refine blk_drew ?_ | refine blk_alloc ?_ _)); exact BK183.out) hb); have n2_ := Aside0.mk (below_step (by repeat (first | (with_reducible first | exact HB.out | apply below_alloc | apply pw_below_drewN | apply below_drew1 | refine below_set ?_ GE182.out | refine below_set ?_ GE183.out) | exact HB.out)) hb); clear BK182; clear BK183; clear HB; have BK182 := n0_; have BK183 := n1_; have HB := n2_; clear n0_ n1_ n2_; (try clear hb); (try clear hb2); (try clear hk); (try clear hi); obtain ⟨hcz23_0, hcz23_1⟩ := cl_2 (.string (⟨#[]⟩ : ByteArray)) (.string (⟨#[]⟩ : ByteArray)) BK183.out; obtain ⟨hfz23_0, hfz23_1⟩ := fz_2 BK183.out))
     refine bodyPost_ret (results_ct rfl _ _ gb183 23 #[.string a0, .string t187] (0, 0) _ rfl (by (with_reducible repeat (first | refine blk_drewN ?_ _ | refine blk_drew ?_ | refine blk_alloc ?_ _)); refine blk_put (cs := #[.string a0, .string (⟨#[]⟩ : ByteArray)]) ?_ 1 _ rfl; (with_reducible repeat (first | refine blk_drewN ?_ _ | refine blk_drew ?_ | refine blk_alloc ?_ _)); refine blk_put (cs := #[.string (⟨#[]⟩ : ByteArray), .string (⟨#[]⟩ : ByteArray)]) ?_ 0 _ rfl; (with_reducible repeat (first | refine blk_drewN ?_ _ | refine blk_drew ?_ | refine blk_alloc ?_ _)); exact BK183.out) Tryz.underlying23 rfl (by kernel_rfl)) rfl ?_
     exact ⟨by first | rfl | (simp [errW_none, errW_some] <;> rfl) | (simp [*, errW_none, errW_some] <;> rfl), by repeat (first | (with_reducible first | exact HB.out | apply below_alloc | apply pw_below_drewN | apply below_drew1 | refine below_set ?_ GE182.out | refine below_set ?_ GE183.out) | exact HB.out)⟩
    ·
     rw [if_neg c16] at H
     have c16b0 : (a0.toList == ([69, 80, 82, 84] : List UInt8)) = false := beq_eq_false_iff_ne.mpr c16
     have c16b1 : (a0.toList != ([69, 80, 82, 84] : List UInt8)) = true := bne_iff_ne.mpr c16
     simp only [Option.some.injEq, Prod.mk.injEq] at H
     obtain ⟨rfl, rfl, rfl⟩ := H
     have hnb24 := NB182_183.out
     have hnc24 := NB183_182.out
     have hcz25_0 : wc.cell? ⟨gb182, 0, none⟩ = some (.int .u8 a1_0) := (blk_cell BK182.out 0).trans rfl
     have hcz25_1 : wc.cell? ⟨gb182, 1, none⟩ = some (.int .u8 a1_1) := (blk_cell BK182.out 1).trans rfl
     have hcz25_2 : wc.cell? ⟨gb182, 2, none⟩ = some (.int .u8 a1_2) := (blk_cell BK182.out 2).trans rfl
     have hcz25_3 : wc.cell? ⟨gb182, 3, none⟩ = some (.int .u8 a1_3) := (blk_cell BK182.out 3).trans rfl
     have hcz25_4 : wc.cell? ⟨gb182, 4, none⟩ = some (.int .i64 a1_4) := (blk_cell BK182.out 4).trans rfl
     have hfz25_0 := blk_frozen BK182.out 0
     have hfz25_1 := blk_frozen BK182.out 1
     have hfz25_2 := blk_frozen BK182.out 2
     have hfz25_3 := blk_frozen BK182.out 3
     have hfz25_4 := blk_frozen BK182.out 4
     go_wp2_with (first | ((with_reducible refine gate_callee (f := 30) rfl ?_); refine goesL_ (some 24) rfl rfl Tryz.func30 (by kernel_rfl) rfl #[.agg #[.int .u8 a1_0, .int .u8 a1_1, .int .u8 a1_2, .int .u8 a1_3, .int .i64 a1_4]] rfl (by (try simp only [List.map_toArray, List.map_cons, List.map_nil]); first | done | rfl | (simp only [List.length_drop, List.length_take]; rfl)) ?_; (with_reducible refine (wharfingerref03_Text.calls a1_0 a1_1 a1_2 a1_3 a1_4 t185 t186 _ A15.out).mono ?_); rintro e w26 ⟨rfl, hb⟩; refine ⟨_, rfl, ?_⟩; have n0_ := Aside0.mk (blk_below (g := gb182) (o := .cells #[.int .u8 a1_0, .int .u8 a1_1, .int .u8 a1_2, .int .u8 a1_3, .int .i64 a1_4] 30 (0, 0)) (by (with_reducible repeat (first | refine blk_drewN ?_ _ | refine blk_drew ?_ | refine blk_alloc ?_ _)); exact BK182.out) hb); have n1_ := Aside0.mk (blk_below (g := gb183) (o := .cells #[.string (⟨#[]⟩ : ByteArray), .string (⟨#[]⟩ : ByteArray)] 23 (0, 0)) (by (with_reducible repeat (first | refine blk_drewN ?_ _ | refine blk_drew ?_ | refine blk_alloc ?_ _)); exact BK183.out) hb); have n2_ := Aside0.mk (below_step (by repeat (first | (with_reducible first | exact HB.out | apply below_alloc | apply pw_below_drewN | apply below_drew1 | refine below_set ?_ GE182.out | refine below_set ?_ GE183.out) | exact HB.out)) hb); clear BK182; clear BK183; clear HB; have BK182 := n0_; have BK183 := n1_; have HB := n2_; clear n0_ n1_ n2_; (try clear hb); (try clear hb2); (try clear hk); (try clear hi); obtain ⟨hcz27_0, hcz27_1⟩ := cl_2 (.string (⟨#[]⟩ : ByteArray)) (.string (⟨#[]⟩ : ByteArray)) BK183.out; obtain ⟨hfz27_0, hfz27_1⟩ := fz_2 BK183.out))
     refine bodyPost_ret (results_ct rfl _ _ gb183 23 #[.string a0, .string t185] (0, 0) _ rfl (by (with_reducible repeat (first | refine blk_drewN ?_ _ | refine blk_drew ?_ | refine blk_alloc ?_ _)); refine blk_put (cs := #[.string a0, .string (⟨#[]⟩ : ByteArray)]) ?_ 1 _ rfl; (with_reducible repeat (first | refine blk_drewN ?_ _ | refine blk_drew ?_ | refine blk_alloc ?_ _)); refine blk_put (cs := #[.string (⟨#[]⟩ : ByteArray), .string (⟨#[]⟩ : ByteArray)]) ?_ 0 _ rfl; (with_reducible repeat (first | refine blk_drewN ?_ _ | refine blk_drew ?_ | refine blk_alloc ?_ _)); exact BK183.out) Tryz.underlying23 rfl (by kernel_rfl)) rfl ?_
     exact ⟨by first | rfl | (simp [errW_none, errW_some] <;> rfl) | (simp [*, errW_none, errW_some] <;> rfl), by repeat (first | (with_reducible first | exact HB.out | apply below_alloc | apply pw_below_drewN | apply below_drew1 | refine below_set ?_ GE182.out | refine below_set ?_ GE183.out) | exact HB.out)⟩

end Go.Proofs.YtdcbkeihgbekdaaGreatDoor.Q

namespace Go.Proofs.YtdcbkeihgbekdaaGreatDoor.Turn
open Go Go.RowKit Go.Proofs.YtdcbkeihgbekdaaGreatDoorW.PrintWords Go.Proofs.YtdcbkeihgbekdaaGreatDoorW.PrintLast Go.Proofs.YtdcbkeihgbekdaaGreatDoorW.PrintMore Go.Proofs.YtdcbkeihgbekdaaGreatDoor.Quad
set_option linter.unusedVariables false
set_option linter.unusedSimpArgs false
set_option maxHeartbeats 4000000 in
set_option maxRecDepth 100000 in
theorem ref_high_calls (a b c d p : Int) (w : World) : Calls Tryz.prog 29 #[.agg #[.int .u8 a, .int .u8 b, .int .u8 c, .int .u8 d, .int .i64 p]] w fun e w' => e = .returned (.bool (highB p)) ∧ Below w.heap.size w w' := by
  by_cases h1 : 1024 ≤ p
  · have h1' := decide_eq_true h1
    rw [highB, h1', Bool.true_and]
    clear h1
    go_enter Tryz.func29, Tryz.ntmps29
    go_wp2
    go_ret
    exact ⟨rfl, (Below.refl _ _).alloc (Nat.le_refl _) _⟩
  · have h1' := decide_eq_false h1
    rw [highB, h1', Bool.false_and]
    clear h1
    go_enter Tryz.func29, Tryz.ntmps29
    go_wp2
    go_ret
    exact ⟨rfl, (Below.refl _ _).alloc (Nat.le_refl _) _⟩
theorem ref_res_rep (tmps : Array Value) (W : World) (H : Nat) (code : Int) (v : Value) (A : Option Addr) (n c : Nat) (hv : v = .slice A n c) (z : Bool) (h2 : tmps.getD 4 undef = .pointer (some ⟨H, 0, none⟩)) (h3 : tmps.getD 5 undef = .bool z) (hh : W.heap[H]? = some (.cells #[.int .i64 code, v] 26 (0, 0))) :
   (results Tryz.f12 tmps).run Tryz.prog W = .ok (.tuple #[.agg #[.int .i64 code, v], .bool z]) W := by
  subst hv
  have c0 : W.cell? ⟨H, 0, none⟩ = some (.int .i64 code) := (blk_cell hh 0).trans rfl
  have c1 : W.cell? ⟨H, 1, none⟩ = some (.slice A n c) := (blk_cell hh 1).trans rfl
  rw [Array.getD_eq_getD_getElem?] at h2 h3
  simp [results, show Tryz.f12.results = #[.cell 4 26, .tmp 5] from rfl, h2, h3, go_sem, c0, c1]

set_option maxHeartbeats 4000000 in
set_option maxRecDepth 100000 in
theorem ref_tell_pasv (a b c d p : Int) (w : World) (t : ByteArray) (hts : t.size ≤ 1000) (hh : highB p = true) (hr : ∀ W, Below w.heap.size w W → Calls Tryz.prog 30 #[.agg #[.int .u8 a, .int .u8 b, .int .u8 c, .int .u8 d, .int .i64 p]] W fun e w' => e = .returned (.tuple #[.string t, .bool true]) ∧ Below W.heap.size W w') :
    Calls Tryz.prog 12 #[.string PASV, .agg #[.int .u8 a, .int .u8 b, .int .u8 c, .int .u8 d, .int .i64 p]] w (Told w 227 (⟨#[69, 110, 116, 101, 114, 105, 110, 103, 32, 80, 97, 115, 115, 105, 118, 101, 32, 77, 111, 100, 101, 32, 40]⟩ ++ t ++ ⟨#[41, 46]⟩)) := by
  have HR := Aside0.mk hr
  have HH := Aside0.mk hh
  have e1 : (⟨#[69, 110, 116, 101, 114, 105, 110, 103, 32, 80, 97, 115, 115, 105, 118, 101, 32, 77, 111, 100, 101, 32, 40]⟩ : ByteArray).size = 23 := rfl
  have e2 : (⟨#[41, 46]⟩ : ByteArray).size = 2 := rfl
  have hp1 : (PASV.toList == [80, 65, 83, 86]) = true := by decide +kernel
  have hp2 : (PASV.toList == [69, 80, 83, 86]) = false := by decide +kernel
  clear hr hh
  go_enter Tryz.func12, Tryz.ntmps12
  go_wp2_with (first
    | (go_at_call 29; (with_reducible refine (ref_high_calls a b c d p _).mono ?_); rintro e w3 ⟨rfl, hb3⟩; rw [HH.out]; have HL := Aside0.mk ((TF.start w a b c d p).step hb3); clear hb3; obtain ⟨c0, c1, f0, f1⟩ := rep_facts HL.out.res; obtain ⟨x0, x1, x2, x3, x4, u0, u1, u2, u3, u4⟩ := endCells_facts HL.out.e)
    | (go_at_call 30; (with_reducible refine (HR.out _ HL.out.bel).mono ?_); rintro e w4 ⟨rfl, hb4⟩; have HN := Aside0.mk (HL.out.step hb4); clear hb4 c0 c1 f0 f1 x0 x1 x2 x3 x4 u0 u1 u2 u3 u4; obtain ⟨c0, c1, f0, f1⟩ := rep_facts HN.out.res; have f0a : ∀ o, (w4.alloc o).frozen? ⟨w.heap.size + 1, 0, none⟩ = false := fun o => blk_frozen (blk_alloc HN.out.res o) 0; have f1a : ∀ o, (w4.alloc o).frozen? ⟨w.heap.size + 1, 1, none⟩ = false := fun o => blk_frozen (blk_alloc HN.out.res o) 1; have c0a : ∀ o, (w4.alloc o).cell? ⟨w.heap.size + 1, 0, none⟩ = some (.int .i64 0) := fun o => (blk_cell (blk_alloc HN.out.res o) 0).trans rfl; have c1a : ∀ o, (w4.alloc o).cell? ⟨w.heap.size + 1, 1, none⟩ = some (.slice none 0 0) := fun o => (blk_cell (blk_alloc HN.out.res o) 1).trans rfl))
  try simp only [Exit.inBlock, Exit.then]
  have hlt := blk_lt HN.out.res
  refine bodyPost_ret (ref_res_rep _ _ (w.heap.size + 1) 227 _ (some ⟨w4.heap.size, 0, none⟩) 1 1 rfl true rfl rfl (blk_put (blk_put (blk_alloc HN.out.res _) 0 _ rfl) 1 _ rfl)) rfl ⟨w4.heap.size, rfl, ?_, HN.out.bel.size, ((HN.out.bel.alloc HN.out.bel.size _).setCell (by show w.heap.size ≤ w.heap.size + 1; omega) _).setCell (by show w.heap.size ≤ w.heap.size + 1; omega) _⟩
  exact blk_far (blk_far (blk_new w4 _) (show w4.heap.size ≠ w.heap.size + 1 by omega) _) (show w4.heap.size ≠ w.heap.size + 1 by omega) _
set_option maxHeartbeats 4000000 in
set_option maxRecDepth 100000 in
theorem ref_tell_epsv (a b c d p : Int) (w : World) (t : ByteArray) (hts : t.size ≤ 1000) (hh : highB p = true) (hr : ∀ W, Below w.heap.size w W → Calls Tryz.prog 33 #[.int .i64 p] W fun e w' => e = .returned (.tuple #[.string t, .bool true]) ∧ Below W.heap.size W w') :
    Calls Tryz.prog 12 #[.string EPSV, .agg #[.int .u8 a, .int .u8 b, .int .u8 c, .int .u8 d, .int .i64 p]] w (Told w 229 (⟨#[69, 110, 116, 101, 114, 105, 110, 103, 32, 69, 120, 116, 101, 110, 100, 101, 100, 32, 80, 97, 115, 115, 105, 118, 101, 32, 77, 111, 100, 101, 32]⟩ ++ t ++ ⟨#[46]⟩)) := by
  have HR := Aside0.mk hr
  have HH := Aside0.mk hh
  have e1 : (⟨#[69, 110, 116, 101, 114, 105, 110, 103, 32, 69, 120, 116, 101, 110, 100, 101, 100, 32, 80, 97, 115, 115, 105, 118, 101, 32, 77, 111, 100, 101, 32]⟩ : ByteArray).size = 31 := rfl
  have e2 : (⟨#[46]⟩ : ByteArray).size = 1 := rfl
  have hp1 : (EPSV.toList == [80, 65, 83, 86]) = false := by decide +kernel
  have hp2 : (EPSV.toList == [69, 80, 83, 86]) = true := by decide +kernel
  clear hr hh
  go_enter Tryz.func12, Tryz.ntmps12
  go_wp2_with (first
    | (go_at_call 29; (with_reducible refine (ref_high_calls a b c d p _).mono ?_); rintro e w3 ⟨rfl, hb3⟩; rw [HH.out]; have HL := Aside0.mk ((TF.start w a b c d p).step hb3); clear hb3; obtain ⟨c0, c1, f0, f1⟩ := rep_facts HL.out.res; obtain ⟨x0, x1, x2, x3, x4, u0, u1, u2, u3, u4⟩ := endCells_facts HL.out.e)
    | (go_at_call 33; (with_reducible refine (HR.out _ HL.out.bel).mono ?_); rintro e w4 ⟨rfl, hb4⟩; have HN := Aside0.mk (HL.out.step hb4); clear hb4 c0 c1 f0 f1 x0 x1 x2 x3 x4 u0 u1 u2 u3 u4; obtain ⟨c0, c1, f0, f1⟩ := rep_facts HN.out.res; have f0a : ∀ o, (w4.alloc o).frozen? ⟨w.heap.size + 1, 0, none⟩ = false := fun o => blk_frozen (blk_alloc HN.out.res o) 0; have f1a : ∀ o, (w4.alloc o).frozen? ⟨w.heap.size + 1, 1, none⟩ = false := fun o => blk_frozen (blk_alloc HN.out.res o) 1; have c0a : ∀ o, (w4.alloc o).cell? ⟨w.heap.size + 1, 0, none⟩ = some (.int .i64 0) := fun o => (blk_cell (blk_alloc HN.out.res o) 0).trans rfl; have c1a : ∀ o, (w4.alloc o).cell? ⟨w.heap.size + 1, 1, none⟩ = some (.slice none 0 0) := fun o => (blk_cell (blk_alloc HN.out.res o) 1).trans rfl))
  try simp only [Exit.inBlock, Exit.then]
  have hlt := blk_lt HN.out.res
  refine bodyPost_ret (ref_res_rep _ _ (w.heap.size + 1) 229 _ (some ⟨w4.heap.size, 0, none⟩) 1 1 rfl true rfl rfl (blk_put (blk_put (blk_alloc HN.out.res _) 0 _ rfl) 1 _ rfl)) rfl ⟨w4.heap.size, rfl, ?_, HN.out.bel.size, ((HN.out.bel.alloc HN.out.bel.size _).setCell (by show w.heap.size ≤ w.heap.size + 1; omega) _).setCell (by show w.heap.size ≤ w.heap.size + 1; omega) _⟩
  exact blk_far (blk_far (blk_new w4 _) (show w4.heap.size ≠ w.heap.size + 1 by omega) _) (show w4.heap.size ≠ w.heap.size + 1 by omega) _
set_option maxHeartbeats 4000000 in
set_option maxRecDepth 100000 in
theorem ref_tell_no (name : ByteArray) (a b c d p : Int) (w : World) (hn : highB p = false ∨ (highB p = true ∧ (name.toList == [80, 65, 83, 86]) = false ∧ (name.toList == [69, 80, 83, 86]) = false)) :
    Calls Tryz.prog 12 #[.string name, .agg #[.int .u8 a, .int .u8 b, .int .u8 c, .int .u8 d, .int .i64 p]] w fun e w' => e = .returned (.tuple #[.agg #[.int .i64 0, .slice none 0 0], .bool false]) ∧ Below w.heap.size w w' := by
  rcases hn with h | ⟨h, h1, h2⟩
  all_goals
    have HH := Aside0.mk h
    clear h
    go_enter Tryz.func12, Tryz.ntmps12
    go_wp2_with (go_at_call 29; (with_reducible refine (ref_high_calls a b c d p _).mono ?_); rintro e w3 ⟨rfl, hb3⟩; rw [HH.out]; have HL := Aside0.mk ((TF.start w a b c d p).step hb3); clear hb3; obtain ⟨c0, c1, f0, f1⟩ := rep_facts HL.out.res; obtain ⟨x0, x1, x2, x3, x4, u0, u1, u2, u3, u4⟩ := endCells_facts HL.out.e)
    try simp only [Exit.inBlock, Exit.then]
    exact bodyPost_ret (ref_res_rep _ _ (w.heap.size + 1) 0 _ none 0 0 rfl false rfl rfl (blk_put (blk_put HL.out.res 0 _ rfl) 1 _ rfl)) rfl ⟨rfl, (HL.out.bel.setCell (by show w.heap.size ≤ w.heap.size + 1; omega) _).setCell (by show w.heap.size ≤ w.heap.size + 1; omega) _⟩
theorem ref_tell_calls (name : ByteArray) (a b c d : Nat) (p : Int) (h : a < 256 ∧ b < 256 ∧ c < 256 ∧ d < 256) (w : World) :
    Calls Tryz.prog 12 #[.string name, .agg #[.int .u8 a, .int .u8 b, .int .u8 c, .int .u8 d, .int .i64 p]] w (TellR w (tellE name a b c d p)) := by
  cases hp : highB p
  · have e : tellE name a b c d p = none := by rw [tellE, if_neg (by rw [hp]; decide)]
    rw [e]
    exact ref_tell_no name a b c d p w (.inl hp)
  · have hh := high_iff.1 hp
    by_cases hv : name = PASV
    · subst hv
      rw [tellE, if_pos hp, if_pos rfl]
      refine ref_tell_pasv a b c d p w _ (by rw [← data_length]; show (SixP.sixU a b c d p.toNat).length ≤ _; have := six_short a b c d p.toNat h (by omega); omega) hp (fun W _ => ?_)
      have := Six.ref_text_calls a b c d p h.1 h.2.1 h.2.2.1 h.2.2.2 W
      rw [Six.textR, if_neg (by omega)] at this
      exact this
    · by_cases hv2 : name = EPSV
      · subst hv2
        rw [tellE, if_pos hp, if_neg hv, if_pos rfl]
        refine ref_tell_epsv a b c d p w _ (by rw [← data_length]; show (ExtP.portU p.toNat).length ≤ _; have := Ext.dig_short (p := p.toNat) (by omega); simp only [ExtP.portU, List.length_cons, List.length_append, List.length_nil]; omega) hp (fun W _ => ?_)
        have := Ext.ref_portT_calls p W
        rw [Ext.portR, if_pos (by omega)] at this
        exact this
      · have e : tellE name a b c d p = none := by rw [tellE, if_pos hp, if_neg hv, if_neg hv2]
        rw [e]
        exact ref_tell_no name a b c d p w (.inr ⟨hp, lit_ne (l := [80, 65, 83, 86]) hv, lit_ne (l := [69, 80, 83, 86]) hv2⟩)
end Go.Proofs.YtdcbkeihgbekdaaGreatDoor.Turn

namespace Go.Proofs.YtdcbkeihgbekdaaGreatDoor.Q
open Go.RowKit Go.Proofs.YtdcbkeihgbekdaaGreatDoor.Turn Go.Proofs.YtdcbkeihgbekdaaGreatDoorW.PrintWords Go.Proofs.YtdcbkeihgbekdaaGreatDoorW.PrintLast Go.Proofs.YtdcbkeihgbekdaaGreatDoorW.PrintMore
attribute [local go_sem] max2_int min2_int max_two min_two max_three min_three max_four min_four   -- for this text's walks alone
set_option linter.unusedVariables false
set_option linter.unusedSimpArgs false

/-! ### wharfingerref09_Same: function 13 -/
mutual
def wharfingerref09_Same.j0 : Nat → Bool → Int → List ByteArray → Int → List ByteArray → Option (Bool)
 | 0, _, _, _, _, _ => none
 | k + 1, x19, x203000, x203001, x204000, x204001 => if x19 = true then (some false) else (wharfingerref09_Same.l0 k 0 x203000 x203001 x204000 x204001)
def wharfingerref09_Same.l0 : Nat → Int → Int → List ByteArray → Int → List ByteArray → Option (Bool)
 | 0, _, _, _, _, _ => none
 | k + 1, x5, x203000, x203001, x204000, x204001 => if x5 < (x203001.length : Int) then (if 0 ≤ x5 then (if x5 < (x204001.length : Int) then (if (rdOf ByteArray.empty x203001 x5).toList = (rdOf ByteArray.empty x204001 x5).toList then (wharfingerref09_Same.l0 k (wrap64 (x5 + 1)) x203000 x203001 x204000 x204001) else (some false)) else (none)) else (none)) else (some true)
end
def wharfingerref09_Same.f (k : Nat) (a0_0 : Int) (l0_1 : List ByteArray) (a1_0 : Int) (l1_1 : List ByteArray) : Option (Bool) := if a0_0 = a1_0 then (wharfingerref09_Same.j0 k ((l0_1.length : Int) != (l1_1.length : Int)) a0_0 l0_1 a1_0 l1_1) else (wharfingerref09_Same.j0 k true a0_0 l0_1 a1_0 l1_1)
theorem wharfingerref09_Same.mono_l : ∀ k, (∀ y0 y1 y2 y3 y4, LeO (wharfingerref09_Same.j0 k y0 y1 y2 y3 y4) (wharfingerref09_Same.j0 (k + 1) y0 y1 y2 y3 y4)) ∧ (∀ y0 y1 y2 y3 y4, LeO (wharfingerref09_Same.l0 k y0 y1 y2 y3 y4) (wharfingerref09_Same.l0 (k + 1) y0 y1 y2 y3 y4))
 | 0 => ⟨fun _ _ _ _ _ r h => by simp [wharfingerref09_Same.j0] at h, fun _ _ _ _ _ r h => by simp [wharfingerref09_Same.l0] at h⟩
 | k + 1 => by
  obtain ⟨ih0, ih1⟩ := wharfingerref09_Same.mono_l k
  refine ⟨?_, ?_⟩
  ·
   intro y0 y1 y2 y3 y4
   unfold wharfingerref09_Same.j0
   repeat' first
   | (with_reducible exact ih0 _ _ _ _ _)
   | (with_reducible exact ih1 _ _ _ _ _)
   | (with_reducible exact LeO.refl _)
   | (with_reducible exact LeO.none _)
   | (with_reducible refine LeO.ite ?_ ?_)
   | (with_reducible refine LeO.bind ?_ (fun _ => ?_))
   | exact ih0 _ _ _ _ _
   | exact ih1 _ _ _ _ _
   | exact LeO.none _
   | refine LeO.ite ?_ ?_
   | refine LeO.bind ?_ (fun _ => ?_)
  ·
   intro y0 y1 y2 y3 y4
   unfold wharfingerref09_Same.l0
   repeat' first
   | (with_reducible exact ih0 _ _ _ _ _)
   | (with_reducible exact ih1 _ _ _ _ _)
   | (with_reducible exact LeO.refl _)
   | (with_reducible exact LeO.none _)
   | (with_reducible refine LeO.ite ?_ ?_)
   | (with_reducible refine LeO.bind ?_ (fun _ => ?_))
   | exact ih0 _ _ _ _ _
   | exact ih1 _ _ _ _ _
   | exact LeO.none _
   | refine LeO.ite ?_ ?_
   | refine LeO.bind ?_ (fun _ => ?_)
theorem wharfingerref09_Same.mono : ∀ a0 a1 a2 a3 k, LeO (wharfingerref09_Same.f k a0 a1 a2 a3) (wharfingerref09_Same.f (k + 1) a0 a1 a2 a3) := by
 intro a0 a1 a2 a3 k
 obtain ⟨ih0, ih1⟩ := wharfingerref09_Same.mono_l k
 unfold wharfingerref09_Same.f
 repeat' first
   | (with_reducible exact ih0 _ _ _ _ _)
   | (with_reducible exact ih1 _ _ _ _ _)
   | (with_reducible exact LeO.refl _)
   | (with_reducible exact LeO.none _)
   | (with_reducible refine LeO.ite ?_ ?_)
   | (with_reducible refine LeO.bind ?_ (fun _ => ?_))
   | exact ih0 _ _ _ _ _
   | exact ih1 _ _ _ _ _
   | exact LeO.none _
   | refine LeO.ite ?_ ?_
   | refine LeO.bind ?_ (fun _ => ?_)
set_option maxHeartbeats 8000000 in
set_option maxRecDepth 100000 in
theorem wharfingerref09_Same.calls (k : Nat) (a0_0 : Int) (A0_1 : Option Addr) (c0_1 : Nat) (l0_1 : List ByteArray) (a1_0 : Int) (A1_1 : Option Addr) (c1_1 : Nat) (l1_1 : List ByteArray) (r : Bool) (w : World) (hr0_1 : Kd.C Kd.string w A0_1 l0_1.length l0_1) (hc0_1 : l0_1.length ≤ c0_1) (hr1_1 : Kd.C Kd.string w A1_1 l1_1.length l1_1) (hc1_1 : l1_1.length ≤ c1_1) (h : wharfingerref09_Same.f k a0_0 l0_1 a1_0 l1_1 = some r) :
  Calls Tryz.prog 13 #[.agg #[.int .i64 a0_0, .slice A0_1 l0_1.length c0_1], .agg #[.int .i64 a1_0, .slice A1_1 l1_1.length c1_1]] w fun e w' => e = .returned (.bool r) ∧ Below w.heap.size w w' := by
 have hu26 := Tryz.underlying26
 have HR0_1 := Aside0.mk hr0_1
 have HC0_1 := Aside0.mk hc0_1
 clear hr0_1 hc0_1
 have HR1_1 := Aside0.mk hr1_1
 have HC1_1 := Aside0.mk hc1_1
 clear hr1_1 hc1_1
 have HB := Aside0.mk (Below.refl w.heap.size w)
 have H : (if a0_0 = a1_0 then (wharfingerref09_Same.j0 k ((l0_1.length : Int) != (l1_1.length : Int)) a0_0 l0_1 a1_0 l1_1) else (wharfingerref09_Same.j0 k true a0_0 l0_1 a1_0 l1_1)) = some r := h
 clear h
 have HC3 := Aside0.mk H
 clear H
 go_enter Tryz.func13, Tryz.ntmps13
 go_upto_region 1 with (first | ((with_reducible refine gate_dst (N := 2) rfl ?_); (try (refine gate_guard (by rfl) ?_; dsimp only)); refine box_event ?hg (N := 2) ?hd (cs := #[.int .i64 a0_0, .slice A0_1 l0_1.length c0_1]) (t := 26) ?hr ?_; (case hd => rfl); (case hg => rfl); (case hr => first | (go_simp; done) | (go_simp; rfl)); intro gb202 hg w4 hbox hb; have n0_ := Aside0.mk (below_step (by repeat (first | (with_reducible first | exact HB.out | apply below_alloc | apply pw_below_drewN | apply below_drew1) | exact HB.out)) hb); have n1_ := Aside0.mk (hbox); have n2_ := Aside0.mk ((by rw [hg]; exact (below_size (by repeat (first | (with_reducible first | exact HB.out | apply below_alloc | apply pw_below_drewN | apply below_drew1) | exact HB.out))) : w.heap.size ≤ gb202)); have n3_ := Aside0.mk ((by rw [hg]; exact (below_size (by repeat (first | (with_reducible first | exact HB.out | apply below_alloc | apply pw_below_drewN | apply below_drew1) | exact HB.out))) : w.heap.size ≤ gb202)); clear HB; have HB := n0_; have BK202 := n1_; have GW202 := n2_; have GE202 := n3_; clear n0_ n1_ n2_ n3_; clear hb hbox hg) | ((with_reducible refine gate_dst (N := 3) rfl ?_); (try (refine gate_guard (by rfl) ?_; dsimp only)); refine box_event ?hg (N := 3) ?hd (cs := #[.int .i64 a1_0, .slice A1_1 l1_1.length c1_1]) (t := 26) ?hr ?_; (case hd => rfl); (case hg => rfl); (case hr => first | (go_simp; done) | (go_simp; rfl)); intro gb203 hg w5 hbox hb; have n0_ := Aside0.mk (blk_below (g := gb202) (o := .cells #[.int .i64 a0_0, .slice A0_1 l0_1.length c0_1] 26 (0, 0)) (by (with_reducible repeat (first | refine blk_drewN ?_ _ | refine blk_drew ?_ | refine blk_alloc ?_ _)); exact BK202.out) hb); have n1_ := Aside0.mk (below_step (by repeat (first | (with_reducible first | exact HB.out | apply below_alloc | apply pw_below_drewN | apply below_drew1 | refine below_set ?_ GE202.out) | exact HB.out)) hb); have n2_ := Aside0.mk (hbox); have n3_ := Aside0.mk ((by rw [hg]; exact (below_size (by repeat (first | (with_reducible first | exact HB.out | apply below_alloc | apply pw_below_drewN | apply below_drew1 | refine below_set ?_ GE202.out) | exact HB.out))) : w.heap.size ≤ gb203)); have n4_ := Aside0.mk ((by rw [hg]; exact (below_size (by repeat (first | (with_reducible first | exact HB.out | apply below_alloc | apply pw_below_drewN | apply below_drew1 | refine below_set ?_ GE202.out) | exact HB.out))) : w.heap.size ≤ gb203)); have n5_ := Aside0.mk ((by rw [hg]; exact Nat.ne_of_lt (blk_lt (g := gb202) (o := .cells #[.int .i64 a0_0, .slice A0_1 l0_1.length c0_1] 26 (0, 0)) (by (with_reducible repeat (first | refine blk_drewN ?_ _ | refine blk_drew ?_ | refine blk_alloc ?_ _)); exact BK202.out)) : gb202 ≠ gb203)); have n6_ := Aside0.mk ((by rw [hg]; exact Nat.ne_of_gt (blk_lt (g := gb202) (o := .cells #[.int .i64 a0_0, .slice A0_1 l0_1.length c0_1] 26 (0, 0)) (by (with_reducible repeat (first | refine blk_drewN ?_ _ | refine blk_drew ?_ | refine blk_alloc ?_ _)); exact BK202.out)) : gb203 ≠ gb202)); clear BK202; clear HB; have BK202 := n0_; have HB := n1_; have BK203 := n2_; have GW203 := n3_; have GE203 := n4_; have NB202_203 := n5_; have NB203_202 := n6_; clear n0_ n1_ n2_ n3_ n4_ n5_ n6_; clear hb hbox hg))
 repeat (go_quiet (first | ((with_reducible refine gate_dst (N := 2) rfl ?_); (try (refine gate_guard (by rfl) ?_; dsimp only)); refine box_event ?hg (N := 2) ?hd (cs := #[.int .i64 a0_0, .slice A0_1 l0_1.length c0_1]) (t := 26) ?hr ?_; (case hd => rfl); (case hg => rfl); (case hr => first | (go_simp; done) | (go_simp; rfl)); intro gb202 hg w4 hbox hb; have n0_ := Aside0.mk (below_step (by repeat (first | (with_reducible first | exact HB.out | apply below_alloc | apply pw_below_drewN | apply below_drew1) | exact HB.out)) hb); have n1_ := Aside0.mk (hbox); have n2_ := Aside0.mk ((by rw [hg]; exact (below_size (by repeat (first | (with_reducible first | exact HB.out | apply below_alloc | apply pw_below_drewN | apply below_drew1) | exact HB.out))) : w.heap.size ≤ gb202)); have n3_ := Aside0.mk ((by rw [hg]; exact (below_size (by repeat (first | (with_reducible first | exact HB.out | apply below_alloc | apply pw_below_drewN | apply below_drew1) | exact HB.out))) : w.heap.size ≤ gb202)); clear HB; have HB := n0_; have BK202 := n1_; have GW202 := n2_; have GE202 := n3_; clear n0_ n1_ n2_ n3_; clear hb hbox hg) | ((with_reducible refine gate_dst (N := 3) rfl ?_); (try (refine gate_guard (by rfl) ?_; dsimp only)); refine box_event ?hg (N := 3) ?hd (cs := #[.int .i64 a1_0, .slice A1_1 l1_1.length c1_1]) (t := 26) ?hr ?_; (case hd => rfl); (case hg => rfl); (case hr => first | (go_simp; done) | (go_simp; rfl)); intro gb203 hg w5 hbox hb; have n0_ := Aside0.mk (blk_below (g := gb202) (o := .cells #[.int .i64 a0_0, .slice A0_1 l0_1.length c0_1] 26 (0, 0)) (by (with_reducible repeat (first | refine blk_drewN ?_ _ | refine blk_drew ?_ | refine blk_alloc ?_ _)); exact BK202.out) hb); have n1_ := Aside0.mk (below_step (by repeat (first | (with_reducible first | exact HB.out | apply below_alloc | apply pw_below_drewN | apply below_drew1 | refine below_set ?_ GE202.out) | exact HB.out)) hb); have n2_ := Aside0.mk (hbox); have n3_ := Aside0.mk ((by rw [hg]; exact (below_size (by repeat (first | (with_reducible first | exact HB.out | apply below_alloc | apply pw_below_drewN | apply below_drew1 | refine below_set ?_ GE202.out) | exact HB.out))) : w.heap.size ≤ gb203)); have n4_ := Aside0.mk ((by rw [hg]; exact (below_size (by repeat (first | (with_reducible first | exact HB.out | apply below_alloc | apply pw_below_drewN | apply below_drew1 | refine below_set ?_ GE202.out) | exact HB.out))) : w.heap.size ≤ gb203)); have n5_ := Aside0.mk ((by rw [hg]; exact Nat.ne_of_lt (blk_lt (g := gb202) (o := .cells #[.int .i64 a0_0, .slice A0_1 l0_1.length c0_1] 26 (0, 0)) (by (with_reducible repeat (first | refine blk_drewN ?_ _ | refine blk_drew ?_ | refine blk_alloc ?_ _)); exact BK202.out)) : gb202 ≠ gb203)); have n6_ := Aside0.mk ((by rw [hg]; exact Nat.ne_of_gt (blk_lt (g := gb202) (o := .cells #[.int .i64 a0_0, .slice A0_1 l0_1.length c0_1] 26 (0, 0)) (by (with_reducible repeat (first | refine blk_drewN ?_ _ | refine blk_drew ?_ | refine blk_alloc ?_ _)); exact BK202.out)) : gb203 ≠ gb202)); clear BK202; clear HB; have BK202 := n0_; have HB := n1_; have BK203 := n2_; have GW203 := n3_; have GE203 := n4_; have NB202_203 := n5_; have NB203_202 := n6_; clear n0_ n1_ n2_ n3_ n4_ n5_ n6_; clear hb hbox hg)); go_upto_region 1 with (first | ((with_reducible refine gate_dst (N := 2) rfl ?_); (try (refine gate_guard (by rfl) ?_; dsimp only)); refine box_event ?hg (N := 2) ?hd (cs := #[.int .i64 a0_0, .slice A0_1 l0_1.length c0_1]) (t := 26) ?hr ?_; (case hd => rfl); (case hg => rfl); (case hr => first | (go_simp; done) | (go_simp; rfl)); intro gb202 hg w4 hbox hb; have n0_ := Aside0.mk (below_step (by repeat (first | (with_reducible first | exact HB.out | apply below_alloc | apply pw_below_drewN | apply below_drew1) | exact HB.out)) hb); have n1_ := Aside0.mk (hbox); have n2_ := Aside0.mk ((by rw [hg]; exact (below_size (by repeat (first | (with_reducible first | exact HB.out | apply below_alloc | apply pw_below_drewN | apply below_drew1) | exact HB.out))) : w.heap.size ≤ gb202)); have n3_ := Aside0.mk ((by rw [hg]; exact (below_size (by repeat (first | (with_reducible first | exact HB.out | apply below_alloc | apply pw_below_drewN | apply below_drew1) | exact HB.out))) : w.heap.size ≤ gb202)); clear HB; have HB := n0_; have BK202 := n1_; have GW202 := n2_; have GE202 := n3_; clear n0_ n1_ n2_ n3_; clear hb hbox hg) | ((with_reducible refine gate_dst (N := 3) rfl ?_); (try (refine gate_guard (by rfl) ?_; dsimp only)); refine box_event ?hg (N := 3) ?hd (cs := #[.int .i64 a1_0, .slice A1_1 l1_1.length c1_1]) (t := 26) ?hr ?_; (case hd => rfl); (case hg => rfl); (case hr => first | (go_simp; done) | (go_simp; rfl)); intro gb203 hg w5 hbox hb; have n0_ := Aside0.mk (blk_below (g := gb202) (o := .cells #[.int .i64 a0_0, .slice A0_1 l0_1.length c0_1] 26 (0, 0)) (by (with_reducible repeat (first | refine blk_drewN ?_ _ | refine blk_drew ?_ | refine blk_alloc ?_ _)); exact BK202.out) hb); have n1_ := Aside0.mk (below_step (by repeat (first | (with_reducible first | exact HB.out | apply below_alloc | apply pw_below_drewN | apply below_drew1 | refine below_set ?_ GE202.out) | exact HB.out)) hb); have n2_ := Aside0.mk (hbox); have n3_ := Aside0.mk ((by rw [hg]; exact (below_size (by repeat (first | (with_reducible first | exact HB.out | apply below_alloc | apply pw_below_drewN | apply below_drew1 | refine below_set ?_ GE202.out) | exact HB.out))) : w.heap.size ≤ gb203)); have n4_ := Aside0.mk ((by rw [hg]; exact (below_size (by repeat (first | (with_reducible first | exact HB.out | apply below_alloc | apply pw_below_drewN | apply below_drew1 | refine below_set ?_ GE202.out) | exact HB.out))) : w.heap.size ≤ gb203)); have n5_ := Aside0.mk ((by rw [hg]; exact Nat.ne_of_lt (blk_lt (g := gb202) (o := .cells #[.int .i64 a0_0, .slice A0_1 l0_1.length c0_1] 26 (0, 0)) (by (with_reducible repeat (first | refine blk_drewN ?_ _ | refine blk_drew ?_ | refine blk_alloc ?_ _)); exact BK202.out)) : gb202 ≠ gb203)); have n6_ := Aside0.mk ((by rw [hg]; exact Nat.ne_of_gt (blk_lt (g := gb202) (o := .cells #[.int .i64 a0_0, .slice A0_1 l0_1.length c0_1] 26 (0, 0)) (by (with_reducible repeat (first | refine blk_drewN ?_ _ | refine blk_drew ?_ | refine blk_alloc ?_ _)); exact BK202.out)) : gb203 ≠ gb202)); clear BK202; clear HB; have BK202 := n0_; have HB := n1_; have BK203 := n2_; have GW203 := n3_; have GE203 := n4_; have NB202_203 := n5_; have NB203_202 := n6_; clear n0_ n1_ n2_ n3_ n4_ n5_ n6_; clear hb hbox hg)))
 (try simp only [Act.put, List.setIfInBounds_toArray, List.set_cons_zero, List.set_cons_succ])
 go_cut [19] (fun v19 wc => ∃ (kq : Nat) (x19_2 : Bool), v19 = .bool x19_2 ∧ Aside0 (wharfingerref09_Same.j0 kq x19_2 a0_0 l0_1 a1_0 l1_1 = some r) ∧ Aside0 (kq ≤ k) ∧ Aside0 (wc.heap[gb202]? = some (.cells #[.int .i64 a0_0, (.slice A0_1 l0_1.length c0_1)] 26 (0, 0))) ∧ Aside0 (wc.heap[gb203]? = some (.cells #[.int .i64 a1_0, (.slice A1_1 l1_1.length c1_1)] 26 (0, 0))) ∧ Aside0 (Below w.heap.size w wc))
 case first =>
  have H := HC3.out
  clear HC3
  by_cases c6 : a0_0 = a1_0
  ·
   rw [if_pos c6] at H
   have c6b0 : (a0_0 == a1_0) = true := beq_iff_eq.mpr c6
   have c6b1 : (a0_0 != a1_0) = false := bne_eq_false_iff_eq.mpr c6
   clear c6
   (first | rw [c6b0] | (simp only [i64_w, i32_w]; rw [c6b0]) | skip)
   have H' := Aside0.mk H
   clear H
   have hnb7 := NB202_203.out
   have hnc7 := NB203_202.out
   have hcz8_0 : w5.cell? ⟨gb202, 0, none⟩ = some (.int .i64 a0_0) := (blk_cell BK202.out 0).trans rfl
   have hcz8_1 : w5.cell? ⟨gb202, 1, none⟩ = some (.slice A0_1 l0_1.length c0_1) := (blk_cell BK202.out 1).trans rfl
   have hfz8_0 := blk_frozen BK202.out 0
   have hfz8_1 := blk_frozen BK202.out 1
   have hcz9_0 : w5.cell? ⟨gb203, 0, none⟩ = some (.int .i64 a1_0) := (blk_cell BK203.out 0).trans rfl
   have hcz9_1 : w5.cell? ⟨gb203, 1, none⟩ = some (.slice A1_1 l1_1.length c1_1) := (blk_cell BK203.out 1).trans rfl
   have hfz9_0 := blk_frozen BK203.out 0
   have hfz9_1 := blk_frozen BK203.out 1
   go_wp2
   repeat (go_quiet (fail); try go_wp2)
   go_meet
   case rel => exact ⟨_, (((l0_1.length : Int) != (l1_1.length : Int))), (by first | rfl | (simp; done) | (simp [*]; done)), H', ⟨by first | omega | exact Nat.le_refl _⟩, ⟨by (with_reducible repeat (first | refine blk_drewN ?_ _ | refine blk_drew ?_ | refine blk_alloc ?_ _)); exact BK202.out⟩, ⟨by (with_reducible repeat (first | refine blk_drewN ?_ _ | refine blk_drew ?_ | refine blk_alloc ?_ _)); exact BK203.out⟩, ⟨by repeat (first | (with_reducible first | exact HB.out | apply below_alloc | apply pw_below_drewN | apply below_drew1 | refine below_set ?_ GE202.out | refine below_set ?_ GE203.out) | exact HB.out)⟩⟩
  ·
   rw [if_neg c6] at H
   have c6b0 : (a0_0 == a1_0) = false := beq_eq_false_iff_ne.mpr c6
   have c6b1 : (a0_0 != a1_0) = true := bne_iff_ne.mpr c6
   (first | rw [c6b0] | (simp only [i64_w, i32_w]; rw [c6b0]) | skip)
   have H' := Aside0.mk H
   clear H
   have hnb10 := NB202_203.out
   have hnc10 := NB203_202.out
   have hcz11_0 : w5.cell? ⟨gb202, 0, none⟩ = some (.int .i64 a0_0) := (blk_cell BK202.out 0).trans rfl
   have hcz11_1 : w5.cell? ⟨gb202, 1, none⟩ = some (.slice A0_1 l0_1.length c0_1) := (blk_cell BK202.out 1).trans rfl
   have hfz11_0 := blk_frozen BK202.out 0
   have hfz11_1 := blk_frozen BK202.out 1
   have hcz12_0 : w5.cell? ⟨gb203, 0, none⟩ = some (.int .i64 a1_0) := (blk_cell BK203.out 0).trans rfl
   have hcz12_1 : w5.cell? ⟨gb203, 1, none⟩ = some (.slice A1_1 l1_1.length c1_1) := (blk_cell BK203.out 1).trans rfl
   have hfz12_0 := blk_frozen BK203.out 0
   have hfz12_1 := blk_frozen BK203.out 1
   go_wp2
   repeat (go_quiet (fail); try go_wp2)
   go_meet
   case rel => exact ⟨_, (true), (by first | rfl | (simp; done) | (simp [*]; done)), H', ⟨by first | omega | exact Nat.le_refl _⟩, ⟨by (with_reducible repeat (first | refine blk_drewN ?_ _ | refine blk_drew ?_ | refine blk_alloc ?_ _)); exact BK202.out⟩, ⟨by (with_reducible repeat (first | refine blk_drewN ?_ _ | refine blk_drew ?_ | refine blk_alloc ?_ _)); exact BK203.out⟩, ⟨by repeat (first | (with_reducible first | exact HB.out | apply below_alloc | apply pw_below_drewN | apply below_drew1 | refine below_set ?_ GE202.out | refine below_set ?_ GE203.out) | exact HB.out)⟩⟩
 case rest =>
  clear HC3
  try clear c1
  try clear p2
  try clear c6
  try clear c6b0
  try clear c6b1
  try clear c7
  try clear c10
  try clear hcz11_0
  try clear hcz11_1
  try clear hcz12_0
  try clear hcz12_1
  try clear hcz8_0
  try clear hcz8_1
  try clear hcz9_0
  try clear hcz9_1
  try clear hfz11_0
  try clear hfz11_1
  try clear hfz12_0
  try clear hfz12_1
  try clear hfz8_0
  try clear hfz8_1
  try clear hfz9_0
  try clear hfz9_1
  obtain ⟨kq, x19_2, rfl, HA, HJ2, BK202, BK203, HB⟩ := hcut
  cases kq with
  | zero => exact absurd HA.out (by simp [wharfingerref09_Same.j0])
  | succ kj2 =>
   have H := HA.out
   clear HA
   simp only [wharfingerref09_Same.j0] at H
   by_cases c13 : x19_2 = true
   ·
    subst c13
    have H1 : (some false) = some r := by rw [if_pos rfl] at H; exact H
    clear H
    have H := H1
    clear H1
    obtain rfl := Option.some.inj H
    go_wp2
    repeat (go_quiet (fail); try go_wp2)
    go_ret
    exact ⟨by first | rfl | (simp [errW_none, errW_some] <;> rfl) | (simp [*, errW_none, errW_some] <;> rfl), by repeat (first | (with_reducible first | exact HB.out | apply below_alloc | apply pw_below_drewN | apply below_drew1 | refine below_set ?_ GE202.out | refine below_set ?_ GE203.out) | exact HB.out)⟩
   ·
    replace c13 := Bool.eq_false_iff.mpr c13
    subst c13
    have H1 : (wharfingerref09_Same.l0 kj2 0 a0_0 l0_1 a1_0 l1_1) = some r := by rw [if_neg (show ¬ (false = true) by decide)] at H; exact H
    clear H
    have H := H1
    clear H1
    have H' := Aside0.mk H
    clear H
    go_wp2
    repeat (go_quiet (fail); try go_wp2)
    go_loopg [5] kj2 (fun kq v5 w' => ∃ (x5_2 : Int), v5 = .int .i64 x5_2 ∧ Aside0 (wharfingerref09_Same.l0 kq x5_2 a0_0 l0_1 a1_0 l1_1 = some r) ∧ Aside0 (kq ≤ kj2) ∧ Aside0 (w'.heap[gb202]? = some (.cells #[.int .i64 a0_0, (.slice A0_1 l0_1.length c0_1)] 26 (0, 0))) ∧ Aside0 (w'.heap[gb203]? = some (.cells #[.int .i64 a1_0, (.slice A1_1 l1_1.length c1_1)] 26 (0, 0))) ∧ Aside0 (Below w.heap.size w w'))
    case atStart => exact ⟨(0), (by first | rfl | (simp; done) | (simp [*]; done)), H', ⟨Nat.le_refl _⟩, ⟨by (with_reducible repeat (first | refine blk_drewN ?_ _ | refine blk_drew ?_ | refine blk_alloc ?_ _)); exact BK202.out⟩, ⟨by (with_reducible repeat (first | refine blk_drewN ?_ _ | refine blk_drew ?_ | refine blk_alloc ?_ _)); exact BK203.out⟩, ⟨by repeat (first | (with_reducible first | exact HB.out | apply below_alloc | apply pw_below_drewN | apply below_drew1 | refine below_set ?_ GE202.out | refine below_set ?_ GE203.out) | exact HB.out)⟩⟩
    case round =>
     clear H'
     try clear c1
     try clear p2
     try clear c6
     try clear c6b0
     try clear c6b1
     try clear c7
     try clear c10
     try clear c13
     try clear hcz11_0
     try clear hcz11_1
     try clear hcz12_0
     try clear hcz12_1
     try clear hcz8_0
     try clear hcz8_1
     try clear hcz9_0
     try clear hcz9_1
     try clear hfz11_0
     try clear hfz11_1
     try clear hfz12_0
     try clear hfz12_1
     try clear hfz8_0
     try clear hfz8_1
     try clear hfz9_0
     try clear hfz9_1
     try clear p2
     obtain ⟨x5_2, rfl, HA, HK2, BK202, BK203, HB⟩ := hrel
     cases gk with
     | zero => exact absurd HA.out (by simp [wharfingerref09_Same.l0])
     | succ k2 =>
      have H := HA.out
      clear HA
      simp only [wharfingerref09_Same.l0] at H
      by_cases c14 : x5_2 < (l0_1.length : Int)
      ·
       rw [if_pos c14] at H
       have c14b0 : decide (x5_2 < (l0_1.length : Int)) = true := decide_eq_true c14
       clear c14
       by_cases c15 : 0 ≤ x5_2
       ·
        rw [if_pos c15] at H
        have c15b0 : decide (0 ≤ x5_2) = true := decide_eq_true c15
        clear c15
        by_cases c16 : x5_2 < (l1_1.length : Int)
        ·
         rw [if_pos c16] at H
         have c16b0 : decide (x5_2 < (l1_1.length : Int)) = true := decide_eq_true c16
         clear c16
         by_cases c17 : (rdOf ByteArray.empty l0_1 x5_2).toList = (rdOf ByteArray.empty l1_1 x5_2).toList
         ·
          rw [if_pos c17] at H
          have c17b0 : ((rdOf ByteArray.empty l0_1 x5_2).toList == (rdOf ByteArray.empty l1_1 x5_2).toList) = true := beq_iff_eq.mpr c17
          have c17b1 : ((rdOf ByteArray.empty l0_1 x5_2).toList != (rdOf ByteArray.empty l1_1 x5_2).toList) = false := bne_eq_false_iff_eq.mpr c17
          clear c17
          have H' := Aside0.mk H
          clear H
          have hnb18 := NB202_203.out
          have hnc18 := NB203_202.out
          have hcz19_0 : wr.cell? ⟨gb202, 0, none⟩ = some (.int .i64 a0_0) := (blk_cell BK202.out 0).trans rfl
          have hcz19_1 : wr.cell? ⟨gb202, 1, none⟩ = some (.slice A0_1 l0_1.length c0_1) := (blk_cell BK202.out 1).trans rfl
          have hfz19_0 := blk_frozen BK202.out 0
          have hfz19_1 := blk_frozen BK202.out 1
          have p204 : 0 ≤ (x5_2 : Int) := of_decide_eq_true (by first | (with_reducible assumption) | assumption)
          have q204 : x5_2 < (l0_1.length : Int) := of_decide_eq_true (by first | (with_reducible assumption) | assumption)
          obtain ⟨ad204, e204, hx204_0⟩ := Kd.at_string HR0_1.out x5_2 p204 q204
          cases e204
          replace hx204_0 := (HB.out.cell (World.block_lt_of_cell? w _ hx204_0)).trans hx204_0
          replace p204 := eq_true p204
          replace q204 := eq_true q204
          have hcz20_0 : wr.cell? ⟨gb203, 0, none⟩ = some (.int .i64 a1_0) := (blk_cell BK203.out 0).trans rfl
          have hcz20_1 : wr.cell? ⟨gb203, 1, none⟩ = some (.slice A1_1 l1_1.length c1_1) := (blk_cell BK203.out 1).trans rfl
          have hfz20_0 := blk_frozen BK203.out 0
          have hfz20_1 := blk_frozen BK203.out 1
          have p205 : 0 ≤ (x5_2 : Int) := of_decide_eq_true (by first | (with_reducible assumption) | assumption)
          have q205 : x5_2 < (l1_1.length : Int) := of_decide_eq_true (by first | (with_reducible assumption) | assumption)
          obtain ⟨ad205, e205, hx205_0⟩ := Kd.at_string HR1_1.out x5_2 p205 q205
          cases e205
          replace hx205_0 := (HB.out.cell (World.block_lt_of_cell? w _ hx205_0)).trans hx205_0
          replace p205 := eq_true p205
          replace q205 := eq_true q205
          go_wp2
          repeat (go_quiet (fail); try go_wp2)
          go_roundg k2
          case measure => have := HJ2.out; have := HK2.out; omega
          case rel => exact ⟨(wrap64 (x5_2 + 1)), (by first | rfl | (simp; done) | (simp [*]; done)), H', ⟨by have := HJ2.out; have := HK2.out; omega⟩, ⟨by (with_reducible repeat (first | refine blk_drewN ?_ _ | refine blk_drew ?_ | refine blk_alloc ?_ _)); exact BK202.out⟩, ⟨by (with_reducible repeat (first | refine blk_drewN ?_ _ | refine blk_drew ?_ | refine blk_alloc ?_ _)); exact BK203.out⟩, ⟨by repeat (first | (with_reducible first | exact HB.out | apply below_alloc | apply pw_below_drewN | apply below_drew1 | refine below_set ?_ GE202.out | refine below_set ?_ GE203.out) | exact HB.out)⟩⟩
         ·
          rw [if_neg c17] at H
          have c17b0 : ((rdOf ByteArray.empty l0_1 x5_2).toList == (rdOf ByteArray.empty l1_1 x5_2).toList) = false := beq_eq_false_iff_ne.mpr c17
          have c17b1 : ((rdOf ByteArray.empty l0_1 x5_2).toList != (rdOf ByteArray.empty l1_1 x5_2).toList) = true := bne_iff_ne.mpr c17
          obtain rfl := Option.some.inj H
          have hnb21 := NB202_203.out
          have hnc21 := NB203_202.out
          have hcz22_0 : wr.cell? ⟨gb202, 0, none⟩ = some (.int .i64 a0_0) := (blk_cell BK202.out 0).trans rfl
          have hcz22_1 : wr.cell? ⟨gb202, 1, none⟩ = some (.slice A0_1 l0_1.length c0_1) := (blk_cell BK202.out 1).trans rfl
          have hfz22_0 := blk_frozen BK202.out 0
          have hfz22_1 := blk_frozen BK202.out 1
          have p204 : 0 ≤ (x5_2 : Int) := of_decide_eq_true (by first | (with_reducible assumption) | assumption)
          have q204 : x5_2 < (l0_1.length : Int) := of_decide_eq_true (by first | (with_reducible assumption) | assumption)
          obtain ⟨ad204, e204, hx204_0⟩ := Kd.at_string HR0_1.out x5_2 p204 q204
          cases e204
          replace hx204_0 := (HB.out.cell (World.block_lt_of_cell? w _ hx204_0)).trans hx204_0
          replace p204 := eq_true p204
          replace q204 := eq_true q204
          have hcz23_0 : wr.cell? ⟨gb203, 0, none⟩ = some (.int .i64 a1_0) := (blk_cell BK203.out 0).trans rfl
          have hcz23_1 : wr.cell? ⟨gb203, 1, none⟩ = some (.slice A1_1 l1_1.length c1_1) := (blk_cell BK203.out 1).trans rfl
          have hfz23_0 := blk_frozen BK203.out 0
          have hfz23_1 := blk_frozen BK203.out 1
          have p205 : 0 ≤ (x5_2 : Int) := of_decide_eq_true (by first | (with_reducible assumption) | assumption)
          have q205 : x5_2 < (l1_1.length : Int) := of_decide_eq_true (by first | (with_reducible assumption) | assumption)
          obtain ⟨ad205, e205, hx205_0⟩ := Kd.at_string HR1_1.out x5_2 p205 q205
          cases e205
          replace hx205_0 := (HB.out.cell (World.block_lt_of_cell? w _ hx205_0)).trans hx205_0
          replace p205 := eq_true p205
          replace q205 := eq_true q205
          go_wp2
          repeat (go_quiet (fail); try go_wp2)
          go_ret
          exact ⟨by first | rfl | (simp [errW_none, errW_some] <;> rfl) | (simp [*, errW_none, errW_some] <;> rfl), by repeat (first | (with_reducible first | exact HB.out | apply below_alloc | apply pw_below_drewN | apply below_drew1 | refine below_set ?_ GE202.out | refine below_set ?_ GE203.out) | exact HB.out)⟩
        ·
         rw [if_neg c16] at H
         exact absurd H (by simp)
       ·
        rw [if_neg c15] at H
        exact absurd H (by simp)
      ·
       rw [if_neg c14] at H
       have c14b0 : decide (x5_2 < (l0_1.length : Int)) = false := decide_eq_false c14
       clear c14
       obtain rfl := Option.some.inj H
       have hnb24 := NB202_203.out
       have hnc24 := NB203_202.out
       have hcz25_0 : wr.cell? ⟨gb202, 0, none⟩ = some (.int .i64 a0_0) := (blk_cell BK202.out 0).trans rfl
       have hcz25_1 : wr.cell? ⟨gb202, 1, none⟩ = some (.slice A0_1 l0_1.length c0_1) := (blk_cell BK202.out 1).trans rfl
       have hfz25_0 := blk_frozen BK202.out 0
       have hfz25_1 := blk_frozen BK202.out 1
       go_wp2
       repeat (go_quiet (fail); try go_wp2)
       go_ret
       exact ⟨by first | rfl | (simp [errW_none, errW_some] <;> rfl) | (simp [*, errW_none, errW_some] <;> rfl), by repeat (first | (with_reducible first | exact HB.out | apply below_alloc | apply pw_below_drewN | apply below_drew1 | refine below_set ?_ GE202.out | refine below_set ?_ GE203.out) | exact HB.out)⟩

end Go.Proofs.YtdcbkeihgbekdaaGreatDoor.Q

namespace Go.Proofs.YtdcbkeihgbekdaaGreatDoor.Turn
open Go Go.RowKit Go.Proofs.YtdcbkeihgbekdaaGreatDoor.Q Go.Proofs.YtdcbkeihgbekdaaGreatDoorW.PrintWords Go.Proofs.YtdcbkeihgbekdaaGreatDoorW.PrintLast Go.Proofs.YtdcbkeihgbekdaaGreatDoorW.PrintMore Go.Proofs.YtdcbkeihgbekdaaGreatDoor.Dig Go.Proofs.YtdcbkeihgbekdaaGreatDoor.Quad Go.Proofs.YtdcbkeihgbekdaaGreatDoor.ExtP Go.Proofs.YtdcbkeihgbekdaaGreatDoor.SixP
set_option linter.unusedVariables false
theorem own_is (a b c d p h0 h1 h2 h3 : Int) : wharfingerref19_own.f a b c d p h0 h1 h2 h3 = some (toldE 0 a b c d p h0 h1 h2 h3) := by
  rw [wharfingerref19_own.f, toldE, if_pos rfl]
  have e : (!(a == h0) || (!(b == h1) || (!(c == h2) || !(d == h3)))) = !(a == h0 && (b == h1 && (c == h2 && d == h3))) := by simp [Bool.not_and]
  rw [e]
  cases hq : (a == h0 && (b == h1 && (c == h2 && d == h3)))
  · rw [if_pos (by rfl), if_neg (by simp)]
  · rw [if_neg (by simp)]
    by_cases hp : p < 1024
    · rw [if_pos hp, if_neg (by simp; omega)]
    · rw [if_neg hp, if_pos ⟨rfl, by omega⟩]
theorem lit_iff {s : ByteArray} {l : List UInt8} : (s.toList = l) ↔ s = ⟨l.toArray⟩ := by
  rw [ByteArray.toList_eq]
  constructor
  · intro h; apply ByteArray.ext; apply Array.ext'; rw [h]
  · intro h; rw [h]
theorem point_ref (verb arg : ByteArray) (hs : arg.size ≤ 1000000) (h0 h1 h2 h3 : Int) : wharfingerref19_Point.f verb arg h0 h1 h2 h3 = some (pointE verb arg h0 h1 h2 h3) := by
  rw [wharfingerref19_Point.f, pointE]
  by_cases hv : verb = PORT
  · rw [if_pos (lit_iff.2 hv), if_pos hv, wharfingerref03_Read.f, if_pos hs, Option.bind_some]
    cases readSix arg.data.toList with
    | none => rfl
    | some x => obtain ⟨a, b, c, d, p⟩ := x; simp only [sixF, if_true, own_is, Option.bind_some]; rfl
  · rw [if_neg (fun h => hv (lit_iff.1 h)), if_neg hv]
    by_cases hv2 : verb = EPRT
    · rw [if_pos (lit_iff.2 hv2), if_pos hv2, wharfingerref04_Read.f, if_pos hs, Option.bind_some]
      cases readE arg.data.toList with
      | ok a b c d p => simp only [extF, if_true, own_is, Option.bind_some]; rfl
      | form => rfl
      | kind => rfl
    · rw [if_neg (fun h => hv2 (lit_iff.1 h)), if_neg hv2]; rfl
theorem bne_lit {s : ByteArray} {l : List UInt8} : (s.toList != l) = !decide (s = ⟨l.toArray⟩) := by
  rw [bne, Bool.not_inj_iff, Bool.eq_iff_iff, beq_iff_eq, decide_eq_true_iff]; exact lit_iff
theorem rd0 (s : ByteArray) : rdOf ByteArray.empty [s] 0 = s := rfl
theorem len_one {l : List ByteArray} : ((l.length : Int) = 1) ↔ l.length = 1 := by omega
theorem listen_ref (name : ByteArray) (code : Int) (l : List ByteArray) (hl : ∀ s, l = [s] → s.size ≤ 1000000) (h0 h1 h2 h3 : Int) (k : Nat) : wharfingerref19_Listen.f (k + 2) name code l h0 h1 h2 h3 = some (listenE name code l h0 h1 h2 h3) := by
  rw [wharfingerref19_Listen.f, listenE]
  have nE : (⟨([69, 80, 83, 86] : List UInt8).toArray⟩ : ByteArray) = EPSV := rfl
  by_cases hv : name = PASV
  · have hv2 : ¬ name = EPSV := by rw [hv]; decide
    rw [if_pos (lit_iff.2 hv), if_pos hv]
    simp only [wharfingerref19_Listen.j0, Bool.false_eq_true, if_false]
    by_cases hn : l.length = 1
    · rw [if_pos (len_one.2 hn), if_pos (lit_iff.2 hv)]
      obtain ⟨s, rfl⟩ := one1_len hn
      by_cases hc : code = 227
      · rw [if_pos hc, if_pos hc, if_neg (fun h => hv2 (lit_iff.1 h))]
        simp only [wharfingerref19_Listen.j1, Bool.false_eq_true, if_false]
        rw [if_pos (lit_iff.2 hv), if_pos (by simp), rd0, wharfingerref03_Find.f, if_pos (hl s rfl), Option.bind_some, show ∀ X Y, one1 [s] X Y = X s from fun _ _ => rfl]
        cases find s.data.toList with
        | none => rfl
        | some x => obtain ⟨a, b, c, d, p⟩ := x; simp only [sixF, if_true, own_is, Option.bind_some]; rfl
      · rw [if_neg hc, if_neg hc]
        simp only [wharfingerref19_Listen.j1, if_true]
        rfl
    · rw [if_neg (fun h => hn (len_one.1 h)), one1_ne hn]
      simp only [wharfingerref19_Listen.j1, if_true]
      split <;> rfl
  · rw [if_neg (fun h => hv (lit_iff.1 h)), if_neg hv, bne_lit, nE]
    by_cases hv2 : name = EPSV
    · rw [decide_eq_true hv2, if_pos hv2]
      simp only [wharfingerref19_Listen.j0, Bool.not_true, Bool.false_eq_true, if_false]
      by_cases hn : l.length = 1
      · rw [if_pos (len_one.2 hn), if_neg (fun h => hv (lit_iff.1 h)), if_pos (lit_iff.2 hv2)]
        obtain ⟨s, rfl⟩ := one1_len hn
        by_cases hc : code = 229
        · rw [if_pos hc, show (code != 229) = false from by rw [hc]; rfl]
          simp only [wharfingerref19_Listen.j1, Bool.false_eq_true, if_false]
          rw [if_neg (fun h => hv (lit_iff.1 h)), if_pos (by simp), rd0, wharfingerref04_Find.f, if_pos (hl s rfl), Option.bind_some, show ∀ X Y, one1 [s] X Y = X s from fun _ _ => rfl]
          cases findE s.data.toList with
          | none => simp only [portF, Bool.false_eq_true, if_false]; rfl
          | some q => simp only [portF, if_true, own_is, Option.bind_some]; rfl
        · rw [if_neg hc, show (code != 229) = true from by simp [bne, hc]]
          simp only [wharfingerref19_Listen.j1, if_true]
          rfl
      · rw [if_neg (fun h => hn (len_one.1 h)), one1_ne hn]
        simp only [wharfingerref19_Listen.j1, if_true]
        split <;> rfl
    · rw [decide_eq_false hv2, if_neg hv2]
      simp only [wharfingerref19_Listen.j0, Bool.not_false, if_true]
      rfl
theorem high_ref (a b c d p : Int) : wharfingerref19_high.f a b c d p = some (highB p) := by
  rw [wharfingerref19_high.f, highB]
  by_cases h : 1024 ≤ p
  · rw [if_pos h, decide_eq_true h, Bool.true_and]
  · rw [if_neg h, decide_eq_false h, Bool.false_and]
theorem byte_nat {a : Nat} (h : a < 256) : isByte (a : Int) := ⟨by omega, by omega⟩
theorem six_ref (a b c d : Nat) (p : Int) (h : a < 256 ∧ b < 256 ∧ c < 256 ∧ d < 256) (hp : highB p = true) : wharfingerref03_Text.f a b c d p = some (⟨(sixU a b c d p.toNat).toArray⟩, true) := by
  rw [wharfingerref03_Text.f, if_pos ⟨byte_nat h.1, byte_nat h.2.1, byte_nat h.2.2.1, byte_nat h.2.2.2⟩, if_neg (by have := high_iff.1 hp; omega)]; rfl
theorem ext_ref (a b c d : Nat) (p : Int) (h : a < 256 ∧ b < 256 ∧ c < 256 ∧ d < 256) (hp : highB p = true) : wharfingerref04_Text.f a b c d p = some (⟨(endU a b c d p.toNat).toArray⟩, true) := by
  rw [wharfingerref04_Text.f, if_pos ⟨byte_nat h.1, byte_nat h.2.1, byte_nat h.2.2.1, byte_nat h.2.2.2⟩, if_pos (by have := high_iff.1 hp; omega)]; rfl
theorem ask_ref (name : ByteArray) (a b c d : Nat) (p : Int) (h : a < 256 ∧ b < 256 ∧ c < 256 ∧ d < 256) (k : Nat) : wharfingerref19_Ask.f (k + 1) name a b c d p = some (askE name a b c d p) := by
  rw [wharfingerref19_Ask.f, askE, high_ref, Option.bind_some]
  have nE : (⟨([69, 80, 82, 84] : List UInt8).toArray⟩ : ByteArray) = EPRT := rfl
  by_cases hp : highB p = true
  · rw [if_pos hp, if_pos hp]
    by_cases hv : name = PORT
    · have hv2 : ¬ name = EPRT := by rw [hv]; decide
      rw [if_pos (lit_iff.2 hv), if_pos hv]
      simp only [wharfingerref19_Ask.j0, Bool.false_eq_true, if_false]
      rw [six_ref a b c d p h hp, Option.bind_some, if_neg (fun h => hv2 (lit_iff.1 h)), hv]
    · rw [if_neg (fun h => hv (lit_iff.1 h)), if_neg hv, bne_lit, nE]
      by_cases hv2 : name = EPRT
      · rw [decide_eq_true hv2, if_pos hv2]
        simp only [wharfingerref19_Ask.j0, Bool.not_true, Bool.false_eq_true, if_false]
        rw [six_ref a b c d p h hp, Option.bind_some, if_pos (lit_iff.2 hv2), ext_ref a b c d p h hp, Option.bind_some, hv2]
      · rw [decide_eq_false hv2, if_neg hv2]
        simp only [wharfingerref19_Ask.j0, Bool.not_false, if_true]
  · rw [if_neg hp, if_neg hp]
    simp only [wharfingerref19_Ask.j0, if_true]
def tellL (o : Option (Int × ByteArray)) : Int × List ByteArray × Bool := match o with
  | some (code, t) => (code, [t], true)
  | none => (0, [], false)
theorem same_ref (code : Int) (l : List ByteArray) (hl : l.length ≤ 1) (k : Nat) : wharfingerref09_Same.f (k + 3) code l code l = some true := by
  rw [wharfingerref09_Same.f, if_pos rfl, show ((l.length : Int) != (l.length : Int)) = false from by simp]
  match l, hl with
  | [], _ =>
    simp only [wharfingerref09_Same.j0, Bool.false_eq_true, if_false, wharfingerref09_Same.l0]
    rfl
  | [s], _ =>
    simp only [wharfingerref09_Same.j0, Bool.false_eq_true, if_false, wharfingerref09_Same.l0]
    rw [if_pos (by simp), if_pos (by decide), if_pos (by simp), if_pos trivial, show wrap64 (0 + 1) = 1 from by unfold wrap64; omega, if_neg (by simp)]
end Go.Proofs.YtdcbkeihgbekdaaGreatDoor.Turn
