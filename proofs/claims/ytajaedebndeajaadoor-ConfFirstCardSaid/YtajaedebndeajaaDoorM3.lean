/- Contracts and plain facts that the law's proof needs. -/
import Derived.Test.YtajaedebndeajaaDoorM2
import Derived.Laws.EntriesVeiled
namespace Go.Proofs.YtajaedebndeajaaDoor.Q
open Go.RowKit Go.Proofs.YtajaedebndeajaaDoor.AclMet Go.Proofs.YtajaedebndeajaaDoorW.PrintWords Go.Proofs.YtajaedebndeajaaDoorW.PrintLast Go.Proofs.YtajaedebndeajaaDoorW.PrintMore
attribute [local go_sem] max2_int min2_int max_two min_two max_three min_three max_four min_four   -- for this text's walks alone
set_option linter.unusedVariables false
set_option linter.unusedSimpArgs false

/-! ### wharfingerref11_May: function 33 -/
def wharfingerref11_May.l0 : Nat → List (S44) → Int → Option (Bool)
 | 0, _, _ => none
 | k + 1, x0, x3 => if x3 < (x0.length : Int) then (if 0 ≤ x3 then ((wharfingerref07_Find.f k ((rd_T44 x0 x3).f1)).bind fun bt192 => ((wharfingerref10_May.f ((rd_T44 x0 x3).f2)).bind fun t199 => (if t199 = true then (if ((rd_T44 x0 x3).f1).toList = ([] : List UInt8) then (wharfingerref11_May.l0 k x0 (wrap64 (x3 + 1))) else (if bt192.2.2.2.2 = true then (if bt192.1.toList = ((rd_T44 x0 x3).f1).toList then (wharfingerref11_May.l0 k x0 (wrap64 (x3 + 1))) else (some false)) else (some false))) else (some false)))) else (none)) else (some true)
def wharfingerref11_May.f (k : Nat) (l0 : List (S44)) : Option (Bool) := if (l0.length : Int) > 8 then (some false) else (wharfingerref11_May.l0 k l0 0)
theorem wharfingerref11_May.mono_l : ∀ k, (∀ y0 y1, LeO (wharfingerref11_May.l0 k y0 y1) (wharfingerref11_May.l0 (k + 1) y0 y1))
 | 0 => fun _ _ r h => by simp [wharfingerref11_May.l0] at h
 | k + 1 => by
  have ih0 := wharfingerref11_May.mono_l k
  ·
   intro y0 y1
   unfold wharfingerref11_May.l0
   repeat' first
   | (with_reducible exact ih0 _ _)
   | (with_reducible exact wharfingerref07_Find.mono _ _)
   | (with_reducible exact LeO.refl _)
   | (with_reducible exact LeO.none _)
   | (with_reducible refine LeO.ite ?_ ?_)
   | (with_reducible refine LeO.bind ?_ (fun _ => ?_))
   | exact ih0 _ _
   | exact wharfingerref07_Find.mono _ _
   | exact LeO.none _
   | refine LeO.ite ?_ ?_
   | refine LeO.bind ?_ (fun _ => ?_)
theorem wharfingerref11_May.mono : ∀ a0 k, LeO (wharfingerref11_May.f k a0) (wharfingerref11_May.f (k + 1) a0) := by
 intro a0 k
 have ih0 := wharfingerref11_May.mono_l k
 unfold wharfingerref11_May.f
 repeat' first
   | (with_reducible exact ih0 _ _)
   | (with_reducible exact wharfingerref07_Find.mono _ _)
   | (with_reducible exact LeO.refl _)
   | (with_reducible exact LeO.none _)
   | (with_reducible refine LeO.ite ?_ ?_)
   | (with_reducible refine LeO.bind ?_ (fun _ => ?_))
   | exact ih0 _ _
   | exact wharfingerref07_Find.mono _ _
   | exact LeO.none _
   | refine LeO.ite ?_ ?_
   | refine LeO.bind ?_ (fun _ => ?_)
set_option maxHeartbeats 8000000 in
set_option maxRecDepth 100000 in
theorem wharfingerref11_May.calls (k : Nat) (A0 : Option Addr) (c0 : Nat) (l0 : List (S44)) (r : Bool) (w : World) (hr0 : Kd.C k44 w A0 l0.length l0) (hc0 : l0.length ≤ c0) (h : wharfingerref11_May.f k l0 = some r) :
  Calls Tryd.prog 33 #[.slice A0 l0.length c0] w fun e w' => e = .returned (.bool r) ∧ Below w.heap.size w w' := by
 have hu88 := Tryd.underlying88
 have HR0 := Aside0.mk hr0
 have HC0 := Aside0.mk hc0
 clear hr0 hc0
 have HB := Aside0.mk (Below.refl w.heap.size w)
 have H : (if (l0.length : Int) > 8 then (some false) else (wharfingerref11_May.l0 k l0 0)) = some r := h
 clear h
 by_cases c2 : (l0.length : Int) > 8
 ·
  rw [if_pos c2] at H
  have c2b0 : decide (8 < (l0.length : Int)) = true := decide_eq_true c2
  have c2b1 : decide (8 < l0.length) = true := decide_eq_true (by omega)
  clear c2
  obtain rfl := Option.some.inj H
  go_enter Tryd.func33, Tryd.ntmps33
  go_wp2
  repeat (go_quiet (fail); try go_wp2)
  go_ret
  exact ⟨by first | rfl | (simp [errW_none, errW_some] <;> rfl) | (simp [*, errW_none, errW_some] <;> rfl), by repeat (first | (with_reducible first | exact HB.out | apply below_alloc | apply pw_below_drewN | apply below_drew1) | exact HB.out)⟩
 ·
  rw [if_neg c2] at H
  have c2b0 : decide (8 < (l0.length : Int)) = false := decide_eq_false c2
  have c2b1 : decide (8 < l0.length) = false := decide_eq_false (by omega)
  clear c2
  have H' := Aside0.mk H
  clear H
  go_enter Tryd.func33, Tryd.ntmps33
  go_wp2
  repeat (go_quiet (fail); try go_wp2)
  go_loopg [3] k (fun kq v3 w' => ∃ (x3_1 : Int), v3 = .int .i64 x3_1 ∧ Aside0 (wharfingerref11_May.l0 kq l0 x3_1 = some r) ∧ Aside0 (kq ≤ k) ∧ Aside0 (Below w.heap.size w w'))
  case atStart => exact ⟨(0), (by first | rfl | (simp; done) | (simp [*]; done)), H', ⟨Nat.le_refl _⟩, ⟨by repeat (first | (with_reducible first | exact HB.out | apply below_alloc | apply pw_below_drewN | apply below_drew1) | exact HB.out)⟩⟩
  case round =>
   clear H'
   try clear c2
   try clear c2b0
   try clear c2b1
   try clear p2
   obtain ⟨x3_1, rfl, HA, HK1, HB⟩ := hrel
   cases gk with
   | zero => exact absurd HA.out (by simp [wharfingerref11_May.l0])
   | succ k1 =>
    have H := HA.out
    clear HA
    simp only [wharfingerref11_May.l0] at H
    by_cases c3 : x3_1 < (l0.length : Int)
    ·
     rw [if_pos c3] at H
     have c3b0 : decide (x3_1 < (l0.length : Int)) = true := decide_eq_true c3
     clear c3
     by_cases c4 : 0 ≤ x3_1
     ·
      rw [if_pos c4] at H
      have c4b0 : decide (0 ≤ x3_1) = true := decide_eq_true c4
      clear c4
      replace H := Option.bind_eq_some_iff.mp H
      obtain ⟨⟨t192, t193, t194, t195, t196⟩, A50, H⟩ := H
      replace H : ((wharfingerref10_May.f ((rd_T44 l0 x3_1).f2)).bind fun t199 => (if t199 = true then (if ((rd_T44 l0 x3_1).f1).toList = ([] : List UInt8) then (wharfingerref11_May.l0 k1 l0 (wrap64 (x3_1 + 1))) else (if t196 = true then (if t192.toList = ((rd_T44 l0 x3_1).f1).toList then (wharfingerref11_May.l0 k1 l0 (wrap64 (x3_1 + 1))) else (some false)) else (some false))) else (some false))) = some r := H
      have A5 := Aside0.mk A50
      clear A50
      replace H := Option.bind_eq_some_iff.mp H
      obtain ⟨t199, A60, H⟩ := H
      replace H : (if t199 = true then (if ((rd_T44 l0 x3_1).f1).toList = ([] : List UInt8) then (wharfingerref11_May.l0 k1 l0 (wrap64 (x3_1 + 1))) else (if t196 = true then (if t192.toList = ((rd_T44 l0 x3_1).f1).toList then (wharfingerref11_May.l0 k1 l0 (wrap64 (x3_1 + 1))) else (some false)) else (some false))) else (some false)) = some r := H
      have A6 := Aside0.mk A60
      clear A60
      by_cases c7 : t199 = true
      ·
       subst c7
       have H1 : (if ((rd_T44 l0 x3_1).f1).toList = ([] : List UInt8) then (wharfingerref11_May.l0 k1 l0 (wrap64 (x3_1 + 1))) else (if t196 = true then (if t192.toList = ((rd_T44 l0 x3_1).f1).toList then (wharfingerref11_May.l0 k1 l0 (wrap64 (x3_1 + 1))) else (some false)) else (some false))) = some r := by rw [if_pos rfl] at H; exact H
       clear H
       have H := H1
       clear H1
       by_cases c8 : ((rd_T44 l0 x3_1).f1).toList = ([] : List UInt8)
       ·
        rw [if_pos c8] at H
        have c8b0 : (((rd_T44 l0 x3_1).f1).toList == ([] : List UInt8)) = true := beq_iff_eq.mpr c8
        have c8b1 : (((rd_T44 l0 x3_1).f1).toList != ([] : List UInt8)) = false := bne_eq_false_iff_eq.mpr c8
        clear c8
        have H' := Aside0.mk H
        clear H
        have p191 : 0 ≤ (x3_1 : Int) := of_decide_eq_true (by first | (with_reducible assumption) | assumption)
        have q191 : x3_1 < (l0.length : Int) := of_decide_eq_true (by first | (with_reducible assumption) | assumption)
        obtain ⟨ad191, e191, hx191_0, hx191_1, hx191_2⟩ := at_T44 HR0.out x3_1 p191 q191
        cases e191
        replace hx191_0 := (HB.out.cell (World.block_lt_of_cell? w _ hx191_0)).trans hx191_0
        replace hx191_1 := (HB.out.cell (World.block_lt_of_cell? w _ hx191_1)).trans hx191_1
        replace hx191_2 := (HB.out.cell (World.block_lt_of_cell? w _ hx191_2)).trans hx191_2
        replace p191 := eq_true p191
        replace q191 := eq_true q191
        go_wp2_with (first | (go_at_call 43; (with_reducible refine (wharfingerref07_Find.calls k1 ((rd_T44 l0 x3_1).f1) t192 t193 t194 t195 t196 _ A5.out).mono ?_); rintro e w9 ⟨rfl, hb⟩; have n0_ := Aside0.mk (below_step (by repeat (first | (with_reducible first | exact HB.out | apply below_alloc | apply pw_below_drewN | apply below_drew1) | exact HB.out)) hb); clear HB; have HB := n0_; clear n0_; (try clear hb); (try clear hb2); (try clear hk); (try clear hi)) | ((with_reducible refine gate_dst (N := 4) rfl ?_); refine box_event ?hg (N := 4) ?hd (cs := #[.string (⟨#[]⟩ : ByteArray), .int .i64 0, .int .i64 0, .bool false]) (t := 88) ?hr ?_; (case hd => rfl); (case hg => rfl); (case hr => first | (go_simp; done) | (go_simp; rfl)); intro gb197 hg w10 hbox hb; have n0_ := Aside0.mk (below_step (by repeat (first | (with_reducible first | exact HB.out | apply below_alloc | apply pw_below_drewN | apply below_drew1) | exact HB.out)) hb); have n1_ := Aside0.mk (hbox); have n2_ := Aside0.mk ((by rw [hg]; exact (below_size (by repeat (first | (with_reducible first | exact HB.out | apply below_alloc | apply pw_below_drewN | apply below_drew1) | exact HB.out))) : w.heap.size ≤ gb197)); have n3_ := Aside0.mk ((by rw [hg]; exact (below_size (by repeat (first | (with_reducible first | exact HB.out | apply below_alloc | apply pw_below_drewN | apply below_drew1) | exact HB.out))) : w.heap.size ≤ gb197)); clear HB; have HB := n0_; have BK197 := n1_; have GW197 := n2_; have GE197 := n3_; clear n0_ n1_ n2_ n3_; clear hb hbox hg; obtain ⟨hcz11_0, hcz11_1, hcz11_2, hcz11_3⟩ := cl_4 (.string (⟨#[]⟩ : ByteArray)) (.int .i64 0) (.int .i64 0) (.bool false) BK197.out; obtain ⟨hfz11_0, hfz11_1, hfz11_2, hfz11_3⟩ := fz_4 BK197.out; have p198 : 0 ≤ (x3_1 : Int) := of_decide_eq_true (by first | (with_reducible assumption) | assumption); have q198 : x3_1 < (l0.length : Int) := of_decide_eq_true (by first | (with_reducible assumption) | assumption); obtain ⟨ad198, e198, hx198_0, hx198_1, hx198_2⟩ := at_T44 HR0.out x3_1 p198 q198; obtain rfl : ad191 = ad198 := (by injection e198); have hn198_0 : ad191.block ≠ gb197 := Nat.ne_of_lt (Nat.lt_of_lt_of_le (by have := World.block_lt_of_cell? _ _ hx198_0; first | rwa [add_block] at this | exact this) GW197.out); have hn198_1 : ad191.block ≠ gb197 := Nat.ne_of_lt (Nat.lt_of_lt_of_le (by have := World.block_lt_of_cell? _ _ hx198_0; first | rwa [add_block] at this | exact this) GW197.out); have hn198_2 : ad191.block ≠ gb197 := Nat.ne_of_lt (Nat.lt_of_lt_of_le (by have := World.block_lt_of_cell? _ _ hx198_0; first | rwa [add_block] at this | exact this) GW197.out); have hn198_3 : ad191.block ≠ gb197 := Nat.ne_of_lt (Nat.lt_of_lt_of_le (by have := World.block_lt_of_cell? _ _ hx198_0; first | rwa [add_block] at this | exact this) GW197.out); replace hx198_0 := (HB.out.cell (World.block_lt_of_cell? w _ hx198_0)).trans hx198_0; replace hx198_1 := (HB.out.cell (World.block_lt_of_cell? w _ hx198_1)).trans hx198_1; replace hx198_2 := (HB.out.cell (World.block_lt_of_cell? w _ hx198_2)).trans hx198_2; replace hx198_0 := (cell_far (p := ⟨gb197, 0, none⟩) (by first | (rw [add_block]; exact hn198_0) | (show (Addr.add _ _).block ≠ _; rw [add_block]; exact hn198_0) | exact hn198_0) (.string t192)).trans hx198_0; replace hx198_1 := (cell_far (p := ⟨gb197, 0, none⟩) (by first | (rw [add_block]; exact hn198_0) | (show (Addr.add _ _).block ≠ _; rw [add_block]; exact hn198_0) | exact hn198_0) (.string t192)).trans hx198_1; replace hx198_2 := (cell_far (p := ⟨gb197, 0, none⟩) (by first | (rw [add_block]; exact hn198_0) | (show (Addr.add _ _).block ≠ _; rw [add_block]; exact hn198_0) | exact hn198_0) (.string t192)).trans hx198_2; replace hx198_0 := (cell_far (p := ⟨gb197, 1, none⟩) (by first | (rw [add_block]; exact hn198_1) | (show (Addr.add _ _).block ≠ _; rw [add_block]; exact hn198_1) | exact hn198_1) (.int .i64 t193)).trans hx198_0; replace hx198_1 := (cell_far (p := ⟨gb197, 1, none⟩) (by first | (rw [add_block]; exact hn198_1) | (show (Addr.add _ _).block ≠ _; rw [add_block]; exact hn198_1) | exact hn198_1) (.int .i64 t193)).trans hx198_1; replace hx198_2 := (cell_far (p := ⟨gb197, 1, none⟩) (by first | (rw [add_block]; exact hn198_1) | (show (Addr.add _ _).block ≠ _; rw [add_block]; exact hn198_1) | exact hn198_1) (.int .i64 t193)).trans hx198_2; replace hx198_0 := (cell_far (p := ⟨gb197, 2, none⟩) (by first | (rw [add_block]; exact hn198_2) | (show (Addr.add _ _).block ≠ _; rw [add_block]; exact hn198_2) | exact hn198_2) (.int .i64 t194)).trans hx198_0; replace hx198_1 := (cell_far (p := ⟨gb197, 2, none⟩) (by first | (rw [add_block]; exact hn198_2) | (show (Addr.add _ _).block ≠ _; rw [add_block]; exact hn198_2) | exact hn198_2) (.int .i64 t194)).trans hx198_1; replace hx198_2 := (cell_far (p := ⟨gb197, 2, none⟩) (by first | (rw [add_block]; exact hn198_2) | (show (Addr.add _ _).block ≠ _; rw [add_block]; exact hn198_2) | exact hn198_2) (.int .i64 t194)).trans hx198_2; replace hx198_0 := (cell_far (p := ⟨gb197, 3, none⟩) (by first | (rw [add_block]; exact hn198_3) | (show (Addr.add _ _).block ≠ _; rw [add_block]; exact hn198_3) | exact hn198_3) (.bool t195)).trans hx198_0; replace hx198_1 := (cell_far (p := ⟨gb197, 3, none⟩) (by first | (rw [add_block]; exact hn198_3) | (show (Addr.add _ _).block ≠ _; rw [add_block]; exact hn198_3) | exact hn198_3) (.bool t195)).trans hx198_1; replace hx198_2 := (cell_far (p := ⟨gb197, 3, none⟩) (by first | (rw [add_block]; exact hn198_3) | (show (Addr.add _ _).block ≠ _; rw [add_block]; exact hn198_3) | exact hn198_3) (.bool t195)).trans hx198_2; (try have hy198_0 := fun (n_ : Nat) => (show ((((((w10.drewN n_).setCell ⟨gb197, 0, none⟩ (.string t192)).setCell ⟨gb197, 1, none⟩ (.int .i64 t193)).setCell ⟨gb197, 2, none⟩ (.int .i64 t194)).setCell ⟨gb197, 3, none⟩ (.bool t195))).cell? _ = some _ from hx198_0)); (try have hy198_1 := fun (n_ : Nat) => (show ((((((w10.drewN n_).setCell ⟨gb197, 0, none⟩ (.string t192)).setCell ⟨gb197, 1, none⟩ (.int .i64 t193)).setCell ⟨gb197, 2, none⟩ (.int .i64 t194)).setCell ⟨gb197, 3, none⟩ (.bool t195))).cell? _ = some _ from hx198_1)); (try have hy198_2 := fun (n_ : Nat) => (show ((((((w10.drewN n_).setCell ⟨gb197, 0, none⟩ (.string t192)).setCell ⟨gb197, 1, none⟩ (.int .i64 t193)).setCell ⟨gb197, 2, none⟩ (.int .i64 t194)).setCell ⟨gb197, 3, none⟩ (.bool t195))).cell? _ = some _ from hx198_2)); clear hn198_0; clear hn198_1; clear hn198_2; clear hn198_3; replace p198 := eq_true p198; replace q198 := eq_true q198) | (go_at_call 44; (with_reducible refine (wharfingerref10_May.calls ((rd_T44 l0 x3_1).f2) true _ A6.out).mono ?_); rintro e w12 ⟨rfl, hb⟩; have n0_ := Aside0.mk (blk_below (g := gb197) (o := .cells #[.string t192, .int .i64 t193, .int .i64 t194, .bool t195] 88 (0, 0)) (by (with_reducible repeat (first | refine blk_drewN ?_ _ | refine blk_drew ?_ | refine blk_alloc ?_ _)); refine blk_put (cs := #[.string t192, .int .i64 t193, .int .i64 t194, .bool false]) ?_ 3 _ rfl; (with_reducible repeat (first | refine blk_drewN ?_ _ | refine blk_drew ?_ | refine blk_alloc ?_ _)); refine blk_put (cs := #[.string t192, .int .i64 t193, .int .i64 0, .bool false]) ?_ 2 _ rfl; (with_reducible repeat (first | refine blk_drewN ?_ _ | refine blk_drew ?_ | refine blk_alloc ?_ _)); refine blk_put (cs := #[.string t192, .int .i64 0, .int .i64 0, .bool false]) ?_ 1 _ rfl; (with_reducible repeat (first | refine blk_drewN ?_ _ | refine blk_drew ?_ | refine blk_alloc ?_ _)); refine blk_put (cs := #[.string (⟨#[]⟩ : ByteArray), .int .i64 0, .int .i64 0, .bool false]) ?_ 0 _ rfl; (with_reducible repeat (first | refine blk_drewN ?_ _ | refine blk_drew ?_ | refine blk_alloc ?_ _)); exact BK197.out) hb); have n1_ := Aside0.mk (below_step (by repeat (first | (with_reducible first | exact HB.out | apply below_alloc | apply pw_below_drewN | apply below_drew1 | refine below_set ?_ GE197.out) | exact HB.out)) hb); clear BK197; clear HB; have BK197 := n0_; have HB := n1_; clear n0_ n1_; (try clear hb); (try clear hb2); (try clear hk); (try clear hi); have p200 : 0 ≤ (x3_1 : Int) := of_decide_eq_true (by first | (with_reducible assumption) | assumption); have q200 : x3_1 < (l0.length : Int) := of_decide_eq_true (by first | (with_reducible assumption) | assumption); obtain ⟨ad200, e200, hx200_0, hx200_1, hx200_2⟩ := at_T44 HR0.out x3_1 p200 q200; obtain rfl : ad191 = ad200 := (by injection e200); replace hx200_0 := (HB.out.cell (World.block_lt_of_cell? w _ hx200_0)).trans hx200_0; replace hx200_1 := (HB.out.cell (World.block_lt_of_cell? w _ hx200_1)).trans hx200_1; replace hx200_2 := (HB.out.cell (World.block_lt_of_cell? w _ hx200_2)).trans hx200_2; replace p200 := eq_true p200; replace q200 := eq_true q200))
        repeat (go_quiet (first | (go_at_call 43; (with_reducible refine (wharfingerref07_Find.calls k1 ((rd_T44 l0 x3_1).f1) t192 t193 t194 t195 t196 _ A5.out).mono ?_); rintro e w9 ⟨rfl, hb⟩; have n0_ := Aside0.mk (below_step (by repeat (first | (with_reducible first | exact HB.out | apply below_alloc | apply pw_below_drewN | apply below_drew1) | exact HB.out)) hb); clear HB; have HB := n0_; clear n0_; (try clear hb); (try clear hb2); (try clear hk); (try clear hi)) | ((with_reducible refine gate_dst (N := 4) rfl ?_); refine box_event ?hg (N := 4) ?hd (cs := #[.string (⟨#[]⟩ : ByteArray), .int .i64 0, .int .i64 0, .bool false]) (t := 88) ?hr ?_; (case hd => rfl); (case hg => rfl); (case hr => first | (go_simp; done) | (go_simp; rfl)); intro gb197 hg w10 hbox hb; have n0_ := Aside0.mk (below_step (by repeat (first | (with_reducible first | exact HB.out | apply below_alloc | apply pw_below_drewN | apply below_drew1) | exact HB.out)) hb); have n1_ := Aside0.mk (hbox); have n2_ := Aside0.mk ((by rw [hg]; exact (below_size (by repeat (first | (with_reducible first | exact HB.out | apply below_alloc | apply pw_below_drewN | apply below_drew1) | exact HB.out))) : w.heap.size ≤ gb197)); have n3_ := Aside0.mk ((by rw [hg]; exact (below_size (by repeat (first | (with_reducible first | exact HB.out | apply below_alloc | apply pw_below_drewN | apply below_drew1) | exact HB.out))) : w.heap.size ≤ gb197)); clear HB; have HB := n0_; have BK197 := n1_; have GW197 := n2_; have GE197 := n3_; clear n0_ n1_ n2_ n3_; clear hb hbox hg; obtain ⟨hcz11_0, hcz11_1, hcz11_2, hcz11_3⟩ := cl_4 (.string (⟨#[]⟩ : ByteArray)) (.int .i64 0) (.int .i64 0) (.bool false) BK197.out; obtain ⟨hfz11_0, hfz11_1, hfz11_2, hfz11_3⟩ := fz_4 BK197.out; have p198 : 0 ≤ (x3_1 : Int) := of_decide_eq_true (by first | (with_reducible assumption) | assumption); have q198 : x3_1 < (l0.length : Int) := of_decide_eq_true (by first | (with_reducible assumption) | assumption); obtain ⟨ad198, e198, hx198_0, hx198_1, hx198_2⟩ := at_T44 HR0.out x3_1 p198 q198; obtain rfl : ad191 = ad198 := (by injection e198); have hn198_0 : ad191.block ≠ gb197 := Nat.ne_of_lt (Nat.lt_of_lt_of_le (by have := World.block_lt_of_cell? _ _ hx198_0; first | rwa [add_block] at this | exact this) GW197.out); have hn198_1 : ad191.block ≠ gb197 := Nat.ne_of_lt (Nat.lt_of_lt_of_le (by have := World.block_lt_of_cell? _ _ hx198_0; first | rwa [add_block] at this | exact this) GW197.out); have hn198_2 : ad191.block ≠ gb197 := Nat.ne_of_lt (Nat.lt_of_lt_of_le (by have := World.block_lt_of_cell? _ _ hx198_0; first | rwa [add_block] at this | exact this) GW197.out); have hn198_3 : ad191.block ≠ gb197 := Nat.ne_of_lt (Nat.lt_of_lt_of_le (by have := World.block_lt_of_cell? _ _ hx198_0; first | rwa [add_block] at this | exact this) GW197.out); replace hx198_0 := (HB.out.cell (World.block_lt_of_cell? w _ hx198_0)).trans hx198_0; replace hx198_1 := (HB.out.cell (World.block_lt_of_cell? w _ hx198_1)).trans hx198_1; replace hx198_2 := (HB.out.cell (World.block_lt_of_cell? w _ hx198_2)).trans hx198_2; replace hx198_0 := (cell_far (p := ⟨gb197, 0, none⟩) (by first | (rw [add_block]; exact hn198_0) | (show (Addr.add _ _).block ≠ _; rw [add_block]; exact hn198_0) | exact hn198_0) (.string t192)).trans hx198_0; replace hx198_1 := (cell_far (p := ⟨gb197, 0, none⟩) (by first | (rw [add_block]; exact hn198_0) | (show (Addr.add _ _).block ≠ _; rw [add_block]; exact hn198_0) | exact hn198_0) (.string t192)).trans hx198_1; replace hx198_2 := (cell_far (p := ⟨gb197, 0, none⟩) (by first | (rw [add_block]; exact hn198_0) | (show (Addr.add _ _).block ≠ _; rw [add_block]; exact hn198_0) | exact hn198_0) (.string t192)).trans hx198_2; replace hx198_0 := (cell_far (p := ⟨gb197, 1, none⟩) (by first | (rw [add_block]; exact hn198_1) | (show (Addr.add _ _).block ≠ _; rw [add_block]; exact hn198_1) | exact hn198_1) (.int .i64 t193)).trans hx198_0; replace hx198_1 := (cell_far (p := ⟨gb197, 1, none⟩) (by first | (rw [add_block]; exact hn198_1) | (show (Addr.add _ _).block ≠ _; rw [add_block]; exact hn198_1) | exact hn198_1) (.int .i64 t193)).trans hx198_1; replace hx198_2 := (cell_far (p := ⟨gb197, 1, none⟩) (by first | (rw [add_block]; exact hn198_1) | (show (Addr.add _ _).block ≠ _; rw [add_block]; exact hn198_1) | exact hn198_1) (.int .i64 t193)).trans hx198_2; replace hx198_0 := (cell_far (p := ⟨gb197, 2, none⟩) (by first | (rw [add_block]; exact hn198_2) | (show (Addr.add _ _).block ≠ _; rw [add_block]; exact hn198_2) | exact hn198_2) (.int .i64 t194)).trans hx198_0; replace hx198_1 := (cell_far (p := ⟨gb197, 2, none⟩) (by first | (rw [add_block]; exact hn198_2) | (show (Addr.add _ _).block ≠ _; rw [add_block]; exact hn198_2) | exact hn198_2) (.int .i64 t194)).trans hx198_1; replace hx198_2 := (cell_far (p := ⟨gb197, 2, none⟩) (by first | (rw [add_block]; exact hn198_2) | (show (Addr.add _ _).block ≠ _; rw [add_block]; exact hn198_2) | exact hn198_2) (.int .i64 t194)).trans hx198_2; replace hx198_0 := (cell_far (p := ⟨gb197, 3, none⟩) (by first | (rw [add_block]; exact hn198_3) | (show (Addr.add _ _).block ≠ _; rw [add_block]; exact hn198_3) | exact hn198_3) (.bool t195)).trans hx198_0; replace hx198_1 := (cell_far (p := ⟨gb197, 3, none⟩) (by first | (rw [add_block]; exact hn198_3) | (show (Addr.add _ _).block ≠ _; rw [add_block]; exact hn198_3) | exact hn198_3) (.bool t195)).trans hx198_1; replace hx198_2 := (cell_far (p := ⟨gb197, 3, none⟩) (by first | (rw [add_block]; exact hn198_3) | (show (Addr.add _ _).block ≠ _; rw [add_block]; exact hn198_3) | exact hn198_3) (.bool t195)).trans hx198_2; (try have hy198_0 := fun (n_ : Nat) => (show ((((((w10.drewN n_).setCell ⟨gb197, 0, none⟩ (.string t192)).setCell ⟨gb197, 1, none⟩ (.int .i64 t193)).setCell ⟨gb197, 2, none⟩ (.int .i64 t194)).setCell ⟨gb197, 3, none⟩ (.bool t195))).cell? _ = some _ from hx198_0)); (try have hy198_1 := fun (n_ : Nat) => (show ((((((w10.drewN n_).setCell ⟨gb197, 0, none⟩ (.string t192)).setCell ⟨gb197, 1, none⟩ (.int .i64 t193)).setCell ⟨gb197, 2, none⟩ (.int .i64 t194)).setCell ⟨gb197, 3, none⟩ (.bool t195))).cell? _ = some _ from hx198_1)); (try have hy198_2 := fun (n_ : Nat) => (show ((((((w10.drewN n_).setCell ⟨gb197, 0, none⟩ (.string t192)).setCell ⟨gb197, 1, none⟩ (.int .i64 t193)).setCell ⟨gb197, 2, none⟩ (.int .i64 t194)).setCell ⟨gb197, 3, none⟩ (.bool t195))).cell? _ = some _ from hx198_2)); clear hn198_0; clear hn198_1; clear hn198_2; clear hn198_3; replace p198 := eq_true p198; replace q198 := eq_true q198) | (go_at_call 44; (with_reducible refine (wharfingerref10_May.calls ((rd_T44 l0 x3_1).f2) true _ A6.out).mono ?_); rintro e w12 ⟨rfl, hb⟩; have n0_ := Aside0.mk (blk_below (g := gb197) (o := .cells #[.string t192, .int .i64 t193, .int .i64 t194, .bool t195] 88 (0, 0)) (by (with_reducible repeat (first | refine blk_drewN ?_ _ | refine blk_drew ?_ | refine blk_alloc ?_ _)); refine blk_put (cs := #[.string t192, .int .i64 t193, .int .i64 t194, .bool false]) ?_ 3 _ rfl; (with_reducible repeat (first | refine blk_drewN ?_ _ | refine blk_drew ?_ | refine blk_alloc ?_ _)); refine blk_put (cs := #[.string t192, .int .i64 t193, .int .i64 0, .bool false]) ?_ 2 _ rfl; (with_reducible repeat (first | refine blk_drewN ?_ _ | refine blk_drew ?_ | refine blk_alloc ?_ _)); refine blk_put (cs := #[.string t192, .int .i64 0, .int .i64 0, .bool false]) ?_ 1 _ rfl; (with_reducible repeat (first | refine blk_drewN ?_ _ | refine blk_drew ?_ | refine blk_alloc ?_ _)); refine blk_put (cs := #[.string (⟨#[]⟩ : ByteArray), .int .i64 0, .int .i64 0, .bool false]) ?_ 0 _ rfl; (with_reducible repeat (first | refine blk_drewN ?_ _ | refine blk_drew ?_ | refine blk_alloc ?_ _)); exact BK197.out) hb); have n1_ := Aside0.mk (below_step (by repeat (first | (with_reducible first | exact HB.out | apply below_alloc | apply pw_below_drewN | apply below_drew1 | refine below_set ?_ GE197.out) | exact HB.out)) hb); clear BK197; clear HB; have BK197 := n0_; have HB := n1_; clear n0_ n1_; (try clear hb); (try clear hb2); (try clear hk); (try clear hi); have p200 : 0 ≤ (x3_1 : Int) := of_decide_eq_true (by first | (with_reducible assumption) | assumption); have q200 : x3_1 < (l0.length : Int) := of_decide_eq_true (by first | (with_reducible assumption) | assumption); obtain ⟨ad200, e200, hx200_0, hx200_1, hx200_2⟩ := at_T44 HR0.out x3_1 p200 q200; obtain rfl : ad191 = ad200 := (by injection e200); replace hx200_0 := (HB.out.cell (World.block_lt_of_cell? w _ hx200_0)).trans hx200_0; replace hx200_1 := (HB.out.cell (World.block_lt_of_cell? w _ hx200_1)).trans hx200_1; replace hx200_2 := (HB.out.cell (World.block_lt_of_cell? w _ hx200_2)).trans hx200_2; replace p200 := eq_true p200; replace q200 := eq_true q200)); try go_wp2_with (first | (go_at_call 43; (with_reducible refine (wharfingerref07_Find.calls k1 ((rd_T44 l0 x3_1).f1) t192 t193 t194 t195 t196 _ A5.out).mono ?_); rintro e w9 ⟨rfl, hb⟩; have n0_ := Aside0.mk (below_step (by repeat (first | (with_reducible first | exact HB.out | apply below_alloc | apply pw_below_drewN | apply below_drew1) | exact HB.out)) hb); clear HB; have HB := n0_; clear n0_; (try clear hb); (try clear hb2); (try clear hk); (try clear hi)) | ((with_reducible refine gate_dst (N := 4) rfl ?_); refine box_event ?hg (N := 4) ?hd (cs := #[.string (⟨#[]⟩ : ByteArray), .int .i64 0, .int .i64 0, .bool false]) (t := 88) ?hr ?_; (case hd => rfl); (case hg => rfl); (case hr => first | (go_simp; done) | (go_simp; rfl)); intro gb197 hg w10 hbox hb; have n0_ := Aside0.mk (below_step (by repeat (first | (with_reducible first | exact HB.out | apply below_alloc | apply pw_below_drewN | apply below_drew1) | exact HB.out)) hb); have n1_ := Aside0.mk (hbox); have n2_ := Aside0.mk ((by rw [hg]; exact (below_size (by repeat (first | (with_reducible first | exact HB.out | apply below_alloc | apply pw_below_drewN | apply below_drew1) | exact HB.out))) : w.heap.size ≤ gb197)); have n3_ := Aside0.mk ((by rw [hg]; exact (below_size (by repeat (first | (with_reducible first | exact HB.out | apply below_alloc | apply pw_below_drewN | apply below_drew1) | exact HB.out))) : w.heap.size ≤ gb197)); clear HB; have HB := n0_; have BK197 := n1_; have GW197 := n2_; have GE197 := n3_; clear n0_ n1_ n2_ n3_; clear hb hbox hg; obtain ⟨hcz11_0, hcz11_1, hcz11_2, hcz11_3⟩ := cl_4 (.string (⟨#[]⟩ : ByteArray)) (.int .i64 0) (.int .i64 0) (.bool false) BK197.out; obtain ⟨hfz11_0, hfz11_1, hfz11_2, hfz11_3⟩ := fz_4 BK197.out; have p198 : 0 ≤ (x3_1 : Int) := of_decide_eq_true (by first | (with_reducible assumption) | assumption); have q198 : x3_1 < (l0.length : Int) := of_decide_eq_true (by first | (with_reducible assumption) | assumption); obtain ⟨ad198, e198, hx198_0, hx198_1, hx198_2⟩ := at_T44 HR0.out x3_1 p198 q198; obtain rfl : ad191 = ad198 := (by injection e198); have hn198_0 : ad191.block ≠ gb197 := Nat.ne_of_lt (Nat.lt_of_lt_of_le (by have := World.block_lt_of_cell? _ _ hx198_0; first | rwa [add_block] at this | exact this) GW197.out); have hn198_1 : ad191.block ≠ gb197 := Nat.ne_of_lt (Nat.lt_of_lt_of_le (by have := World.block_lt_of_cell? _ _ hx198_0; first | rwa [add_block] at this | exact this) GW197.out); have hn198_2 : ad191.block ≠ gb197 := Nat.ne_of_lt (Nat.lt_of_lt_of_le (by have := World.block_lt_of_cell? _ _ hx198_0; first | rwa [add_block] at this | exact this) GW197.out); have hn198_3 : ad191.block ≠ gb197 := Nat.ne_of_lt (Nat.lt_of_lt_of_le (by have := World.block_lt_of_cell? _ _ hx198_0; first | rwa [add_block] at this | exact this) GW197.out); replace hx198_0 := (HB.out.cell (World.block_lt_of_cell? w _ hx198_0)).trans hx198_0; replace hx198_1 := (HB.out.cell (World.block_lt_of_cell? w _ hx198_1)).trans hx198_1; replace hx198_2 := (HB.out.cell (World.block_lt_of_cell? w _ hx198_2)).trans hx198_2; replace hx198_0 := (cell_far (p := ⟨gb197, 0, none⟩) (by first | (rw [add_block]; exact hn198_0) | (show (Addr.add _ _).block ≠ _; rw [add_block]; exact hn198_0) | exact hn198_0) (.string t192)).trans hx198_0; replace hx198_1 := (cell_far (p := ⟨gb197, 0, none⟩) (by first | (rw [add_block]; exact hn198_0) | (show (Addr.add _ _).block ≠ _; rw [add_block]; exact hn198_0) | exact hn198_0) (.string t192)).trans hx198_1; replace hx198_2 := (cell_far (p := ⟨gb197, 0, none⟩) (by first | (rw [add_block]; exact hn198_0) | (show (Addr.add _ _).block ≠ _; rw [add_block]; exact hn198_0) | exact hn198_0) (.string t192)).trans hx198_2; replace hx198_0 := (cell_far (p := ⟨gb197, 1, none⟩) (by first | (rw [add_block]; exact hn198_1) | (show (Addr.add _ _).block ≠ _; rw [add_block]; exact hn198_1) | exact hn198_1) (.int .i64 t193)).trans hx198_0; replace hx198_1 := (cell_far (p := ⟨gb197, 1, none⟩) (by first | (rw [add_block]; exact hn198_1) | (show (Addr.add _ _).block ≠ _; rw [add_block]; exact hn198_1) | exact hn198_1) (.int .i64 t193)).trans hx198_1; replace hx198_2 := (cell_far (p := ⟨gb197, 1, none⟩) (by first | (rw [add_block]; exact hn198_1) | (show (Addr.add _ _).block ≠ _; rw [add_block]; exact hn198_1) | exact hn198_1) (.int .i64 t193)).trans hx198_2; replace hx198_0 := (cell_far (p := ⟨gb197, 2, none⟩) (by first | (rw [add_block]; exact hn198_2) | (show (Addr.add _ _).block ≠ _; rw [add_block]; exact hn198_2) | exact hn198_2) (.int .i64 t194)).trans hx198_0; replace hx198_1 := (cell_far (p := ⟨gb197, 2, none⟩) (by first | (rw [add_block]; exact hn198_2) | (show (Addr.add _ _).block ≠ _; rw [add_block]; exact hn198_2) | exact hn198_2) (.int .i64 t194)).trans hx198_1; replace hx198_2 := (cell_far (p := ⟨gb197, 2, none⟩) (by first | (rw [add_block]; exact hn198_2) | (show (Addr.add _ _).block ≠ _; rw [add_block]; exact hn198_2) | exact hn198_2) (.int .i64 t194)).trans hx198_2; replace hx198_0 := (cell_far (p := ⟨gb197, 3, none⟩) (by first | (rw [add_block]; exact hn198_3) | (show (Addr.add _ _).block ≠ _; rw [add_block]; exact hn198_3) | exact hn198_3) (.bool t195)).trans hx198_0; replace hx198_1 := (cell_far (p := ⟨gb197, 3, none⟩) (by first | (rw [add_block]; exact hn198_3) | (show (Addr.add _ _).block ≠ _; rw [add_block]; exact hn198_3) | exact hn198_3) (.bool t195)).trans hx198_1; replace hx198_2 := (cell_far (p := ⟨gb197, 3, none⟩) (by first | (rw [add_block]; exact hn198_3) | (show (Addr.add _ _).block ≠ _; rw [add_block]; exact hn198_3) | exact hn198_3) (.bool t195)).trans hx198_2; (try have hy198_0 := fun (n_ : Nat) => (show ((((((w10.drewN n_).setCell ⟨gb197, 0, none⟩ (.string t192)).setCell ⟨gb197, 1, none⟩ (.int .i64 t193)).setCell ⟨gb197, 2, none⟩ (.int .i64 t194)).setCell ⟨gb197, 3, none⟩ (.bool t195))).cell? _ = some _ from hx198_0)); (try have hy198_1 := fun (n_ : Nat) => (show ((((((w10.drewN n_).setCell ⟨gb197, 0, none⟩ (.string t192)).setCell ⟨gb197, 1, none⟩ (.int .i64 t193)).setCell ⟨gb197, 2, none⟩ (.int .i64 t194)).setCell ⟨gb197, 3, none⟩ (.bool t195))).cell? _ = some _ from hx198_1)); (try have hy198_2 := fun (n_ : Nat) => (show ((((((w10.drewN n_).setCell ⟨gb197, 0, none⟩ (.string t192)).setCell ⟨gb197, 1, none⟩ (.int .i64 t193)).setCell ⟨gb197, 2, none⟩ (.int .i64 t194)).setCell ⟨gb197, 3, none⟩ (.bool t195))).cell? _ = some _ from hx198_2)); clear hn198_0; clear hn198_1; clear hn198_2; clear hn198_3; replace p198 := eq_true p198; replace q198 := eq_true q198) | (go_at_call 44; (with_reducible refine (wharfingerref10_May.calls ((rd_T44 l0 x3_1).f2) true _ A6.out).mono ?_); rintro e w12 ⟨rfl, hb⟩; have n0_ := Aside0.mk (blk_below (g := gb197) (o := .cells #[.string t192, .int .i64 t193, .int .i64 t194, .bool t195] 88 (0, 0)) (by (with_reducible repeat (first | refine blk_drewN ?_ _ | refine blk_drew ?_ | refine blk_alloc ?_ _)); refine blk_put (cs := #[.string t192, .int .i64 t193, .int .i64 t194, .bool false]) ?_ 3 _ rfl; (with_reducible repeat (first | refine blk_drewN ?_ _ | refine blk_drew ?_ | refine blk_alloc ?_ _)); refine blk_put (cs := #[.string t192, .int .i64 t193, .int .i64 0, .bool false]) ?_ 2 _ rfl; (with_reducible repeat (first | refine blk_drewN ?_ _ | refine blk_drew ?_ | refine blk_alloc ?_ _)); refine blk_put (cs := #[.string t192, .int .i64 0, .int .i64 0, .bool false]) ?_ 1 _ rfl; (with_reducible repeat (first | refine blk_drewN ?_ _ | refine blk_drew ?_ | refine blk_alloc ?_ _)); refine blk_put (cs := #[.string (⟨#[]⟩ : ByteArray), .int .i64 0, .int .i64 0, .bool false]) ?_ 0 _ rfl; (with_reducible repeat (first | refine blk_drewN ?_ _ | refine blk_drew ?_ | refine blk_alloc ?_ _)); exact BK197.out) hb); have n1_ := Aside0.mk (below_step (by repeat (first | (with_reducible first | exact HB.out | apply below_alloc | apply pw_below_drewN | apply below_drew1 | refine below_set ?_ GE197.out) | exact HB.out)) hb); clear BK197; clear HB; have BK197 := n0_; have HB := n1_; clear n0_ n1_; (try clear hb); (try clear hb2); (try clear hk); (try clear hi); have p200 : 0 ≤ (x3_1 : Int) := of_decide_eq_true (by first | (with_reducible assumption) | assumption); have q200 : x3_1 < (l0.length : Int) := of_decide_eq_true (by first | (with_reducible assumption) | assumption); obtain ⟨ad200, e200, hx200_0, hx200_1, hx200_2⟩ := at_T44 HR0.out x3_1 p200 q200; obtain rfl : ad191 = ad200 := (by injection e200); replace hx200_0 := (HB.out.cell (World.block_lt_of_cell? w _ hx200_0)).trans hx200_0; replace hx200_1 := (HB.out.cell (World.block_lt_of_cell? w _ hx200_1)).trans hx200_1; replace hx200_2 := (HB.out.cell (World.block_lt_of_cell? w _ hx200_2)).trans hx200_2; replace p200 := eq_true p200; replace q200 := eq_true q200)))
        go_roundg k1
        case measure => have := HK1.out; omega
        case rel => exact ⟨(wrap64 (x3_1 + 1)), (by first | rfl | (simp; done) | (simp [*]; done)), H', ⟨by have := HK1.out; omega⟩, ⟨by repeat (first | (with_reducible first | exact HB.out | apply below_alloc | apply pw_below_drewN | apply below_drew1 | refine below_set ?_ GE197.out) | exact HB.out)⟩⟩
       ·
        rw [if_neg c8] at H
        have c8b0 : (((rd_T44 l0 x3_1).f1).toList == ([] : List UInt8)) = false := beq_eq_false_iff_ne.mpr c8
        have c8b1 : (((rd_T44 l0 x3_1).f1).toList != ([] : List UInt8)) = true := bne_iff_ne.mpr c8
        by_cases c13 : t196 = true
        ·
         subst c13
         have H1 : (if t192.toList = ((rd_T44 l0 x3_1).f1).toList then (wharfingerref11_May.l0 k1 l0 (wrap64 (x3_1 + 1))) else (some false)) = some r := by rw [if_pos rfl] at H; exact H
         clear H
         have H := H1
         clear H1
         by_cases c14 : t192.toList = ((rd_T44 l0 x3_1).f1).toList
         ·
          rw [if_pos c14] at H
          have c14b0 : (t192.toList == ((rd_T44 l0 x3_1).f1).toList) = true := beq_iff_eq.mpr c14
          have c14b1 : (t192.toList != ((rd_T44 l0 x3_1).f1).toList) = false := bne_eq_false_iff_eq.mpr c14
          clear c14
          have H' := Aside0.mk H
          clear H
          have p191 : 0 ≤ (x3_1 : Int) := of_decide_eq_true (by first | (with_reducible assumption) | assumption)
          have q191 : x3_1 < (l0.length : Int) := of_decide_eq_true (by first | (with_reducible assumption) | assumption)
          obtain ⟨ad191, e191, hx191_0, hx191_1, hx191_2⟩ := at_T44 HR0.out x3_1 p191 q191
          cases e191
          replace hx191_0 := (HB.out.cell (World.block_lt_of_cell? w _ hx191_0)).trans hx191_0
          replace hx191_1 := (HB.out.cell (World.block_lt_of_cell? w _ hx191_1)).trans hx191_1
          replace hx191_2 := (HB.out.cell (World.block_lt_of_cell? w _ hx191_2)).trans hx191_2
          replace p191 := eq_true p191
          replace q191 := eq_true q191
          go_wp2_with (first | (go_at_call 43; (with_reducible refine (wharfingerref07_Find.calls k1 ((rd_T44 l0 x3_1).f1) t192 t193 t194 t195 true _ A5.out).mono ?_); rintro e w15 ⟨rfl, hb⟩; have n0_ := Aside0.mk (below_step (by repeat (first | (with_reducible first | exact HB.out | apply below_alloc | apply pw_below_drewN | apply below_drew1) | exact HB.out)) hb); clear HB; have HB := n0_; clear n0_; (try clear hb); (try clear hb2); (try clear hk); (try clear hi)) | ((with_reducible refine gate_dst (N := 4) rfl ?_); refine box_event ?hg (N := 4) ?hd (cs := #[.string (⟨#[]⟩ : ByteArray), .int .i64 0, .int .i64 0, .bool false]) (t := 88) ?hr ?_; (case hd => rfl); (case hg => rfl); (case hr => first | (go_simp; done) | (go_simp; rfl)); intro gb197 hg w16 hbox hb; have n0_ := Aside0.mk (below_step (by repeat (first | (with_reducible first | exact HB.out | apply below_alloc | apply pw_below_drewN | apply below_drew1) | exact HB.out)) hb); have n1_ := Aside0.mk (hbox); have n2_ := Aside0.mk ((by rw [hg]; exact (below_size (by repeat (first | (with_reducible first | exact HB.out | apply below_alloc | apply pw_below_drewN | apply below_drew1) | exact HB.out))) : w.heap.size ≤ gb197)); have n3_ := Aside0.mk ((by rw [hg]; exact (below_size (by repeat (first | (with_reducible first | exact HB.out | apply below_alloc | apply pw_below_drewN | apply below_drew1) | exact HB.out))) : w.heap.size ≤ gb197)); clear HB; have HB := n0_; have BK197 := n1_; have GW197 := n2_; have GE197 := n3_; clear n0_ n1_ n2_ n3_; clear hb hbox hg; obtain ⟨hcz17_0, hcz17_1, hcz17_2, hcz17_3⟩ := cl_4 (.string (⟨#[]⟩ : ByteArray)) (.int .i64 0) (.int .i64 0) (.bool false) BK197.out; obtain ⟨hfz17_0, hfz17_1, hfz17_2, hfz17_3⟩ := fz_4 BK197.out; have p198 : 0 ≤ (x3_1 : Int) := of_decide_eq_true (by first | (with_reducible assumption) | assumption); have q198 : x3_1 < (l0.length : Int) := of_decide_eq_true (by first | (with_reducible assumption) | assumption); obtain ⟨ad198, e198, hx198_0, hx198_1, hx198_2⟩ := at_T44 HR0.out x3_1 p198 q198; obtain rfl : ad191 = ad198 := (by injection e198); have hn198_0 : ad191.block ≠ gb197 := Nat.ne_of_lt (Nat.lt_of_lt_of_le (by have := World.block_lt_of_cell? _ _ hx198_0; first | rwa [add_block] at this | exact this) GW197.out); have hn198_1 : ad191.block ≠ gb197 := Nat.ne_of_lt (Nat.lt_of_lt_of_le (by have := World.block_lt_of_cell? _ _ hx198_0; first | rwa [add_block] at this | exact this) GW197.out); have hn198_2 : ad191.block ≠ gb197 := Nat.ne_of_lt (Nat.lt_of_lt_of_le (by have := World.block_lt_of_cell? _ _ hx198_0; first | rwa [add_block] at this | exact this) GW197.out); have hn198_3 : ad191.block ≠ gb197 := Nat.ne_of_lt (Nat.lt_of_lt_of_le (by have := World.block_lt_of_cell? _ _ hx198_0; first | rwa [add_block] at this | exact this) GW197.out); replace hx198_0 := (HB.out.cell (World.block_lt_of_cell? w _ hx198_0)).trans hx198_0; replace hx198_1 := (HB.out.cell (World.block_lt_of_cell? w _ hx198_1)).trans hx198_1; replace hx198_2 := (HB.out.cell (World.block_lt_of_cell? w _ hx198_2)).trans hx198_2; replace hx198_0 := (cell_far (p := ⟨gb197, 0, none⟩) (by first | (rw [add_block]; exact hn198_0) | (show (Addr.add _ _).block ≠ _; rw [add_block]; exact hn198_0) | exact hn198_0) (.string t192)).trans hx198_0; replace hx198_1 := (cell_far (p := ⟨gb197, 0, none⟩) (by first | (rw [add_block]; exact hn198_0) | (show (Addr.add _ _).block ≠ _; rw [add_block]; exact hn198_0) | exact hn198_0) (.string t192)).trans hx198_1; replace hx198_2 := (cell_far (p := ⟨gb197, 0, none⟩) (by first | (rw [add_block]; exact hn198_0) | (show (Addr.add _ _).block ≠ _; rw [add_block]; exact hn198_0) | exact hn198_0) (.string t192)).trans hx198_2; replace hx198_0 := (cell_far (p := ⟨gb197, 1, none⟩) (by first | (rw [add_block]; exact hn198_1) | (show (Addr.add _ _).block ≠ _; rw [add_block]; exact hn198_1) | exact hn198_1) (.int .i64 t193)).trans hx198_0; replace hx198_1 := (cell_far (p := ⟨gb197, 1, none⟩) (by first | (rw [add_block]; exact hn198_1) | (show (Addr.add _ _).block ≠ _; rw [add_block]; exact hn198_1) | exact hn198_1) (.int .i64 t193)).trans hx198_1; replace hx198_2 := (cell_far (p := ⟨gb197, 1, none⟩) (by first | (rw [add_block]; exact hn198_1) | (show (Addr.add _ _).block ≠ _; rw [add_block]; exact hn198_1) | exact hn198_1) (.int .i64 t193)).trans hx198_2; replace hx198_0 := (cell_far (p := ⟨gb197, 2, none⟩) (by first | (rw [add_block]; exact hn198_2) | (show (Addr.add _ _).block ≠ _; rw [add_block]; exact hn198_2) | exact hn198_2) (.int .i64 t194)).trans hx198_0; replace hx198_1 := (cell_far (p := ⟨gb197, 2, none⟩) (by first | (rw [add_block]; exact hn198_2) | (show (Addr.add _ _).block ≠ _; rw [add_block]; exact hn198_2) | exact hn198_2) (.int .i64 t194)).trans hx198_1; replace hx198_2 := (cell_far (p := ⟨gb197, 2, none⟩) (by first | (rw [add_block]; exact hn198_2) | (show (Addr.add _ _).block ≠ _; rw [add_block]; exact hn198_2) | exact hn198_2) (.int .i64 t194)).trans hx198_2; replace hx198_0 := (cell_far (p := ⟨gb197, 3, none⟩) (by first | (rw [add_block]; exact hn198_3) | (show (Addr.add _ _).block ≠ _; rw [add_block]; exact hn198_3) | exact hn198_3) (.bool t195)).trans hx198_0; replace hx198_1 := (cell_far (p := ⟨gb197, 3, none⟩) (by first | (rw [add_block]; exact hn198_3) | (show (Addr.add _ _).block ≠ _; rw [add_block]; exact hn198_3) | exact hn198_3) (.bool t195)).trans hx198_1; replace hx198_2 := (cell_far (p := ⟨gb197, 3, none⟩) (by first | (rw [add_block]; exact hn198_3) | (show (Addr.add _ _).block ≠ _; rw [add_block]; exact hn198_3) | exact hn198_3) (.bool t195)).trans hx198_2; (try have hy198_0 := fun (n_ : Nat) => (show ((((((w16.drewN n_).setCell ⟨gb197, 0, none⟩ (.string t192)).setCell ⟨gb197, 1, none⟩ (.int .i64 t193)).setCell ⟨gb197, 2, none⟩ (.int .i64 t194)).setCell ⟨gb197, 3, none⟩ (.bool t195))).cell? _ = some _ from hx198_0)); (try have hy198_1 := fun (n_ : Nat) => (show ((((((w16.drewN n_).setCell ⟨gb197, 0, none⟩ (.string t192)).setCell ⟨gb197, 1, none⟩ (.int .i64 t193)).setCell ⟨gb197, 2, none⟩ (.int .i64 t194)).setCell ⟨gb197, 3, none⟩ (.bool t195))).cell? _ = some _ from hx198_1)); (try have hy198_2 := fun (n_ : Nat) => (show ((((((w16.drewN n_).setCell ⟨gb197, 0, none⟩ (.string t192)).setCell ⟨gb197, 1, none⟩ (.int .i64 t193)).setCell ⟨gb197, 2, none⟩ (.int .i64 t194)).setCell ⟨gb197, 3, none⟩ (.bool t195))).cell? _ = some _ from hx198_2)); clear hn198_0; clear hn198_1; clear hn198_2; clear hn198_3; replace p198 := eq_true p198; replace q198 := eq_true q198) | (go_at_call 44; (with_reducible refine (wharfingerref10_May.calls ((rd_T44 l0 x3_1).f2) true _ A6.out).mono ?_); rintro e w18 ⟨rfl, hb⟩; have n0_ := Aside0.mk (blk_below (g := gb197) (o := .cells #[.string t192, .int .i64 t193, .int .i64 t194, .bool t195] 88 (0, 0)) (by (with_reducible repeat (first | refine blk_drewN ?_ _ | refine blk_drew ?_ | refine blk_alloc ?_ _)); refine blk_put (cs := #[.string t192, .int .i64 t193, .int .i64 t194, .bool false]) ?_ 3 _ rfl; (with_reducible repeat (first | refine blk_drewN ?_ _ | refine blk_drew ?_ | refine blk_alloc ?_ _)); refine blk_put (cs := #[.string t192, .int .i64 t193, .int .i64 0, .bool false]) ?_ 2 _ rfl; (with_reducible repeat (first | refine blk_drewN ?_ _ | refine blk_drew ?_ | refine blk_alloc ?_ _)); refine blk_put (cs := #[.string t192, .int .i64 0, .int .i64 0, .bool false]) ?_ 1 _ rfl; (with_reducible repeat (first | refine blk_drewN ?_ _ | refine blk_drew ?_ | refine blk_alloc ?_ _)); refine blk_put (cs := #[.string (⟨#[]⟩ : ByteArray), .int .i64 0, .int .i64 0, .bool false]) ?_ 0 _ rfl; (with_reducible repeat (first | refine blk_drewN ?_ _ | refine blk_drew ?_ | refine blk_alloc ?_ _)); exact BK197.out) hb); have n1_ := Aside0.mk (below_step (by repeat (first | (with_reducible first | exact HB.out | apply below_alloc | apply pw_below_drewN | apply below_drew1 | refine below_set ?_ GE197.out) | exact HB.out)) hb); clear BK197; clear HB; have BK197 := n0_; have HB := n1_; clear n0_ n1_; (try clear hb); (try clear hb2); (try clear hk); (try clear hi); have p200 : 0 ≤ (x3_1 : Int) := of_decide_eq_true (by first | (with_reducible assumption) | assumption); have q200 : x3_1 < (l0.length : Int) := of_decide_eq_true (by first | (with_reducible assumption) | assumption); obtain ⟨ad200, e200, hx200_0, hx200_1, hx200_2⟩ := at_T44 HR0.out x3_1 p200 q200; obtain rfl : ad191 = ad200 := (by injection e200); replace hx200_0 := (HB.out.cell (World.block_lt_of_cell? w _ hx200_0)).trans hx200_0; replace hx200_1 := (HB.out.cell (World.block_lt_of_cell? w _ hx200_1)).trans hx200_1; replace hx200_2 := (HB.out.cell (World.block_lt_of_cell? w _ hx200_2)).trans hx200_2; replace p200 := eq_true p200; replace q200 := eq_true q200; obtain ⟨hcz19_0, hcz19_1, hcz19_2, hcz19_3⟩ := cl_4 (.string t192) (.int .i64 t193) (.int .i64 t194) (.bool t195) BK197.out; obtain ⟨hfz19_0, hfz19_1, hfz19_2, hfz19_3⟩ := fz_4 BK197.out; have p201 : 0 ≤ (x3_1 : Int) := of_decide_eq_true (by first | (with_reducible assumption) | assumption); have q201 : x3_1 < (l0.length : Int) := of_decide_eq_true (by first | (with_reducible assumption) | assumption); obtain ⟨ad201, e201, hx201_0, hx201_1, hx201_2⟩ := at_T44 HR0.out x3_1 p201 q201; obtain rfl : ad191 = ad201 := (by injection e201); replace hx201_0 := (HB.out.cell (World.block_lt_of_cell? w _ hx201_0)).trans hx201_0; replace hx201_1 := (HB.out.cell (World.block_lt_of_cell? w _ hx201_1)).trans hx201_1; replace hx201_2 := (HB.out.cell (World.block_lt_of_cell? w _ hx201_2)).trans hx201_2; replace p201 := eq_true p201; replace q201 := eq_true q201))
          repeat (go_quiet (first | (go_at_call 43; (with_reducible refine (wharfingerref07_Find.calls k1 ((rd_T44 l0 x3_1).f1) t192 t193 t194 t195 true _ A5.out).mono ?_); rintro e w15 ⟨rfl, hb⟩; have n0_ := Aside0.mk (below_step (by repeat (first | (with_reducible first | exact HB.out | apply below_alloc | apply pw_below_drewN | apply below_drew1) | exact HB.out)) hb); clear HB; have HB := n0_; clear n0_; (try clear hb); (try clear hb2); (try clear hk); (try clear hi)) | ((with_reducible refine gate_dst (N := 4) rfl ?_); refine box_event ?hg (N := 4) ?hd (cs := #[.string (⟨#[]⟩ : ByteArray), .int .i64 0, .int .i64 0, .bool false]) (t := 88) ?hr ?_; (case hd => rfl); (case hg => rfl); (case hr => first | (go_simp; done) | (go_simp; rfl)); intro gb197 hg w16 hbox hb; have n0_ := Aside0.mk (below_step (by repeat (first | (with_reducible first | exact HB.out | apply below_alloc | apply pw_below_drewN | apply below_drew1) | exact HB.out)) hb); have n1_ := Aside0.mk (hbox); have n2_ := Aside0.mk ((by rw [hg]; exact (below_size (by repeat (first | (with_reducible first | exact HB.out | apply below_alloc | apply pw_below_drewN | apply below_drew1) | exact HB.out))) : w.heap.size ≤ gb197)); have n3_ := Aside0.mk ((by rw [hg]; exact (below_size (by repeat (first | (with_reducible first | exact HB.out | apply below_alloc | apply pw_below_drewN | apply below_drew1) | exact HB.out))) : w.heap.size ≤ gb197)); clear HB; have HB := n0_; have BK197 := n1_; have GW197 := n2_; have GE197 := n3_; clear n0_ n1_ n2_ n3_; clear hb hbox hg; obtain ⟨hcz17_0, hcz17_1, hcz17_2, hcz17_3⟩ := cl_4 (.string (⟨#[]⟩ : ByteArray)) (.int .i64 0) (.int .i64 0) (.bool false) BK197.out; obtain ⟨hfz17_0, hfz17_1, hfz17_2, hfz17_3⟩ := fz_4 BK197.out; have p198 : 0 ≤ (x3_1 : Int) := of_decide_eq_true (by first | (with_reducible assumption) | assumption); have q198 : x3_1 < (l0.length : Int) := of_decide_eq_true (by first | (with_reducible assumption) | assumption); obtain ⟨ad198, e198, hx198_0, hx198_1, hx198_2⟩ := at_T44 HR0.out x3_1 p198 q198; obtain rfl : ad191 = ad198 := (by injection e198); have hn198_0 : ad191.block ≠ gb197 := Nat.ne_of_lt (Nat.lt_of_lt_of_le (by have := World.block_lt_of_cell? _ _ hx198_0; first | rwa [add_block] at this | exact this) GW197.out); have hn198_1 : ad191.block ≠ gb197 := Nat.ne_of_lt (Nat.lt_of_lt_of_le (by have := World.block_lt_of_cell? _ _ hx198_0; first | rwa [add_block] at this | exact this) GW197.out); have hn198_2 : ad191.block ≠ gb197 := Nat.ne_of_lt (Nat.lt_of_lt_of_le (by have := World.block_lt_of_cell? _ _ hx198_0; first | rwa [add_block] at this | exact this) GW197.out); have hn198_3 : ad191.block ≠ gb197 := Nat.ne_of_lt (Nat.lt_of_lt_of_le (by have := World.block_lt_of_cell? _ _ hx198_0; first | rwa [add_block] at this | exact this) GW197.out); replace hx198_0 := (HB.out.cell (World.block_lt_of_cell? w _ hx198_0)).trans hx198_0; replace hx198_1 := (HB.out.cell (World.block_lt_of_cell? w _ hx198_1)).trans hx198_1; replace hx198_2 := (HB.out.cell (World.block_lt_of_cell? w _ hx198_2)).trans hx198_2; replace hx198_0 := (cell_far (p := ⟨gb197, 0, none⟩) (by first | (rw [add_block]; exact hn198_0) | (show (Addr.add _ _).block ≠ _; rw [add_block]; exact hn198_0) | exact hn198_0) (.string t192)).trans hx198_0; replace hx198_1 := (cell_far (p := ⟨gb197, 0, none⟩) (by first | (rw [add_block]; exact hn198_0) | (show (Addr.add _ _).block ≠ _; rw [add_block]; exact hn198_0) | exact hn198_0) (.string t192)).trans hx198_1; replace hx198_2 := (cell_far (p := ⟨gb197, 0, none⟩) (by first | (rw [add_block]; exact hn198_0) | (show (Addr.add _ _).block ≠ _; rw [add_block]; exact hn198_0) | exact hn198_0) (.string t192)).trans hx198_2; replace hx198_0 := (cell_far (p := ⟨gb197, 1, none⟩) (by first | (rw [add_block]; exact hn198_1) | (show (Addr.add _ _).block ≠ _; rw [add_block]; exact hn198_1) | exact hn198_1) (.int .i64 t193)).trans hx198_0; replace hx198_1 := (cell_far (p := ⟨gb197, 1, none⟩) (by first | (rw [add_block]; exact hn198_1) | (show (Addr.add _ _).block ≠ _; rw [add_block]; exact hn198_1) | exact hn198_1) (.int .i64 t193)).trans hx198_1; replace hx198_2 := (cell_far (p := ⟨gb197, 1, none⟩) (by first | (rw [add_block]; exact hn198_1) | (show (Addr.add _ _).block ≠ _; rw [add_block]; exact hn198_1) | exact hn198_1) (.int .i64 t193)).trans hx198_2; replace hx198_0 := (cell_far (p := ⟨gb197, 2, none⟩) (by first | (rw [add_block]; exact hn198_2) | (show (Addr.add _ _).block ≠ _; rw [add_block]; exact hn198_2) | exact hn198_2) (.int .i64 t194)).trans hx198_0; replace hx198_1 := (cell_far (p := ⟨gb197, 2, none⟩) (by first | (rw [add_block]; exact hn198_2) | (show (Addr.add _ _).block ≠ _; rw [add_block]; exact hn198_2) | exact hn198_2) (.int .i64 t194)).trans hx198_1; replace hx198_2 := (cell_far (p := ⟨gb197, 2, none⟩) (by first | (rw [add_block]; exact hn198_2) | (show (Addr.add _ _).block ≠ _; rw [add_block]; exact hn198_2) | exact hn198_2) (.int .i64 t194)).trans hx198_2; replace hx198_0 := (cell_far (p := ⟨gb197, 3, none⟩) (by first | (rw [add_block]; exact hn198_3) | (show (Addr.add _ _).block ≠ _; rw [add_block]; exact hn198_3) | exact hn198_3) (.bool t195)).trans hx198_0; replace hx198_1 := (cell_far (p := ⟨gb197, 3, none⟩) (by first | (rw [add_block]; exact hn198_3) | (show (Addr.add _ _).block ≠ _; rw [add_block]; exact hn198_3) | exact hn198_3) (.bool t195)).trans hx198_1; replace hx198_2 := (cell_far (p := ⟨gb197, 3, none⟩) (by first | (rw [add_block]; exact hn198_3) | (show (Addr.add _ _).block ≠ _; rw [add_block]; exact hn198_3) | exact hn198_3) (.bool t195)).trans hx198_2; (try have hy198_0 := fun (n_ : Nat) => (show ((((((w16.drewN n_).setCell ⟨gb197, 0, none⟩ (.string t192)).setCell ⟨gb197, 1, none⟩ (.int .i64 t193)).setCell ⟨gb197, 2, none⟩ (.int .i64 t194)).setCell ⟨gb197, 3, none⟩ (.bool t195))).cell? _ = some _ from hx198_0)); (try have hy198_1 := fun (n_ : Nat) => (show ((((((w16.drewN n_).setCell ⟨gb197, 0, none⟩ (.string t192)).setCell ⟨gb197, 1, none⟩ (.int .i64 t193)).setCell ⟨gb197, 2, none⟩ (.int .i64 t194)).setCell ⟨gb197, 3, none⟩ (.bool t195))).cell? _ = some _ from hx198_1)); (try have hy198_2 := fun (n_ : Nat) => (show ((((((w16.drewN n_).setCell ⟨gb197, 0, none⟩ (.string t192)).setCell ⟨gb197, 1, none⟩ (.int .i64 t193)).setCell ⟨gb197, 2, none⟩ (.int .i64 t194)).setCell ⟨gb197, 3, none⟩ (.bool t195))).cell? _ = some _ from hx198_2)); clear hn198_0; clear hn198_1; clear hn198_2; clear hn198_3; replace p198 := eq_true p198; replace q198 := eq_true q198) | (go_at_call 44; (with_reducible refine (wharfingerref10_May.calls ((rd_T44 l0 x3_1).f2) true _ A6.out).mono ?_); rintro e w18 ⟨rfl, hb⟩; have n0_ := Aside0.mk (blk_below (g := gb197) (o := .cells #[.string t192, .int .i64 t193, .int .i64 t194, .bool t195] 88 (0, 0)) (by (with_reducible repeat (first | refine blk_drewN ?_ _ | refine blk_drew ?_ | refine blk_alloc ?_ _)); refine blk_put (cs := #[.string t192, .int .i64 t193, .int .i64 t194, .bool false]) ?_ 3 _ rfl; (with_reducible repeat (first | refine blk_drewN ?_ _ | refine blk_drew ?_ | refine blk_alloc ?_ _)); refine blk_put (cs := #[.string t192, .int .i64 t193, .int .i64 0, .bool false]) ?_ 2 _ rfl; (with_reducible repeat (first | refine blk_drewN ?_ _ | refine blk_drew ?_ | refine blk_alloc ?_ _)); refine blk_put (cs := #[.string t192, .int .i64 0, .int .i64 0, .bool false]) ?_ 1 _ rfl; (with_reducible repeat (first | refine blk_drewN ?_ _ | refine blk_drew ?_ | refine blk_alloc ?_ _)); refine blk_put (cs := #[.string (⟨#[]⟩ : ByteArray), .int .i64 0, .int .i64 0, .bool false]) ?_ 0 _ rfl; (with_reducible repeat (first | refine blk_drewN ?_ _ | refine blk_drew ?_ | refine blk_alloc ?_ _)); exact BK197.out) hb); have n1_ := Aside0.mk (below_step (by repeat (first | (with_reducible first | exact HB.out | apply below_alloc | apply pw_below_drewN | apply below_drew1 | refine below_set ?_ GE197.out) | exact HB.out)) hb); clear BK197; clear HB; have BK197 := n0_; have HB := n1_; clear n0_ n1_; (try clear hb); (try clear hb2); (try clear hk); (try clear hi); have p200 : 0 ≤ (x3_1 : Int) := of_decide_eq_true (by first | (with_reducible assumption) | assumption); have q200 : x3_1 < (l0.length : Int) := of_decide_eq_true (by first | (with_reducible assumption) | assumption); obtain ⟨ad200, e200, hx200_0, hx200_1, hx200_2⟩ := at_T44 HR0.out x3_1 p200 q200; obtain rfl : ad191 = ad200 := (by injection e200); replace hx200_0 := (HB.out.cell (World.block_lt_of_cell? w _ hx200_0)).trans hx200_0; replace hx200_1 := (HB.out.cell (World.block_lt_of_cell? w _ hx200_1)).trans hx200_1; replace hx200_2 := (HB.out.cell (World.block_lt_of_cell? w _ hx200_2)).trans hx200_2; replace p200 := eq_true p200; replace q200 := eq_true q200; obtain ⟨hcz19_0, hcz19_1, hcz19_2, hcz19_3⟩ := cl_4 (.string t192) (.int .i64 t193) (.int .i64 t194) (.bool t195) BK197.out; obtain ⟨hfz19_0, hfz19_1, hfz19_2, hfz19_3⟩ := fz_4 BK197.out; have p201 : 0 ≤ (x3_1 : Int) := of_decide_eq_true (by first | (with_reducible assumption) | assumption); have q201 : x3_1 < (l0.length : Int) := of_decide_eq_true (by first | (with_reducible assumption) | assumption); obtain ⟨ad201, e201, hx201_0, hx201_1, hx201_2⟩ := at_T44 HR0.out x3_1 p201 q201; obtain rfl : ad191 = ad201 := (by injection e201); replace hx201_0 := (HB.out.cell (World.block_lt_of_cell? w _ hx201_0)).trans hx201_0; replace hx201_1 := (HB.out.cell (World.block_lt_of_cell? w _ hx201_1)).trans hx201_1; replace hx201_2 := (HB.out.cell (World.block_lt_of_cell? w _ hx201_2)).trans hx201_2; replace p201 := eq_true p201; replace q201 := eq_true q201)); try go_wp2_with (first | (go_at_call 43; (with_reducible refine (wharfingerref07_Find.calls k1 ((rd_T44 l0 x3_1).f1) t192 t193 t194 t195 true _ A5.out).mono ?_); rintro e w15 ⟨rfl, hb⟩; have n0_ := Aside0.mk (below_step (by repeat (first | (with_reducible first | exact HB.out | apply below_alloc | apply pw_below_drewN | apply below_drew1) | exact HB.out)) hb); clear HB; have HB := n0_; clear n0_; (try clear hb); (try clear hb2); (try clear hk); (try clear hi)) | ((with_reducible refine gate_dst (N := 4) rfl ?_); refine box_event ?hg (N := 4) ?hd (cs := #[.string (⟨#[]⟩ : ByteArray), .int .i64 0, .int .i64 0, .bool false]) (t := 88) ?hr ?_; (case hd => rfl); (case hg => rfl); (case hr => first | (go_simp; done) | (go_simp; rfl)); intro gb197 hg w16 hbox hb; have n0_ := Aside0.mk (below_step (by repeat (first | (with_reducible first | exact HB.out | apply below_alloc | apply pw_below_drewN | apply below_drew1) | exact HB.out)) hb); have n1_ := Aside0.mk (hbox); have n2_ := Aside0.mk ((by rw [hg]; exact (below_size (by repeat (first | (with_reducible first | exact HB.out | apply below_alloc | apply pw_below_drewN | apply below_drew1) | exact HB.out))) : w.heap.size ≤ gb197)); have n3_ := Aside0.mk ((by rw [hg]; exact (below_size (by repeat (first | (with_reducible first | exact HB.out | apply below_alloc | apply pw_below_drewN | apply below_drew1) | exact HB.out))) : w.heap.size ≤ gb197)); clear HB; have HB := n0_; have BK197 := n1_; have GW197 := n2_; have GE197 := n3_; clear n0_ n1_ n2_ n3_; clear hb hbox hg; obtain ⟨hcz17_0, hcz17_1, hcz17_2, hcz17_3⟩ := cl_4 (.string (⟨#[]⟩ : ByteArray)) (.int .i64 0) (.int .i64 0) (.bool false) BK197.out; obtain ⟨hfz17_0, hfz17_1, hfz17_2, hfz17_3⟩ := fz_4 BK197.out; have p198 : 0 ≤ (x3_1 : Int) := of_decide_eq_true (by first | (with_reducible assumption) | assumption); have q198 : x3_1 < (l0.length : Int) := of_decide_eq_true (by first | (with_reducible assumption) | assumption); obtain ⟨ad198, e198, hx198_0, hx198_1, hx198_2⟩ := at_T44 HR0.out x3_1 p198 q198; obtain rfl : ad191 = ad198 := (by injection e198); have hn198_0 : ad191.block ≠ gb197 := Nat.ne_of_lt (Nat.lt_of_lt_of_le (by have := World.block_lt_of_cell? _ _ hx198_0; first | rwa [add_block] at this | exact this) GW197.out); have hn198_1 : ad191.block ≠ gb197 := Nat.ne_of_lt (Nat.lt_of_lt_of_le (by have := World.block_lt_of_cell? _ _ hx198_0; first | rwa [add_block] at this | exact this) GW197.out); have hn198_2 : ad191.block ≠ gb197 := Nat.ne_of_lt (Nat.lt_of_lt_of_le (by have := World.block_lt_of_cell? _ _ hx198_0; first | rwa [add_block] at this | exact this) GW197.out); have hn198_3 : ad191.block ≠ gb197 := Nat.ne_of_lt (Nat.lt_of_lt_of_le (by have := World.block_lt_of_cell? _ _ hx198_0; first | rwa [add_block] at this | exact this) GW197.out); replace hx198_0 := (HB.out.cell (World.block_lt_of_cell? w _ hx198_0)).trans hx198_0; replace hx198_1 := (HB.out.cell (World.block_lt_of_cell? w _ hx198_1)).trans hx198_1; replace hx198_2 := (HB.out.cell (World.block_lt_of_cell? w _ hx198_2)).trans hx198_2; replace hx198_0 := (cell_far (p := ⟨gb197, 0, none⟩) (by first | (rw [add_block]; exact hn198_0) | (show (Addr.add _ _).block ≠ _; rw [add_block]; exact hn198_0) | exact hn198_0) (.string t192)).trans hx198_0; replace hx198_1 := (cell_far (p := ⟨gb197, 0, none⟩) (by first | (rw [add_block]; exact hn198_0) | (show (Addr.add _ _).block ≠ _; rw [add_block]; exact hn198_0) | exact hn198_0) (.string t192)).trans hx198_1; replace hx198_2 := (cell_far (p := ⟨gb197, 0, none⟩) (by first | (rw [add_block]; exact hn198_0) | (show (Addr.add _ _).block ≠ _; rw [add_block]; exact hn198_0) | exact hn198_0) (.string t192)).trans hx198_2; replace hx198_0 := (cell_far (p := ⟨gb197, 1, none⟩) (by first | (rw [add_block]; exact hn198_1) | (show (Addr.add _ _).block ≠ _; rw [add_block]; exact hn198_1) | exact hn198_1) (.int .i64 t193)).trans hx198_0; replace hx198_1 := (cell_far (p := ⟨gb197, 1, none⟩) (by first | (rw [add_block]; exact hn198_1) | (show (Addr.add _ _).block ≠ _; rw [add_block]; exact hn198_1) | exact hn198_1) (.int .i64 t193)).trans hx198_1; replace hx198_2 := (cell_far (p := ⟨gb197, 1, none⟩) (by first | (rw [add_block]; exact hn198_1) | (show (Addr.add _ _).block ≠ _; rw [add_block]; exact hn198_1) | exact hn198_1) (.int .i64 t193)).trans hx198_2; replace hx198_0 := (cell_far (p := ⟨gb197, 2, none⟩) (by first | (rw [add_block]; exact hn198_2) | (show (Addr.add _ _).block ≠ _; rw [add_block]; exact hn198_2) | exact hn198_2) (.int .i64 t194)).trans hx198_0; replace hx198_1 := (cell_far (p := ⟨gb197, 2, none⟩) (by first | (rw [add_block]; exact hn198_2) | (show (Addr.add _ _).block ≠ _; rw [add_block]; exact hn198_2) | exact hn198_2) (.int .i64 t194)).trans hx198_1; replace hx198_2 := (cell_far (p := ⟨gb197, 2, none⟩) (by first | (rw [add_block]; exact hn198_2) | (show (Addr.add _ _).block ≠ _; rw [add_block]; exact hn198_2) | exact hn198_2) (.int .i64 t194)).trans hx198_2; replace hx198_0 := (cell_far (p := ⟨gb197, 3, none⟩) (by first | (rw [add_block]; exact hn198_3) | (show (Addr.add _ _).block ≠ _; rw [add_block]; exact hn198_3) | exact hn198_3) (.bool t195)).trans hx198_0; replace hx198_1 := (cell_far (p := ⟨gb197, 3, none⟩) (by first | (rw [add_block]; exact hn198_3) | (show (Addr.add _ _).block ≠ _; rw [add_block]; exact hn198_3) | exact hn198_3) (.bool t195)).trans hx198_1; replace hx198_2 := (cell_far (p := ⟨gb197, 3, none⟩) (by first | (rw [add_block]; exact hn198_3) | (show (Addr.add _ _).block ≠ _; rw [add_block]; exact hn198_3) | exact hn198_3) (.bool t195)).trans hx198_2; (try have hy198_0 := fun (n_ : Nat) => (show ((((((w16.drewN n_).setCell ⟨gb197, 0, none⟩ (.string t192)).setCell ⟨gb197, 1, none⟩ (.int .i64 t193)).setCell ⟨gb197, 2, none⟩ (.int .i64 t194)).setCell ⟨gb197, 3, none⟩ (.bool t195))).cell? _ = some _ from hx198_0)); (try have hy198_1 := fun (n_ : Nat) => (show ((((((w16.drewN n_).setCell ⟨gb197, 0, none⟩ (.string t192)).setCell ⟨gb197, 1, none⟩ (.int .i64 t193)).setCell ⟨gb197, 2, none⟩ (.int .i64 t194)).setCell ⟨gb197, 3, none⟩ (.bool t195))).cell? _ = some _ from hx198_1)); (try have hy198_2 := fun (n_ : Nat) => (show ((((((w16.drewN n_).setCell ⟨gb197, 0, none⟩ (.string t192)).setCell ⟨gb197, 1, none⟩ (.int .i64 t193)).setCell ⟨gb197, 2, none⟩ (.int .i64 t194)).setCell ⟨gb197, 3, none⟩ (.bool t195))).cell? _ = some _ from hx198_2)); clear hn198_0; clear hn198_1; clear hn198_2; clear hn198_3; replace p198 := eq_true p198; replace q198 := eq_true q198) | (go_at_call 44; (with_reducible refine (wharfingerref10_May.calls ((rd_T44 l0 x3_1).f2) true _ A6.out).mono ?_); rintro e w18 ⟨rfl, hb⟩; have n0_ := Aside0.mk (blk_below (g := gb197) (o := .cells #[.string t192, .int .i64 t193, .int .i64 t194, .bool t195] 88 (0, 0)) (by (with_reducible repeat (first | refine blk_drewN ?_ _ | refine blk_drew ?_ | refine blk_alloc ?_ _)); refine blk_put (cs := #[.string t192, .int .i64 t193, .int .i64 t194, .bool false]) ?_ 3 _ rfl; (with_reducible repeat (first | refine blk_drewN ?_ _ | refine blk_drew ?_ | refine blk_alloc ?_ _)); refine blk_put (cs := #[.string t192, .int .i64 t193, .int .i64 0, .bool false]) ?_ 2 _ rfl; (with_reducible repeat (first | refine blk_drewN ?_ _ | refine blk_drew ?_ | refine blk_alloc ?_ _)); refine blk_put (cs := #[.string t192, .int .i64 0, .int .i64 0, .bool false]) ?_ 1 _ rfl; (with_reducible repeat (first | refine blk_drewN ?_ _ | refine blk_drew ?_ | refine blk_alloc ?_ _)); refine blk_put (cs := #[.string (⟨#[]⟩ : ByteArray), .int .i64 0, .int .i64 0, .bool false]) ?_ 0 _ rfl; (with_reducible repeat (first | refine blk_drewN ?_ _ | refine blk_drew ?_ | refine blk_alloc ?_ _)); exact BK197.out) hb); have n1_ := Aside0.mk (below_step (by repeat (first | (with_reducible first | exact HB.out | apply below_alloc | apply pw_below_drewN | apply below_drew1 | refine below_set ?_ GE197.out) | exact HB.out)) hb); clear BK197; clear HB; have BK197 := n0_; have HB := n1_; clear n0_ n1_; (try clear hb); (try clear hb2); (try clear hk); (try clear hi); have p200 : 0 ≤ (x3_1 : Int) := of_decide_eq_true (by first | (with_reducible assumption) | assumption); have q200 : x3_1 < (l0.length : Int) := of_decide_eq_true (by first | (with_reducible assumption) | assumption); obtain ⟨ad200, e200, hx200_0, hx200_1, hx200_2⟩ := at_T44 HR0.out x3_1 p200 q200; obtain rfl : ad191 = ad200 := (by injection e200); replace hx200_0 := (HB.out.cell (World.block_lt_of_cell? w _ hx200_0)).trans hx200_0; replace hx200_1 := (HB.out.cell (World.block_lt_of_cell? w _ hx200_1)).trans hx200_1; replace hx200_2 := (HB.out.cell (World.block_lt_of_cell? w _ hx200_2)).trans hx200_2; replace p200 := eq_true p200; replace q200 := eq_true q200; obtain ⟨hcz19_0, hcz19_1, hcz19_2, hcz19_3⟩ := cl_4 (.string t192) (.int .i64 t193) (.int .i64 t194) (.bool t195) BK197.out; obtain ⟨hfz19_0, hfz19_1, hfz19_2, hfz19_3⟩ := fz_4 BK197.out; have p201 : 0 ≤ (x3_1 : Int) := of_decide_eq_true (by first | (with_reducible assumption) | assumption); have q201 : x3_1 < (l0.length : Int) := of_decide_eq_true (by first | (with_reducible assumption) | assumption); obtain ⟨ad201, e201, hx201_0, hx201_1, hx201_2⟩ := at_T44 HR0.out x3_1 p201 q201; obtain rfl : ad191 = ad201 := (by injection e201); replace hx201_0 := (HB.out.cell (World.block_lt_of_cell? w _ hx201_0)).trans hx201_0; replace hx201_1 := (HB.out.cell (World.block_lt_of_cell? w _ hx201_1)).trans hx201_1; replace hx201_2 := (HB.out.cell (World.block_lt_of_cell? w _ hx201_2)).trans hx201_2; replace p201 := eq_true p201; replace q201 := eq_true q201)))
          go_roundg k1
          case measure => have := HK1.out; omega
          case rel => exact ⟨(wrap64 (x3_1 + 1)), (by first | rfl | (simp; done) | (simp [*]; done)), H', ⟨by have := HK1.out; omega⟩, ⟨by repeat (first | (with_reducible first | exact HB.out | apply below_alloc | apply pw_below_drewN | apply below_drew1 | refine below_set ?_ GE197.out) | exact HB.out)⟩⟩
         ·
          rw [if_neg c14] at H
          have c14b0 : (t192.toList == ((rd_T44 l0 x3_1).f1).toList) = false := beq_eq_false_iff_ne.mpr c14
          have c14b1 : (t192.toList != ((rd_T44 l0 x3_1).f1).toList) = true := bne_iff_ne.mpr c14
          obtain rfl := Option.some.inj H
          have p191 : 0 ≤ (x3_1 : Int) := of_decide_eq_true (by first | (with_reducible assumption) | assumption)
          have q191 : x3_1 < (l0.length : Int) := of_decide_eq_true (by first | (with_reducible assumption) | assumption)
          obtain ⟨ad191, e191, hx191_0, hx191_1, hx191_2⟩ := at_T44 HR0.out x3_1 p191 q191
          cases e191
          replace hx191_0 := (HB.out.cell (World.block_lt_of_cell? w _ hx191_0)).trans hx191_0
          replace hx191_1 := (HB.out.cell (World.block_lt_of_cell? w _ hx191_1)).trans hx191_1
          replace hx191_2 := (HB.out.cell (World.block_lt_of_cell? w _ hx191_2)).trans hx191_2
          replace p191 := eq_true p191
          replace q191 := eq_true q191
          go_wp2_with (first | (go_at_call 43; (with_reducible refine (wharfingerref07_Find.calls k1 ((rd_T44 l0 x3_1).f1) t192 t193 t194 t195 true _ A5.out).mono ?_); rintro e w20 ⟨rfl, hb⟩; have n0_ := Aside0.mk (below_step (by repeat (first | (with_reducible first | exact HB.out | apply below_alloc | apply pw_below_drewN | apply below_drew1) | exact HB.out)) hb); clear HB; have HB := n0_; clear n0_; (try clear hb); (try clear hb2); (try clear hk); (try clear hi)) | ((with_reducible refine gate_dst (N := 4) rfl ?_); refine box_event ?hg (N := 4) ?hd (cs := #[.string (⟨#[]⟩ : ByteArray), .int .i64 0, .int .i64 0, .bool false]) (t := 88) ?hr ?_; (case hd => rfl); (case hg => rfl); (case hr => first | (go_simp; done) | (go_simp; rfl)); intro gb197 hg w21 hbox hb; have n0_ := Aside0.mk (below_step (by repeat (first | (with_reducible first | exact HB.out | apply below_alloc | apply pw_below_drewN | apply below_drew1) | exact HB.out)) hb); have n1_ := Aside0.mk (hbox); have n2_ := Aside0.mk ((by rw [hg]; exact (below_size (by repeat (first | (with_reducible first | exact HB.out | apply below_alloc | apply pw_below_drewN | apply below_drew1) | exact HB.out))) : w.heap.size ≤ gb197)); have n3_ := Aside0.mk ((by rw [hg]; exact (below_size (by repeat (first | (with_reducible first | exact HB.out | apply below_alloc | apply pw_below_drewN | apply below_drew1) | exact HB.out))) : w.heap.size ≤ gb197)); clear HB; have HB := n0_; have BK197 := n1_; have GW197 := n2_; have GE197 := n3_; clear n0_ n1_ n2_ n3_; clear hb hbox hg; obtain ⟨hcz22_0, hcz22_1, hcz22_2, hcz22_3⟩ := cl_4 (.string (⟨#[]⟩ : ByteArray)) (.int .i64 0) (.int .i64 0) (.bool false) BK197.out; obtain ⟨hfz22_0, hfz22_1, hfz22_2, hfz22_3⟩ := fz_4 BK197.out; have p198 : 0 ≤ (x3_1 : Int) := of_decide_eq_true (by first | (with_reducible assumption) | assumption); have q198 : x3_1 < (l0.length : Int) := of_decide_eq_true (by first | (with_reducible assumption) | assumption); obtain ⟨ad198, e198, hx198_0, hx198_1, hx198_2⟩ := at_T44 HR0.out x3_1 p198 q198; obtain rfl : ad191 = ad198 := (by injection e198); have hn198_0 : ad191.block ≠ gb197 := Nat.ne_of_lt (Nat.lt_of_lt_of_le (by have := World.block_lt_of_cell? _ _ hx198_0; first | rwa [add_block] at this | exact this) GW197.out); have hn198_1 : ad191.block ≠ gb197 := Nat.ne_of_lt (Nat.lt_of_lt_of_le (by have := World.block_lt_of_cell? _ _ hx198_0; first | rwa [add_block] at this | exact this) GW197.out); have hn198_2 : ad191.block ≠ gb197 := Nat.ne_of_lt (Nat.lt_of_lt_of_le (by have := World.block_lt_of_cell? _ _ hx198_0; first | rwa [add_block] at this | exact this) GW197.out); have hn198_3 : ad191.block ≠ gb197 := Nat.ne_of_lt (Nat.lt_of_lt_of_le (by have := World.block_lt_of_cell? _ _ hx198_0; first | rwa [add_block] at this | exact this) GW197.out); replace hx198_0 := (HB.out.cell (World.block_lt_of_cell? w _ hx198_0)).trans hx198_0; replace hx198_1 := (HB.out.cell (World.block_lt_of_cell? w _ hx198_1)).trans hx198_1; replace hx198_2 := (HB.out.cell (World.block_lt_of_cell? w _ hx198_2)).trans hx198_2; replace hx198_0 := (cell_far (p := ⟨gb197, 0, none⟩) (by first | (rw [add_block]; exact hn198_0) | (show (Addr.add _ _).block ≠ _; rw [add_block]; exact hn198_0) | exact hn198_0) (.string t192)).trans hx198_0; replace hx198_1 := (cell_far (p := ⟨gb197, 0, none⟩) (by first | (rw [add_block]; exact hn198_0) | (show (Addr.add _ _).block ≠ _; rw [add_block]; exact hn198_0) | exact hn198_0) (.string t192)).trans hx198_1; replace hx198_2 := (cell_far (p := ⟨gb197, 0, none⟩) (by first | (rw [add_block]; exact hn198_0) | (show (Addr.add _ _).block ≠ _; rw [add_block]; exact hn198_0) | exact hn198_0) (.string t192)).trans hx198_2; replace hx198_0 := (cell_far (p := ⟨gb197, 1, none⟩) (by first | (rw [add_block]; exact hn198_1) | (show (Addr.add _ _).block ≠ _; rw [add_block]; exact hn198_1) | exact hn198_1) (.int .i64 t193)).trans hx198_0; replace hx198_1 := (cell_far (p := ⟨gb197, 1, none⟩) (by first | (rw [add_block]; exact hn198_1) | (show (Addr.add _ _).block ≠ _; rw [add_block]; exact hn198_1) | exact hn198_1) (.int .i64 t193)).trans hx198_1; replace hx198_2 := (cell_far (p := ⟨gb197, 1, none⟩) (by first | (rw [add_block]; exact hn198_1) | (show (Addr.add _ _).block ≠ _; rw [add_block]; exact hn198_1) | exact hn198_1) (.int .i64 t193)).trans hx198_2; replace hx198_0 := (cell_far (p := ⟨gb197, 2, none⟩) (by first | (rw [add_block]; exact hn198_2) | (show (Addr.add _ _).block ≠ _; rw [add_block]; exact hn198_2) | exact hn198_2) (.int .i64 t194)).trans hx198_0; replace hx198_1 := (cell_far (p := ⟨gb197, 2, none⟩) (by first | (rw [add_block]; exact hn198_2) | (show (Addr.add _ _).block ≠ _; rw [add_block]; exact hn198_2) | exact hn198_2) (.int .i64 t194)).trans hx198_1; replace hx198_2 := (cell_far (p := ⟨gb197, 2, none⟩) (by first | (rw [add_block]; exact hn198_2) | (show (Addr.add _ _).block ≠ _; rw [add_block]; exact hn198_2) | exact hn198_2) (.int .i64 t194)).trans hx198_2; replace hx198_0 := (cell_far (p := ⟨gb197, 3, none⟩) (by first | (rw [add_block]; exact hn198_3) | (show (Addr.add _ _).block ≠ _; rw [add_block]; exact hn198_3) | exact hn198_3) (.bool t195)).trans hx198_0; replace hx198_1 := (cell_far (p := ⟨gb197, 3, none⟩) (by first | (rw [add_block]; exact hn198_3) | (show (Addr.add _ _).block ≠ _; rw [add_block]; exact hn198_3) | exact hn198_3) (.bool t195)).trans hx198_1; replace hx198_2 := (cell_far (p := ⟨gb197, 3, none⟩) (by first | (rw [add_block]; exact hn198_3) | (show (Addr.add _ _).block ≠ _; rw [add_block]; exact hn198_3) | exact hn198_3) (.bool t195)).trans hx198_2; (try have hy198_0 := fun (n_ : Nat) => (show ((((((w21.drewN n_).setCell ⟨gb197, 0, none⟩ (.string t192)).setCell ⟨gb197, 1, none⟩ (.int .i64 t193)).setCell ⟨gb197, 2, none⟩ (.int .i64 t194)).setCell ⟨gb197, 3, none⟩ (.bool t195))).cell? _ = some _ from hx198_0)); (try have hy198_1 := fun (n_ : Nat) => (show ((((((w21.drewN n_).setCell ⟨gb197, 0, none⟩ (.string t192)).setCell ⟨gb197, 1, none⟩ (.int .i64 t193)).setCell ⟨gb197, 2, none⟩ (.int .i64 t194)).setCell ⟨gb197, 3, none⟩ (.bool t195))).cell? _ = some _ from hx198_1)); (try have hy198_2 := fun (n_ : Nat) => (show ((((((w21.drewN n_).setCell ⟨gb197, 0, none⟩ (.string t192)).setCell ⟨gb197, 1, none⟩ (.int .i64 t193)).setCell ⟨gb197, 2, none⟩ (.int .i64 t194)).setCell ⟨gb197, 3, none⟩ (.bool t195))).cell? _ = some _ from hx198_2)); clear hn198_0; clear hn198_1; clear hn198_2; clear hn198_3; replace p198 := eq_true p198; replace q198 := eq_true q198) | (go_at_call 44; (with_reducible refine (wharfingerref10_May.calls ((rd_T44 l0 x3_1).f2) true _ A6.out).mono ?_); rintro e w23 ⟨rfl, hb⟩; have n0_ := Aside0.mk (blk_below (g := gb197) (o := .cells #[.string t192, .int .i64 t193, .int .i64 t194, .bool t195] 88 (0, 0)) (by (with_reducible repeat (first | refine blk_drewN ?_ _ | refine blk_drew ?_ | refine blk_alloc ?_ _)); refine blk_put (cs := #[.string t192, .int .i64 t193, .int .i64 t194, .bool false]) ?_ 3 _ rfl; (with_reducible repeat (first | refine blk_drewN ?_ _ | refine blk_drew ?_ | refine blk_alloc ?_ _)); refine blk_put (cs := #[.string t192, .int .i64 t193, .int .i64 0, .bool false]) ?_ 2 _ rfl; (with_reducible repeat (first | refine blk_drewN ?_ _ | refine blk_drew ?_ | refine blk_alloc ?_ _)); refine blk_put (cs := #[.string t192, .int .i64 0, .int .i64 0, .bool false]) ?_ 1 _ rfl; (with_reducible repeat (first | refine blk_drewN ?_ _ | refine blk_drew ?_ | refine blk_alloc ?_ _)); refine blk_put (cs := #[.string (⟨#[]⟩ : ByteArray), .int .i64 0, .int .i64 0, .bool false]) ?_ 0 _ rfl; (with_reducible repeat (first | refine blk_drewN ?_ _ | refine blk_drew ?_ | refine blk_alloc ?_ _)); exact BK197.out) hb); have n1_ := Aside0.mk (below_step (by repeat (first | (with_reducible first | exact HB.out | apply below_alloc | apply pw_below_drewN | apply below_drew1 | refine below_set ?_ GE197.out) | exact HB.out)) hb); clear BK197; clear HB; have BK197 := n0_; have HB := n1_; clear n0_ n1_; (try clear hb); (try clear hb2); (try clear hk); (try clear hi); have p200 : 0 ≤ (x3_1 : Int) := of_decide_eq_true (by first | (with_reducible assumption) | assumption); have q200 : x3_1 < (l0.length : Int) := of_decide_eq_true (by first | (with_reducible assumption) | assumption); obtain ⟨ad200, e200, hx200_0, hx200_1, hx200_2⟩ := at_T44 HR0.out x3_1 p200 q200; obtain rfl : ad191 = ad200 := (by injection e200); replace hx200_0 := (HB.out.cell (World.block_lt_of_cell? w _ hx200_0)).trans hx200_0; replace hx200_1 := (HB.out.cell (World.block_lt_of_cell? w _ hx200_1)).trans hx200_1; replace hx200_2 := (HB.out.cell (World.block_lt_of_cell? w _ hx200_2)).trans hx200_2; replace p200 := eq_true p200; replace q200 := eq_true q200; obtain ⟨hcz24_0, hcz24_1, hcz24_2, hcz24_3⟩ := cl_4 (.string t192) (.int .i64 t193) (.int .i64 t194) (.bool t195) BK197.out; obtain ⟨hfz24_0, hfz24_1, hfz24_2, hfz24_3⟩ := fz_4 BK197.out; have p201 : 0 ≤ (x3_1 : Int) := of_decide_eq_true (by first | (with_reducible assumption) | assumption); have q201 : x3_1 < (l0.length : Int) := of_decide_eq_true (by first | (with_reducible assumption) | assumption); obtain ⟨ad201, e201, hx201_0, hx201_1, hx201_2⟩ := at_T44 HR0.out x3_1 p201 q201; obtain rfl : ad191 = ad201 := (by injection e201); replace hx201_0 := (HB.out.cell (World.block_lt_of_cell? w _ hx201_0)).trans hx201_0; replace hx201_1 := (HB.out.cell (World.block_lt_of_cell? w _ hx201_1)).trans hx201_1; replace hx201_2 := (HB.out.cell (World.block_lt_of_cell? w _ hx201_2)).trans hx201_2; replace p201 := eq_true p201; replace q201 := eq_true q201))
          repeat (go_quiet (first | (go_at_call 43; (with_reducible refine (wharfingerref07_Find.calls k1 ((rd_T44 l0 x3_1).f1) t192 t193 t194 t195 true _ A5.out).mono ?_); rintro e w20 ⟨rfl, hb⟩; have n0_ := Aside0.mk (below_step (by repeat (first | (with_reducible first | exact HB.out | apply below_alloc | apply pw_below_drewN | apply below_drew1) | exact HB.out)) hb); clear HB; have HB := n0_; clear n0_; (try clear hb); (try clear hb2); (try clear hk); (try clear hi)) | ((with_reducible refine gate_dst (N := 4) rfl ?_); refine box_event ?hg (N := 4) ?hd (cs := #[.string (⟨#[]⟩ : ByteArray), .int .i64 0, .int .i64 0, .bool false]) (t := 88) ?hr ?_; (case hd => rfl); (case hg => rfl); (case hr => first | (go_simp; done) | (go_simp; rfl)); intro gb197 hg w21 hbox hb; have n0_ := Aside0.mk (below_step (by repeat (first | (with_reducible first | exact HB.out | apply below_alloc | apply pw_below_drewN | apply below_drew1) | exact HB.out)) hb); have n1_ := Aside0.mk (hbox); have n2_ := Aside0.mk ((by rw [hg]; exact (below_size (by repeat (first | (with_reducible first | exact HB.out | apply below_alloc | apply pw_below_drewN | apply below_drew1) | exact HB.out))) : w.heap.size ≤ gb197)); have n3_ := Aside0.mk ((by rw [hg]; exact (below_size (by repeat (first | (with_reducible first | exact HB.out | apply below_alloc | apply pw_below_drewN | apply below_drew1) | exact HB.out))) : w.heap.size ≤ gb197)); clear HB; have HB := n0_; have BK197 := n1_; have GW197 := n2_; have GE197 := n3_; clear n0_ n1_ n2_ n3_; clear hb hbox hg; obtain ⟨hcz22_0, hcz22_1, hcz22_2, hcz22_3⟩ := cl_4 (.string (⟨#[]⟩ : ByteArray)) (.int .i64 0) (.int .i64 0) (.bool false) BK197.out; obtain ⟨hfz22_0, hfz22_1, hfz22_2, hfz22_3⟩ := fz_4 BK197.out; have p198 : 0 ≤ (x3_1 : Int) := of_decide_eq_true (by first | (with_reducible assumption) | assumption); have q198 : x3_1 < (l0.length : Int) := of_decide_eq_true (by first | (with_reducible assumption) | assumption); obtain ⟨ad198, e198, hx198_0, hx198_1, hx198_2⟩ := at_T44 HR0.out x3_1 p198 q198; obtain rfl : ad191 = ad198 := (by injection e198); have hn198_0 : ad191.block ≠ gb197 := Nat.ne_of_lt (Nat.lt_of_lt_of_le (by have := World.block_lt_of_cell? _ _ hx198_0; first | rwa [add_block] at this | exact this) GW197.out); have hn198_1 : ad191.block ≠ gb197 := Nat.ne_of_lt (Nat.lt_of_lt_of_le (by have := World.block_lt_of_cell? _ _ hx198_0; first | rwa [add_block] at this | exact this) GW197.out); have hn198_2 : ad191.block ≠ gb197 := Nat.ne_of_lt (Nat.lt_of_lt_of_le (by have := World.block_lt_of_cell? _ _ hx198_0; first | rwa [add_block] at this | exact this) GW197.out); have hn198_3 : ad191.block ≠ gb197 := Nat.ne_of_lt (Nat.lt_of_lt_of_le (by have := World.block_lt_of_cell? _ _ hx198_0; first | rwa [add_block] at this | exact this) GW197.out); replace hx198_0 := (HB.out.cell (World.block_lt_of_cell? w _ hx198_0)).trans hx198_0; replace hx198_1 := (HB.out.cell (World.block_lt_of_cell? w _ hx198_1)).trans hx198_1; replace hx198_2 := (HB.out.cell (World.block_lt_of_cell? w _ hx198_2)).trans hx198_2; replace hx198_0 := (cell_far (p := ⟨gb197, 0, none⟩) (by first | (rw [add_block]; exact hn198_0) | (show (Addr.add _ _).block ≠ _; rw [add_block]; exact hn198_0) | exact hn198_0) (.string t192)).trans hx198_0; replace hx198_1 := (cell_far (p := ⟨gb197, 0, none⟩) (by first | (rw [add_block]; exact hn198_0) | (show (Addr.add _ _).block ≠ _; rw [add_block]; exact hn198_0) | exact hn198_0) (.string t192)).trans hx198_1; replace hx198_2 := (cell_far (p := ⟨gb197, 0, none⟩) (by first | (rw [add_block]; exact hn198_0) | (show (Addr.add _ _).block ≠ _; rw [add_block]; exact hn198_0) | exact hn198_0) (.string t192)).trans hx198_2; replace hx198_0 := (cell_far (p := ⟨gb197, 1, none⟩) (by first | (rw [add_block]; exact hn198_1) | (show (Addr.add _ _).block ≠ _; rw [add_block]; exact hn198_1) | exact hn198_1) (.int .i64 t193)).trans hx198_0; replace hx198_1 := (cell_far (p := ⟨gb197, 1, none⟩) (by first | (rw [add_block]; exact hn198_1) | (show (Addr.add _ _).block ≠ _; rw [add_block]; exact hn198_1) | exact hn198_1) (.int .i64 t193)).trans hx198_1; replace hx198_2 := (cell_far (p := ⟨gb197, 1, none⟩) (by first | (rw [add_block]; exact hn198_1) | (show (Addr.add _ _).block ≠ _; rw [add_block]; exact hn198_1) | exact hn198_1) (.int .i64 t193)).trans hx198_2; replace hx198_0 := (cell_far (p := ⟨gb197, 2, none⟩) (by first | (rw [add_block]; exact hn198_2) | (show (Addr.add _ _).block ≠ _; rw [add_block]; exact hn198_2) | exact hn198_2) (.int .i64 t194)).trans hx198_0; replace hx198_1 := (cell_far (p := ⟨gb197, 2, none⟩) (by first | (rw [add_block]; exact hn198_2) | (show (Addr.add _ _).block ≠ _; rw [add_block]; exact hn198_2) | exact hn198_2) (.int .i64 t194)).trans hx198_1; replace hx198_2 := (cell_far (p := ⟨gb197, 2, none⟩) (by first | (rw [add_block]; exact hn198_2) | (show (Addr.add _ _).block ≠ _; rw [add_block]; exact hn198_2) | exact hn198_2) (.int .i64 t194)).trans hx198_2; replace hx198_0 := (cell_far (p := ⟨gb197, 3, none⟩) (by first | (rw [add_block]; exact hn198_3) | (show (Addr.add _ _).block ≠ _; rw [add_block]; exact hn198_3) | exact hn198_3) (.bool t195)).trans hx198_0; replace hx198_1 := (cell_far (p := ⟨gb197, 3, none⟩) (by first | (rw [add_block]; exact hn198_3) | (show (Addr.add _ _).block ≠ _; rw [add_block]; exact hn198_3) | exact hn198_3) (.bool t195)).trans hx198_1; replace hx198_2 := (cell_far (p := ⟨gb197, 3, none⟩) (by first | (rw [add_block]; exact hn198_3) | (show (Addr.add _ _).block ≠ _; rw [add_block]; exact hn198_3) | exact hn198_3) (.bool t195)).trans hx198_2; (try have hy198_0 := fun (n_ : Nat) => (show ((((((w21.drewN n_).setCell ⟨gb197, 0, none⟩ (.string t192)).setCell ⟨gb197, 1, none⟩ (.int .i64 t193)).setCell ⟨gb197, 2, none⟩ (.int .i64 t194)).setCell ⟨gb197, 3, none⟩ (.bool t195))).cell? _ = some _ from hx198_0)); (try have hy198_1 := fun (n_ : Nat) => (show ((((((w21.drewN n_).setCell ⟨gb197, 0, none⟩ (.string t192)).setCell ⟨gb197, 1, none⟩ (.int .i64 t193)).setCell ⟨gb197, 2, none⟩ (.int .i64 t194)).setCell ⟨gb197, 3, none⟩ (.bool t195))).cell? _ = some _ from hx198_1)); (try have hy198_2 := fun (n_ : Nat) => (show ((((((w21.drewN n_).setCell ⟨gb197, 0, none⟩ (.string t192)).setCell ⟨gb197, 1, none⟩ (.int .i64 t193)).setCell ⟨gb197, 2, none⟩ (.int .i64 t194)).setCell ⟨gb197, 3, none⟩ (.bool t195))).cell? _ = some _ from hx198_2)); clear hn198_0; clear hn198_1; clear hn198_2; clear hn198_3; replace p198 := eq_true p198; replace q198 := eq_true q198) | (go_at_call 44; (with_reducible refine (wharfingerref10_May.calls ((rd_T44 l0 x3_1).f2) true _ A6.out).mono ?_); rintro e w23 ⟨rfl, hb⟩; have n0_ := Aside0.mk (blk_below (g := gb197) (o := .cells #[.string t192, .int .i64 t193, .int .i64 t194, .bool t195] 88 (0, 0)) (by (with_reducible repeat (first | refine blk_drewN ?_ _ | refine blk_drew ?_ | refine blk_alloc ?_ _)); refine blk_put (cs := #[.string t192, .int .i64 t193, .int .i64 t194, .bool false]) ?_ 3 _ rfl; (with_reducible repeat (first | refine blk_drewN ?_ _ | refine blk_drew ?_ | refine blk_alloc ?_ _)); refine blk_put (cs := #[.string t192, .int .i64 t193, .int .i64 0, .bool false]) ?_ 2 _ rfl; (with_reducible repeat (first | refine blk_drewN ?_ _ | refine blk_drew ?_ | refine blk_alloc ?_ _)); refine blk_put (cs := #[.string t192, .int .i64 0, .int .i64 0, .bool false]) ?_ 1 _ rfl; (with_reducible repeat (first | refine blk_drewN ?_ _ | refine blk_drew ?_ | refine blk_alloc ?_ _)); refine blk_put (cs := #[.string (⟨#[]⟩ : ByteArray), .int .i64 0, .int .i64 0, .bool false]) ?_ 0 _ rfl; (with_reducible repeat (first | refine blk_drewN ?_ _ | refine blk_drew ?_ | refine blk_alloc ?_ _)); exact BK197.out) hb); have n1_ := Aside0.mk (below_step (by repeat (first | (with_reducible first | exact HB.out | apply below_alloc | apply pw_below_drewN | apply below_drew1 | refine below_set ?_ GE197.out) | exact HB.out)) hb); clear BK197; clear HB; have BK197 := n0_; have HB := n1_; clear n0_ n1_; (try clear hb); (try clear hb2); (try clear hk); (try clear hi); have p200 : 0 ≤ (x3_1 : Int) := of_decide_eq_true (by first | (with_reducible assumption) | assumption); have q200 : x3_1 < (l0.length : Int) := of_decide_eq_true (by first | (with_reducible assumption) | assumption); obtain ⟨ad200, e200, hx200_0, hx200_1, hx200_2⟩ := at_T44 HR0.out x3_1 p200 q200; obtain rfl : ad191 = ad200 := (by injection e200); replace hx200_0 := (HB.out.cell (World.block_lt_of_cell? w _ hx200_0)).trans hx200_0; replace hx200_1 := (HB.out.cell (World.block_lt_of_cell? w _ hx200_1)).trans hx200_1; replace hx200_2 := (HB.out.cell (World.block_lt_of_cell? w _ hx200_2)).trans hx200_2; replace p200 := eq_true p200; replace q200 := eq_true q200; obtain ⟨hcz24_0, hcz24_1, hcz24_2, hcz24_3⟩ := cl_4 (.string t192) (.int .i64 t193) (.int .i64 t194) (.bool t195) BK197.out; obtain ⟨hfz24_0, hfz24_1, hfz24_2, hfz24_3⟩ := fz_4 BK197.out; have p201 : 0 ≤ (x3_1 : Int) := of_decide_eq_true (by first | (with_reducible assumption) | assumption); have q201 : x3_1 < (l0.length : Int) := of_decide_eq_true (by first | (with_reducible assumption) | assumption); obtain ⟨ad201, e201, hx201_0, hx201_1, hx201_2⟩ := at_T44 HR0.out x3_1 p201 q201; obtain rfl : ad191 = ad201 := (by injection e201); replace hx201_0 := (HB.out.cell (World.block_lt_of_cell? w _ hx201_0)).trans hx201_0; replace hx201_1 := (HB.out.cell (World.block_lt_of_cell? w _ hx201_1)).trans hx201_1; replace hx201_2 := (HB.out.cell (World.block_lt_of_cell? w _ hx201_2)).trans hx201_2; replace p201 := eq_true p201; replace q201 := eq_true q201)); try go_wp2_with (first | (go_at_call 43; (with_reducible refine (wharfingerref07_Find.calls k1 ((rd_T44 l0 x3_1).f1) t192 t193 t194 t195 true _ A5.out).mono ?_); rintro e w20 ⟨rfl, hb⟩; have n0_ := Aside0.mk (below_step (by repeat (first | (with_reducible first | exact HB.out | apply below_alloc | apply pw_below_drewN | apply below_drew1) | exact HB.out)) hb); clear HB; have HB := n0_; clear n0_; (try clear hb); (try clear hb2); (try clear hk); (try clear hi)) | ((with_reducible refine gate_dst (N := 4) rfl ?_); refine box_event ?hg (N := 4) ?hd (cs := #[.string (⟨#[]⟩ : ByteArray), .int .i64 0, .int .i64 0, .bool false]) (t := 88) ?hr ?_; (case hd => rfl); (case hg => rfl); (case hr => first | (go_simp; done) | (go_simp; rfl)); intro gb197 hg w21 hbox hb; have n0_ := Aside0.mk (below_step (by repeat (first | (with_reducible first | exact HB.out | apply below_alloc | apply pw_below_drewN | apply below_drew1) | exact HB.out)) hb); have n1_ := Aside0.mk (hbox); have n2_ := Aside0.mk ((by rw [hg]; exact (below_size (by repeat (first | (with_reducible first | exact HB.out | apply below_alloc | apply pw_below_drewN | apply below_drew1) | exact HB.out))) : w.heap.size ≤ gb197)); have n3_ := Aside0.mk ((by rw [hg]; exact (below_size (by repeat (first | (with_reducible first | exact HB.out | apply below_alloc | apply pw_below_drewN | apply below_drew1) | exact HB.out))) : w.heap.size ≤ gb197)); clear HB; have HB := n0_; have BK197 := n1_; have GW197 := n2_; have GE197 := n3_; clear n0_ n1_ n2_ n3_; clear hb hbox hg; obtain ⟨hcz22_0, hcz22_1, hcz22_2, hcz22_3⟩ := cl_4 (.string (⟨#[]⟩ : ByteArray)) (.int .i64 0) (.int .i64 0) (.bool false) BK197.out; obtain ⟨hfz22_0, hfz22_1, hfz22_2, hfz22_3⟩ := fz_4 BK197.out; have p198 : 0 ≤ (x3_1 : Int) := of_decide_eq_true (by first | (with_reducible assumption) | assumption); have q198 : x3_1 < (l0.length : Int) := of_decide_eq_true (by first | (with_reducible assumption) | assumption); obtain ⟨ad198, e198, hx198_0, hx198_1, hx198_2⟩ := at_T44 HR0.out x3_1 p198 q198; obtain rfl : ad191 = ad198 := (by injection e198); have hn198_0 : ad191.block ≠ gb197 := Nat.ne_of_lt (Nat.lt_of_lt_of_le (by have := World.block_lt_of_cell? _ _ hx198_0; first | rwa [add_block] at this | exact this) GW197.out); have hn198_1 : ad191.block ≠ gb197 := Nat.ne_of_lt (Nat.lt_of_lt_of_le (by have := World.block_lt_of_cell? _ _ hx198_0; first | rwa [add_block] at this | exact this) GW197.out); have hn198_2 : ad191.block ≠ gb197 := Nat.ne_of_lt (Nat.lt_of_lt_of_le (by have := World.block_lt_of_cell? _ _ hx198_0; first | rwa [add_block] at this | exact this) GW197.out); have hn198_3 : ad191.block ≠ gb197 := Nat.ne_of_lt (Nat.lt_of_lt_of_le (by have := World.block_lt_of_cell? _ _ hx198_0; first | rwa [add_block] at this | exact this) GW197.out); replace hx198_0 := (HB.out.cell (World.block_lt_of_cell? w _ hx198_0)).trans hx198_0; replace hx198_1 := (HB.out.cell (World.block_lt_of_cell? w _ hx198_1)).trans hx198_1; replace hx198_2 := (HB.out.cell (World.block_lt_of_cell? w _ hx198_2)).trans hx198_2; replace hx198_0 := (cell_far (p := ⟨gb197, 0, none⟩) (by first | (rw [add_block]; exact hn198_0) | (show (Addr.add _ _).block ≠ _; rw [add_block]; exact hn198_0) | exact hn198_0) (.string t192)).trans hx198_0; replace hx198_1 := (cell_far (p := ⟨gb197, 0, none⟩) (by first | (rw [add_block]; exact hn198_0) | (show (Addr.add _ _).block ≠ _; rw [add_block]; exact hn198_0) | exact hn198_0) (.string t192)).trans hx198_1; replace hx198_2 := (cell_far (p := ⟨gb197, 0, none⟩) (by first | (rw [add_block]; exact hn198_0) | (show (Addr.add _ _).block ≠ _; rw [add_block]; exact hn198_0) | exact hn198_0) (.string t192)).trans hx198_2; replace hx198_0 := (cell_far (p := ⟨gb197, 1, none⟩) (by first | (rw [add_block]; exact hn198_1) | (show (Addr.add _ _).block ≠ _; rw [add_block]; exact hn198_1) | exact hn198_1) (.int .i64 t193)).trans hx198_0; replace hx198_1 := (cell_far (p := ⟨gb197, 1, none⟩) (by first | (rw [add_block]; exact hn198_1) | (show (Addr.add _ _).block ≠ _; rw [add_block]; exact hn198_1) | exact hn198_1) (.int .i64 t193)).trans hx198_1; replace hx198_2 := (cell_far (p := ⟨gb197, 1, none⟩) (by first | (rw [add_block]; exact hn198_1) | (show (Addr.add _ _).block ≠ _; rw [add_block]; exact hn198_1) | exact hn198_1) (.int .i64 t193)).trans hx198_2; replace hx198_0 := (cell_far (p := ⟨gb197, 2, none⟩) (by first | (rw [add_block]; exact hn198_2) | (show (Addr.add _ _).block ≠ _; rw [add_block]; exact hn198_2) | exact hn198_2) (.int .i64 t194)).trans hx198_0; replace hx198_1 := (cell_far (p := ⟨gb197, 2, none⟩) (by first | (rw [add_block]; exact hn198_2) | (show (Addr.add _ _).block ≠ _; rw [add_block]; exact hn198_2) | exact hn198_2) (.int .i64 t194)).trans hx198_1; replace hx198_2 := (cell_far (p := ⟨gb197, 2, none⟩) (by first | (rw [add_block]; exact hn198_2) | (show (Addr.add _ _).block ≠ _; rw [add_block]; exact hn198_2) | exact hn198_2) (.int .i64 t194)).trans hx198_2; replace hx198_0 := (cell_far (p := ⟨gb197, 3, none⟩) (by first | (rw [add_block]; exact hn198_3) | (show (Addr.add _ _).block ≠ _; rw [add_block]; exact hn198_3) | exact hn198_3) (.bool t195)).trans hx198_0; replace hx198_1 := (cell_far (p := ⟨gb197, 3, none⟩) (by first | (rw [add_block]; exact hn198_3) | (show (Addr.add _ _).block ≠ _; rw [add_block]; exact hn198_3) | exact hn198_3) (.bool t195)).trans hx198_1; replace hx198_2 := (cell_far (p := ⟨gb197, 3, none⟩) (by first | (rw [add_block]; exact hn198_3) | (show (Addr.add _ _).block ≠ _; rw [add_block]; exact hn198_3) | exact hn198_3) (.bool t195)).trans hx198_2; (try have hy198_0 := fun (n_ : Nat) => (show ((((((w21.drewN n_).setCell ⟨gb197, 0, none⟩ (.string t192)).setCell ⟨gb197, 1, none⟩ (.int .i64 t193)).setCell ⟨gb197, 2, none⟩ (.int .i64 t194)).setCell ⟨gb197, 3, none⟩ (.bool t195))).cell? _ = some _ from hx198_0)); (try have hy198_1 := fun (n_ : Nat) => (show ((((((w21.drewN n_).setCell ⟨gb197, 0, none⟩ (.string t192)).setCell ⟨gb197, 1, none⟩ (.int .i64 t193)).setCell ⟨gb197, 2, none⟩ (.int .i64 t194)).setCell ⟨gb197, 3, none⟩ (.bool t195))).cell? _ = some _ from hx198_1)); (try have hy198_2 := fun (n_ : Nat) => (show ((((((w21.drewN n_).setCell ⟨gb197, 0, none⟩ (.string t192)).setCell ⟨gb197, 1, none⟩ (.int .i64 t193)).setCell ⟨gb197, 2, none⟩ (.int .i64 t194)).setCell ⟨gb197, 3, none⟩ (.bool t195))).cell? _ = some _ from hx198_2)); clear hn198_0; clear hn198_1; clear hn198_2; clear hn198_3; replace p198 := eq_true p198; replace q198 := eq_true q198) | (go_at_call 44; (with_reducible refine (wharfingerref10_May.calls ((rd_T44 l0 x3_1).f2) true _ A6.out).mono ?_); rintro e w23 ⟨rfl, hb⟩; have n0_ := Aside0.mk (blk_below (g := gb197) (o := .cells #[.string t192, .int .i64 t193, .int .i64 t194, .bool t195] 88 (0, 0)) (by (with_reducible repeat (first | refine blk_drewN ?_ _ | refine blk_drew ?_ | refine blk_alloc ?_ _)); refine blk_put (cs := #[.string t192, .int .i64 t193, .int .i64 t194, .bool false]) ?_ 3 _ rfl; (with_reducible repeat (first | refine blk_drewN ?_ _ | refine blk_drew ?_ | refine blk_alloc ?_ _)); refine blk_put (cs := #[.string t192, .int .i64 t193, .int .i64 0, .bool false]) ?_ 2 _ rfl; (with_reducible repeat (first | refine blk_drewN ?_ _ | refine blk_drew ?_ | refine blk_alloc ?_ _)); refine blk_put (cs := #[.string t192, .int .i64 0, .int .i64 0, .bool false]) ?_ 1 _ rfl; (with_reducible repeat (first | refine blk_drewN ?_ _ | refine blk_drew ?_ | refine blk_alloc ?_ _)); refine blk_put (cs := #[.string (⟨#[]⟩ : ByteArray), .int .i64 0, .int .i64 0, .bool false]) ?_ 0 _ rfl; (with_reducible repeat (first | refine blk_drewN ?_ _ | refine blk_drew ?_ | refine blk_alloc ?_ _)); exact BK197.out) hb); have n1_ := Aside0.mk (below_step (by repeat (first | (with_reducible first | exact HB.out | apply below_alloc | apply pw_below_drewN | apply below_drew1 | refine below_set ?_ GE197.out) | exact HB.out)) hb); clear BK197; clear HB; have BK197 := n0_; have HB := n1_; clear n0_ n1_; (try clear hb); (try clear hb2); (try clear hk); (try clear hi); have p200 : 0 ≤ (x3_1 : Int) := of_decide_eq_true (by first | (with_reducible assumption) | assumption); have q200 : x3_1 < (l0.length : Int) := of_decide_eq_true (by first | (with_reducible assumption) | assumption); obtain ⟨ad200, e200, hx200_0, hx200_1, hx200_2⟩ := at_T44 HR0.out x3_1 p200 q200; obtain rfl : ad191 = ad200 := (by injection e200); replace hx200_0 := (HB.out.cell (World.block_lt_of_cell? w _ hx200_0)).trans hx200_0; replace hx200_1 := (HB.out.cell (World.block_lt_of_cell? w _ hx200_1)).trans hx200_1; replace hx200_2 := (HB.out.cell (World.block_lt_of_cell? w _ hx200_2)).trans hx200_2; replace p200 := eq_true p200; replace q200 := eq_true q200; obtain ⟨hcz24_0, hcz24_1, hcz24_2, hcz24_3⟩ := cl_4 (.string t192) (.int .i64 t193) (.int .i64 t194) (.bool t195) BK197.out; obtain ⟨hfz24_0, hfz24_1, hfz24_2, hfz24_3⟩ := fz_4 BK197.out; have p201 : 0 ≤ (x3_1 : Int) := of_decide_eq_true (by first | (with_reducible assumption) | assumption); have q201 : x3_1 < (l0.length : Int) := of_decide_eq_true (by first | (with_reducible assumption) | assumption); obtain ⟨ad201, e201, hx201_0, hx201_1, hx201_2⟩ := at_T44 HR0.out x3_1 p201 q201; obtain rfl : ad191 = ad201 := (by injection e201); replace hx201_0 := (HB.out.cell (World.block_lt_of_cell? w _ hx201_0)).trans hx201_0; replace hx201_1 := (HB.out.cell (World.block_lt_of_cell? w _ hx201_1)).trans hx201_1; replace hx201_2 := (HB.out.cell (World.block_lt_of_cell? w _ hx201_2)).trans hx201_2; replace p201 := eq_true p201; replace q201 := eq_true q201)))
          go_ret
          exact ⟨by first | rfl | (simp [errW_none, errW_some] <;> rfl) | (simp [*, errW_none, errW_some] <;> rfl), by repeat (first | (with_reducible first | exact HB.out | apply below_alloc | apply pw_below_drewN | apply below_drew1 | refine below_set ?_ GE197.out) | exact HB.out)⟩
        ·
         replace c13 := Bool.eq_false_iff.mpr c13
         subst c13
         have H1 : (some false) = some r := by rw [if_neg (show ¬ (false = true) by decide)] at H; exact H
         clear H
         have H := H1
         clear H1
         obtain rfl := Option.some.inj H
         have p191 : 0 ≤ (x3_1 : Int) := of_decide_eq_true (by first | (with_reducible assumption) | assumption)
         have q191 : x3_1 < (l0.length : Int) := of_decide_eq_true (by first | (with_reducible assumption) | assumption)
         obtain ⟨ad191, e191, hx191_0, hx191_1, hx191_2⟩ := at_T44 HR0.out x3_1 p191 q191
         cases e191
         replace hx191_0 := (HB.out.cell (World.block_lt_of_cell? w _ hx191_0)).trans hx191_0
         replace hx191_1 := (HB.out.cell (World.block_lt_of_cell? w _ hx191_1)).trans hx191_1
         replace hx191_2 := (HB.out.cell (World.block_lt_of_cell? w _ hx191_2)).trans hx191_2
         replace p191 := eq_true p191
         replace q191 := eq_true q191
         go_wp2_with (first | (go_at_call 43; (with_reducible refine (wharfingerref07_Find.calls k1 ((rd_T44 l0 x3_1).f1) t192 t193 t194 t195 false _ A5.out).mono ?_); rintro e w25 ⟨rfl, hb⟩; have n0_ := Aside0.mk (below_step (by repeat (first | (with_reducible first | exact HB.out | apply below_alloc | apply pw_below_drewN | apply below_drew1) | exact HB.out)) hb); clear HB; have HB := n0_; clear n0_; (try clear hb); (try clear hb2); (try clear hk); (try clear hi)) | ((with_reducible refine gate_dst (N := 4) rfl ?_); refine box_event ?hg (N := 4) ?hd (cs := #[.string (⟨#[]⟩ : ByteArray), .int .i64 0, .int .i64 0, .bool false]) (t := 88) ?hr ?_; (case hd => rfl); (case hg => rfl); (case hr => first | (go_simp; done) | (go_simp; rfl)); intro gb197 hg w26 hbox hb; have n0_ := Aside0.mk (below_step (by repeat (first | (with_reducible first | exact HB.out | apply below_alloc | apply pw_below_drewN | apply below_drew1) | exact HB.out)) hb); have n1_ := Aside0.mk (hbox); have n2_ := Aside0.mk ((by rw [hg]; exact (below_size (by repeat (first | (with_reducible first | exact HB.out | apply below_alloc | apply pw_below_drewN | apply below_drew1) | exact HB.out))) : w.heap.size ≤ gb197)); have n3_ := Aside0.mk ((by rw [hg]; exact (below_size (by repeat (first | (with_reducible first | exact HB.out | apply below_alloc | apply pw_below_drewN | apply below_drew1) | exact HB.out))) : w.heap.size ≤ gb197)); clear HB; have HB := n0_; have BK197 := n1_; have GW197 := n2_; have GE197 := n3_; clear n0_ n1_ n2_ n3_; clear hb hbox hg; obtain ⟨hcz27_0, hcz27_1, hcz27_2, hcz27_3⟩ := cl_4 (.string (⟨#[]⟩ : ByteArray)) (.int .i64 0) (.int .i64 0) (.bool false) BK197.out; obtain ⟨hfz27_0, hfz27_1, hfz27_2, hfz27_3⟩ := fz_4 BK197.out; have p198 : 0 ≤ (x3_1 : Int) := of_decide_eq_true (by first | (with_reducible assumption) | assumption); have q198 : x3_1 < (l0.length : Int) := of_decide_eq_true (by first | (with_reducible assumption) | assumption); obtain ⟨ad198, e198, hx198_0, hx198_1, hx198_2⟩ := at_T44 HR0.out x3_1 p198 q198; obtain rfl : ad191 = ad198 := (by injection e198); have hn198_0 : ad191.block ≠ gb197 := Nat.ne_of_lt (Nat.lt_of_lt_of_le (by have := World.block_lt_of_cell? _ _ hx198_0; first | rwa [add_block] at this | exact this) GW197.out); have hn198_1 : ad191.block ≠ gb197 := Nat.ne_of_lt (Nat.lt_of_lt_of_le (by have := World.block_lt_of_cell? _ _ hx198_0; first | rwa [add_block] at this | exact this) GW197.out); have hn198_2 : ad191.block ≠ gb197 := Nat.ne_of_lt (Nat.lt_of_lt_of_le (by have := World.block_lt_of_cell? _ _ hx198_0; first | rwa [add_block] at this | exact this) GW197.out); have hn198_3 : ad191.block ≠ gb197 := Nat.ne_of_lt (Nat.lt_of_lt_of_le (by have := World.block_lt_of_cell? _ _ hx198_0; first | rwa [add_block] at this | exact this) GW197.out); replace hx198_0 := (HB.out.cell (World.block_lt_of_cell? w _ hx198_0)).trans hx198_0; replace hx198_1 := (HB.out.cell (World.block_lt_of_cell? w _ hx198_1)).trans hx198_1; replace hx198_2 := (HB.out.cell (World.block_lt_of_cell? w _ hx198_2)).trans hx198_2; replace hx198_0 := (cell_far (p := ⟨gb197, 0, none⟩) (by first | (rw [add_block]; exact hn198_0) | (show (Addr.add _ _).block ≠ _; rw [add_block]; exact hn198_0) | exact hn198_0) (.string t192)).trans hx198_0; replace hx198_1 := (cell_far (p := ⟨gb197, 0, none⟩) (by first | (rw [add_block]; exact hn198_0) | (show (Addr.add _ _).block ≠ _; rw [add_block]; exact hn198_0) | exact hn198_0) (.string t192)).trans hx198_1; replace hx198_2 := (cell_far (p := ⟨gb197, 0, none⟩) (by first | (rw [add_block]; exact hn198_0) | (show (Addr.add _ _).block ≠ _; rw [add_block]; exact hn198_0) | exact hn198_0) (.string t192)).trans hx198_2; replace hx198_0 := (cell_far (p := ⟨gb197, 1, none⟩) (by first | (rw [add_block]; exact hn198_1) | (show (Addr.add _ _).block ≠ _; rw [add_block]; exact hn198_1) | exact hn198_1) (.int .i64 t193)).trans hx198_0; replace hx198_1 := (cell_far (p := ⟨gb197, 1, none⟩) (by first | (rw [add_block]; exact hn198_1) | (show (Addr.add _ _).block ≠ _; rw [add_block]; exact hn198_1) | exact hn198_1) (.int .i64 t193)).trans hx198_1; replace hx198_2 := (cell_far (p := ⟨gb197, 1, none⟩) (by first | (rw [add_block]; exact hn198_1) | (show (Addr.add _ _).block ≠ _; rw [add_block]; exact hn198_1) | exact hn198_1) (.int .i64 t193)).trans hx198_2; replace hx198_0 := (cell_far (p := ⟨gb197, 2, none⟩) (by first | (rw [add_block]; exact hn198_2) | (show (Addr.add _ _).block ≠ _; rw [add_block]; exact hn198_2) | exact hn198_2) (.int .i64 t194)).trans hx198_0; replace hx198_1 := (cell_far (p := ⟨gb197, 2, none⟩) (by first | (rw [add_block]; exact hn198_2) | (show (Addr.add _ _).block ≠ _; rw [add_block]; exact hn198_2) | exact hn198_2) (.int .i64 t194)).trans hx198_1; replace hx198_2 := (cell_far (p := ⟨gb197, 2, none⟩) (by first | (rw [add_block]; exact hn198_2) | (show (Addr.add _ _).block ≠ _; rw [add_block]; exact hn198_2) | exact hn198_2) (.int .i64 t194)).trans hx198_2; replace hx198_0 := (cell_far (p := ⟨gb197, 3, none⟩) (by first | (rw [add_block]; exact hn198_3) | (show (Addr.add _ _).block ≠ _; rw [add_block]; exact hn198_3) | exact hn198_3) (.bool t195)).trans hx198_0; replace hx198_1 := (cell_far (p := ⟨gb197, 3, none⟩) (by first | (rw [add_block]; exact hn198_3) | (show (Addr.add _ _).block ≠ _; rw [add_block]; exact hn198_3) | exact hn198_3) (.bool t195)).trans hx198_1; replace hx198_2 := (cell_far (p := ⟨gb197, 3, none⟩) (by first | (rw [add_block]; exact hn198_3) | (show (Addr.add _ _).block ≠ _; rw [add_block]; exact hn198_3) | exact hn198_3) (.bool t195)).trans hx198_2; (try have hy198_0 := fun (n_ : Nat) => (show ((((((w26.drewN n_).setCell ⟨gb197, 0, none⟩ (.string t192)).setCell ⟨gb197, 1, none⟩ (.int .i64 t193)).setCell ⟨gb197, 2, none⟩ (.int .i64 t194)).setCell ⟨gb197, 3, none⟩ (.bool t195))).cell? _ = some _ from hx198_0)); (try have hy198_1 := fun (n_ : Nat) => (show ((((((w26.drewN n_).setCell ⟨gb197, 0, none⟩ (.string t192)).setCell ⟨gb197, 1, none⟩ (.int .i64 t193)).setCell ⟨gb197, 2, none⟩ (.int .i64 t194)).setCell ⟨gb197, 3, none⟩ (.bool t195))).cell? _ = some _ from hx198_1)); (try have hy198_2 := fun (n_ : Nat) => (show ((((((w26.drewN n_).setCell ⟨gb197, 0, none⟩ (.string t192)).setCell ⟨gb197, 1, none⟩ (.int .i64 t193)).setCell ⟨gb197, 2, none⟩ (.int .i64 t194)).setCell ⟨gb197, 3, none⟩ (.bool t195))).cell? _ = some _ from hx198_2)); clear hn198_0; clear hn198_1; clear hn198_2; clear hn198_3; replace p198 := eq_true p198; replace q198 := eq_true q198) | (go_at_call 44; (with_reducible refine (wharfingerref10_May.calls ((rd_T44 l0 x3_1).f2) true _ A6.out).mono ?_); rintro e w28 ⟨rfl, hb⟩; have n0_ := Aside0.mk (blk_below (g := gb197) (o := .cells #[.string t192, .int .i64 t193, .int .i64 t194, .bool t195] 88 (0, 0)) (by (with_reducible repeat (first | refine blk_drewN ?_ _ | refine blk_drew ?_ | refine blk_alloc ?_ _)); refine blk_put (cs := #[.string t192, .int .i64 t193, .int .i64 t194, .bool false]) ?_ 3 _ rfl; (with_reducible repeat (first | refine blk_drewN ?_ _ | refine blk_drew ?_ | refine blk_alloc ?_ _)); refine blk_put (cs := #[.string t192, .int .i64 t193, .int .i64 0, .bool false]) ?_ 2 _ rfl; (with_reducible repeat (first | refine blk_drewN ?_ _ | refine blk_drew ?_ | refine blk_alloc ?_ _)); refine blk_put (cs := #[.string t192, .int .i64 0, .int .i64 0, .bool false]) ?_ 1 _ rfl; (with_reducible repeat (first | refine blk_drewN ?_ _ | refine blk_drew ?_ | refine blk_alloc ?_ _)); refine blk_put (cs := #[.string (⟨#[]⟩ : ByteArray), .int .i64 0, .int .i64 0, .bool false]) ?_ 0 _ rfl; (with_reducible repeat (first | refine blk_drewN ?_ _ | refine blk_drew ?_ | refine blk_alloc ?_ _)); exact BK197.out) hb); have n1_ := Aside0.mk (below_step (by repeat (first | (with_reducible first | exact HB.out | apply below_alloc | apply pw_below_drewN | apply below_drew1 | refine below_set ?_ GE197.out) | exact HB.out)) hb); clear BK197; clear HB; have BK197 := n0_; have HB := n1_; clear n0_ n1_; (try clear hb); (try clear hb2); (try clear hk); (try clear hi); have p200 : 0 ≤ (x3_1 : Int) := of_decide_eq_true (by first | (with_reducible assumption) | assumption); have q200 : x3_1 < (l0.length : Int) := of_decide_eq_true (by first | (with_reducible assumption) | assumption); obtain ⟨ad200, e200, hx200_0, hx200_1, hx200_2⟩ := at_T44 HR0.out x3_1 p200 q200; obtain rfl : ad191 = ad200 := (by injection e200); replace hx200_0 := (HB.out.cell (World.block_lt_of_cell? w _ hx200_0)).trans hx200_0; replace hx200_1 := (HB.out.cell (World.block_lt_of_cell? w _ hx200_1)).trans hx200_1; replace hx200_2 := (HB.out.cell (World.block_lt_of_cell? w _ hx200_2)).trans hx200_2; replace p200 := eq_true p200; replace q200 := eq_true q200))
         repeat (go_quiet (first | (go_at_call 43; (with_reducible refine (wharfingerref07_Find.calls k1 ((rd_T44 l0 x3_1).f1) t192 t193 t194 t195 false _ A5.out).mono ?_); rintro e w25 ⟨rfl, hb⟩; have n0_ := Aside0.mk (below_step (by repeat (first | (with_reducible first | exact HB.out | apply below_alloc | apply pw_below_drewN | apply below_drew1) | exact HB.out)) hb); clear HB; have HB := n0_; clear n0_; (try clear hb); (try clear hb2); (try clear hk); (try clear hi)) | ((with_reducible refine gate_dst (N := 4) rfl ?_); refine box_event ?hg (N := 4) ?hd (cs := #[.string (⟨#[]⟩ : ByteArray), .int .i64 0, .int .i64 0, .bool false]) (t := 88) ?hr ?_; (case hd => rfl); (case hg => rfl); (case hr => first | (go_simp; done) | (go_simp; rfl)); intro gb197 hg w26 hbox hb; have n0_ := Aside0.mk (below_step (by repeat (first | (with_reducible first | exact HB.out | apply below_alloc | apply pw_below_drewN | apply below_drew1) | exact HB.out)) hb); have n1_ := Aside0.mk (hbox); have n2_ := Aside0.mk ((by rw [hg]; exact (below_size (by repeat (first | (with_reducible first | exact HB.out | apply below_alloc | apply pw_below_drewN | apply below_drew1) | exact HB.out))) : w.heap.size ≤ gb197)); have n3_ := Aside0.mk ((by rw [hg]; exact (below_size (by repeat (first | (with_reducible first | exact HB.out | apply below_alloc | apply pw_below_drewN | apply below_drew1) | exact HB.out))) : w.heap.size ≤ gb197)); clear HB; have HB := n0_; have BK197 := n1_; have GW197 := n2_; have GE197 := n3_; clear n0_ n1_ n2_ n3_; clear hb hbox hg; obtain ⟨hcz27_0, hcz27_1, hcz27_2, hcz27_3⟩ := cl_4 (.string (⟨#[]⟩ : ByteArray)) (.int .i64 0) (.int .i64 0) (.bool false) BK197.out; obtain ⟨hfz27_0, hfz27_1, hfz27_2, hfz27_3⟩ := fz_4 BK197.out; have p198 : 0 ≤ (x3_1 : Int) := of_decide_eq_true (by first | (with_reducible assumption) | assumption); have q198 : x3_1 < (l0.length : Int) := of_decide_eq_true (by first | (with_reducible assumption) | assumption); obtain ⟨ad198, e198, hx198_0, hx198_1, hx198_2⟩ := at_T44 HR0.out x3_1 p198 q198; obtain rfl : ad191 = ad198 := (by injection e198); have hn198_0 : ad191.block ≠ gb197 := Nat.ne_of_lt (Nat.lt_of_lt_of_le (by have := World.block_lt_of_cell? _ _ hx198_0; first | rwa [add_block] at this | exact this) GW197.out); have hn198_1 : ad191.block ≠ gb197 := Nat.ne_of_lt (Nat.lt_of_lt_of_le (by have := World.block_lt_of_cell? _ _ hx198_0; first | rwa [add_block] at this | exact this) GW197.out); have hn198_2 : ad191.block ≠ gb197 := Nat.ne_of_lt (Nat.lt_of_lt_of_le (by have := World.block_lt_of_cell? _ _ hx198_0; first | rwa [add_block] at this | exact this) GW197.out); have hn198_3 : ad191.block ≠ gb197 := Nat.ne_of_lt (Nat.lt_of_lt_of_le (by have := World.block_lt_of_cell? _ _ hx198_0; first | rwa [add_block] at this | exact this) GW197.out); replace hx198_0 := (HB.out.cell (World.block_lt_of_cell? w _ hx198_0)).trans hx198_0; replace hx198_1 := (HB.out.cell (World.block_lt_of_cell? w _ hx198_1)).trans hx198_1; replace hx198_2 := (HB.out.cell (World.block_lt_of_cell? w _ hx198_2)).trans hx198_2; replace hx198_0 := (cell_far (p := ⟨gb197, 0, none⟩) (by first | (rw [add_block]; exact hn198_0) | (show (Addr.add _ _).block ≠ _; rw [add_block]; exact hn198_0) | exact hn198_0) (.string t192)).trans hx198_0; replace hx198_1 := (cell_far (p := ⟨gb197, 0, none⟩) (by first | (rw [add_block]; exact hn198_0) | (show (Addr.add _ _).block ≠ _; rw [add_block]; exact hn198_0) | exact hn198_0) (.string t192)).trans hx198_1; replace hx198_2 := (cell_far (p := ⟨gb197, 0, none⟩) (by first | (rw [add_block]; exact hn198_0) | (show (Addr.add _ _).block ≠ _; rw [add_block]; exact hn198_0) | exact hn198_0) (.string t192)).trans hx198_2; replace hx198_0 := (cell_far (p := ⟨gb197, 1, none⟩) (by first | (rw [add_block]; exact hn198_1) | (show (Addr.add _ _).block ≠ _; rw [add_block]; exact hn198_1) | exact hn198_1) (.int .i64 t193)).trans hx198_0; replace hx198_1 := (cell_far (p := ⟨gb197, 1, none⟩) (by first | (rw [add_block]; exact hn198_1) | (show (Addr.add _ _).block ≠ _; rw [add_block]; exact hn198_1) | exact hn198_1) (.int .i64 t193)).trans hx198_1; replace hx198_2 := (cell_far (p := ⟨gb197, 1, none⟩) (by first | (rw [add_block]; exact hn198_1) | (show (Addr.add _ _).block ≠ _; rw [add_block]; exact hn198_1) | exact hn198_1) (.int .i64 t193)).trans hx198_2; replace hx198_0 := (cell_far (p := ⟨gb197, 2, none⟩) (by first | (rw [add_block]; exact hn198_2) | (show (Addr.add _ _).block ≠ _; rw [add_block]; exact hn198_2) | exact hn198_2) (.int .i64 t194)).trans hx198_0; replace hx198_1 := (cell_far (p := ⟨gb197, 2, none⟩) (by first | (rw [add_block]; exact hn198_2) | (show (Addr.add _ _).block ≠ _; rw [add_block]; exact hn198_2) | exact hn198_2) (.int .i64 t194)).trans hx198_1; replace hx198_2 := (cell_far (p := ⟨gb197, 2, none⟩) (by first | (rw [add_block]; exact hn198_2) | (show (Addr.add _ _).block ≠ _; rw [add_block]; exact hn198_2) | exact hn198_2) (.int .i64 t194)).trans hx198_2; replace hx198_0 := (cell_far (p := ⟨gb197, 3, none⟩) (by first | (rw [add_block]; exact hn198_3) | (show (Addr.add _ _).block ≠ _; rw [add_block]; exact hn198_3) | exact hn198_3) (.bool t195)).trans hx198_0; replace hx198_1 := (cell_far (p := ⟨gb197, 3, none⟩) (by first | (rw [add_block]; exact hn198_3) | (show (Addr.add _ _).block ≠ _; rw [add_block]; exact hn198_3) | exact hn198_3) (.bool t195)).trans hx198_1; replace hx198_2 := (cell_far (p := ⟨gb197, 3, none⟩) (by first | (rw [add_block]; exact hn198_3) | (show (Addr.add _ _).block ≠ _; rw [add_block]; exact hn198_3) | exact hn198_3) (.bool t195)).trans hx198_2; (try have hy198_0 := fun (n_ : Nat) => (show ((((((w26.drewN n_).setCell ⟨gb197, 0, none⟩ (.string t192)).setCell ⟨gb197, 1, none⟩ (.int .i64 t193)).setCell ⟨gb197, 2, none⟩ (.int .i64 t194)).setCell ⟨gb197, 3, none⟩ (.bool t195))).cell? _ = some _ from hx198_0)); (try have hy198_1 := fun (n_ : Nat) => (show ((((((w26.drewN n_).setCell ⟨gb197, 0, none⟩ (.string t192)).setCell ⟨gb197, 1, none⟩ (.int .i64 t193)).setCell ⟨gb197, 2, none⟩ (.int .i64 t194)).setCell ⟨gb197, 3, none⟩ (.bool t195))).cell? _ = some _ from hx198_1)); (try have hy198_2 := fun (n_ : Nat) => (show ((((((w26.drewN n_).setCell ⟨gb197, 0, none⟩ (.string t192)).setCell ⟨gb197, 1, none⟩ (.int .i64 t193)).setCell ⟨gb197, 2, none⟩ (.int .i64 t194)).setCell ⟨gb197, 3, none⟩ (.bool t195))).cell? _ = some _ from hx198_2)); clear hn198_0; clear hn198_1; clear hn198_2; clear hn198_3; replace p198 := eq_true p198; replace q198 := eq_true q198) | (go_at_call 44; (with_reducible refine (wharfingerref10_May.calls ((rd_T44 l0 x3_1).f2) true _ A6.out).mono ?_); rintro e w28 ⟨rfl, hb⟩; have n0_ := Aside0.mk (blk_below (g := gb197) (o := .cells #[.string t192, .int .i64 t193, .int .i64 t194, .bool t195] 88 (0, 0)) (by (with_reducible repeat (first | refine blk_drewN ?_ _ | refine blk_drew ?_ | refine blk_alloc ?_ _)); refine blk_put (cs := #[.string t192, .int .i64 t193, .int .i64 t194, .bool false]) ?_ 3 _ rfl; (with_reducible repeat (first | refine blk_drewN ?_ _ | refine blk_drew ?_ | refine blk_alloc ?_ _)); refine blk_put (cs := #[.string t192, .int .i64 t193, .int .i64 0, .bool false]) ?_ 2 _ rfl; (with_reducible repeat (first | refine blk_drewN ?_ _ | refine blk_drew ?_ | refine blk_alloc ?_ _)); refine blk_put (cs := #[.string t192, .int .i64 0, .int .i64 0, .bool false]) ?_ 1 _ rfl; (with_reducible repeat (first | refine blk_drewN ?_ _ | refine blk_drew ?_ | refine blk_alloc ?_ _)); refine blk_put (cs := #[.string (⟨#[]⟩ : ByteArray), .int .i64 0, .int .i64 0, .bool false]) ?_ 0 _ rfl; (with_reducible repeat (first | refine blk_drewN ?_ _ | refine blk_drew ?_ | refine blk_alloc ?_ _)); exact BK197.out) hb); have n1_ := Aside0.mk (below_step (by repeat (first | (with_reducible first | exact HB.out | apply below_alloc | apply pw_below_drewN | apply below_drew1 | refine below_set ?_ GE197.out) | exact HB.out)) hb); clear BK197; clear HB; have BK197 := n0_; have HB := n1_; clear n0_ n1_; (try clear hb); (try clear hb2); (try clear hk); (try clear hi); have p200 : 0 ≤ (x3_1 : Int) := of_decide_eq_true (by first | (with_reducible assumption) | assumption); have q200 : x3_1 < (l0.length : Int) := of_decide_eq_true (by first | (with_reducible assumption) | assumption); obtain ⟨ad200, e200, hx200_0, hx200_1, hx200_2⟩ := at_T44 HR0.out x3_1 p200 q200; obtain rfl : ad191 = ad200 := (by injection e200); replace hx200_0 := (HB.out.cell (World.block_lt_of_cell? w _ hx200_0)).trans hx200_0; replace hx200_1 := (HB.out.cell (World.block_lt_of_cell? w _ hx200_1)).trans hx200_1; replace hx200_2 := (HB.out.cell (World.block_lt_of_cell? w _ hx200_2)).trans hx200_2; replace p200 := eq_true p200; replace q200 := eq_true q200)); try go_wp2_with (first | (go_at_call 43; (with_reducible refine (wharfingerref07_Find.calls k1 ((rd_T44 l0 x3_1).f1) t192 t193 t194 t195 false _ A5.out).mono ?_); rintro e w25 ⟨rfl, hb⟩; have n0_ := Aside0.mk (below_step (by repeat (first | (with_reducible first | exact HB.out | apply below_alloc | apply pw_below_drewN | apply below_drew1) | exact HB.out)) hb); clear HB; have HB := n0_; clear n0_; (try clear hb); (try clear hb2); (try clear hk); (try clear hi)) | ((with_reducible refine gate_dst (N := 4) rfl ?_); refine box_event ?hg (N := 4) ?hd (cs := #[.string (⟨#[]⟩ : ByteArray), .int .i64 0, .int .i64 0, .bool false]) (t := 88) ?hr ?_; (case hd => rfl); (case hg => rfl); (case hr => first | (go_simp; done) | (go_simp; rfl)); intro gb197 hg w26 hbox hb; have n0_ := Aside0.mk (below_step (by repeat (first | (with_reducible first | exact HB.out | apply below_alloc | apply pw_below_drewN | apply below_drew1) | exact HB.out)) hb); have n1_ := Aside0.mk (hbox); have n2_ := Aside0.mk ((by rw [hg]; exact (below_size (by repeat (first | (with_reducible first | exact HB.out | apply below_alloc | apply pw_below_drewN | apply below_drew1) | exact HB.out))) : w.heap.size ≤ gb197)); have n3_ := Aside0.mk ((by rw [hg]; exact (below_size (by repeat (first | (with_reducible first | exact HB.out | apply below_alloc | apply pw_below_drewN | apply below_drew1) | exact HB.out))) : w.heap.size ≤ gb197)); clear HB; have HB := n0_; have BK197 := n1_; have GW197 := n2_; have GE197 := n3_; clear n0_ n1_ n2_ n3_; clear hb hbox hg; obtain ⟨hcz27_0, hcz27_1, hcz27_2, hcz27_3⟩ := cl_4 (.string (⟨#[]⟩ : ByteArray)) (.int .i64 0) (.int .i64 0) (.bool false) BK197.out; obtain ⟨hfz27_0, hfz27_1, hfz27_2, hfz27_3⟩ := fz_4 BK197.out; have p198 : 0 ≤ (x3_1 : Int) := of_decide_eq_true (by first | (with_reducible assumption) | assumption); have q198 : x3_1 < (l0.length : Int) := of_decide_eq_true (by first | (with_reducible assumption) | assumption); obtain ⟨ad198, e198, hx198_0, hx198_1, hx198_2⟩ := at_T44 HR0.out x3_1 p198 q198; obtain rfl : ad191 = ad198 := (by injection e198); have hn198_0 : ad191.block ≠ gb197 := Nat.ne_of_lt (Nat.lt_of_lt_of_le (by have := World.block_lt_of_cell? _ _ hx198_0; first | rwa [add_block] at this | exact this) GW197.out); have hn198_1 : ad191.block ≠ gb197 := Nat.ne_of_lt (Nat.lt_of_lt_of_le (by have := World.block_lt_of_cell? _ _ hx198_0; first | rwa [add_block] at this | exact this) GW197.out); have hn198_2 : ad191.block ≠ gb197 := Nat.ne_of_lt (Nat.lt_of_lt_of_le (by have := World.block_lt_of_cell? _ _ hx198_0; first | rwa [add_block] at this | exact this) GW197.out); have hn198_3 : ad191.block ≠ gb197 := Nat.ne_of_lt (Nat.lt_of_lt_of_le (by have := World.block_lt_of_cell? _ _ hx198_0; first | rwa [add_block] at this | exact this) GW197.out); replace hx198_0 := (HB.out.cell (World.block_lt_of_cell? w _ hx198_0)).trans hx198_0; replace hx198_1 := (HB.out.cell (World.block_lt_of_cell? w _ hx198_1)).trans hx198_1; replace hx198_2 := (HB.out.cell (World.block_lt_of_cell? w _ hx198_2)).trans hx198_2; replace hx198_0 := (cell_far (p := ⟨gb197, 0, none⟩) (by first | (rw [add_block]; exact hn198_0) | (show (Addr.add _ _).block ≠ _; rw [add_block]; exact hn198_0) | exact hn198_0) (.string t192)).trans hx198_0; replace hx198_1 := (cell_far (p := ⟨gb197, 0, none⟩) (by first | (rw [add_block]; exact hn198_0) | (show (Addr.add _ _).block ≠ _; rw [add_block]; exact hn198_0) | exact hn198_0) (.string t192)).trans hx198_1; replace hx198_2 := (cell_far (p := ⟨gb197, 0, none⟩) (by first | (rw [add_block]; exact hn198_0) | (show (Addr.add _ _).block ≠ _; rw [add_block]; exact hn198_0) | exact hn198_0) (.string t192)).trans hx198_2; replace hx198_0 := (cell_far (p := ⟨gb197, 1, none⟩) (by first | (rw [add_block]; exact hn198_1) | (show (Addr.add _ _).block ≠ _; rw [add_block]; exact hn198_1) | exact hn198_1) (.int .i64 t193)).trans hx198_0; replace hx198_1 := (cell_far (p := ⟨gb197, 1, none⟩) (by first | (rw [add_block]; exact hn198_1) | (show (Addr.add _ _).block ≠ _; rw [add_block]; exact hn198_1) | exact hn198_1) (.int .i64 t193)).trans hx198_1; replace hx198_2 := (cell_far (p := ⟨gb197, 1, none⟩) (by first | (rw [add_block]; exact hn198_1) | (show (Addr.add _ _).block ≠ _; rw [add_block]; exact hn198_1) | exact hn198_1) (.int .i64 t193)).trans hx198_2; replace hx198_0 := (cell_far (p := ⟨gb197, 2, none⟩) (by first | (rw [add_block]; exact hn198_2) | (show (Addr.add _ _).block ≠ _; rw [add_block]; exact hn198_2) | exact hn198_2) (.int .i64 t194)).trans hx198_0; replace hx198_1 := (cell_far (p := ⟨gb197, 2, none⟩) (by first | (rw [add_block]; exact hn198_2) | (show (Addr.add _ _).block ≠ _; rw [add_block]; exact hn198_2) | exact hn198_2) (.int .i64 t194)).trans hx198_1; replace hx198_2 := (cell_far (p := ⟨gb197, 2, none⟩) (by first | (rw [add_block]; exact hn198_2) | (show (Addr.add _ _).block ≠ _; rw [add_block]; exact hn198_2) | exact hn198_2) (.int .i64 t194)).trans hx198_2; replace hx198_0 := (cell_far (p := ⟨gb197, 3, none⟩) (by first | (rw [add_block]; exact hn198_3) | (show (Addr.add _ _).block ≠ _; rw [add_block]; exact hn198_3) | exact hn198_3) (.bool t195)).trans hx198_0; replace hx198_1 := (cell_far (p := ⟨gb197, 3, none⟩) (by first | (rw [add_block]; exact hn198_3) | (show (Addr.add _ _).block ≠ _; rw [add_block]; exact hn198_3) | exact hn198_3) (.bool t195)).trans hx198_1; replace hx198_2 := (cell_far (p := ⟨gb197, 3, none⟩) (by first | (rw [add_block]; exact hn198_3) | (show (Addr.add _ _).block ≠ _; rw [add_block]; exact hn198_3) | exact hn198_3) (.bool t195)).trans hx198_2; (try have hy198_0 := fun (n_ : Nat) => (show ((((((w26.drewN n_).setCell ⟨gb197, 0, none⟩ (.string t192)).setCell ⟨gb197, 1, none⟩ (.int .i64 t193)).setCell ⟨gb197, 2, none⟩ (.int .i64 t194)).setCell ⟨gb197, 3, none⟩ (.bool t195))).cell? _ = some _ from hx198_0)); (try have hy198_1 := fun (n_ : Nat) => (show ((((((w26.drewN n_).setCell ⟨gb197, 0, none⟩ (.string t192)).setCell ⟨gb197, 1, none⟩ (.int .i64 t193)).setCell ⟨gb197, 2, none⟩ (.int .i64 t194)).setCell ⟨gb197, 3, none⟩ (.bool t195))).cell? _ = some _ from hx198_1)); (try have hy198_2 := fun (n_ : Nat) => (show ((((((w26.drewN n_).setCell ⟨gb197, 0, none⟩ (.string t192)).setCell ⟨gb197, 1, none⟩ (.int .i64 t193)).setCell ⟨gb197, 2, none⟩ (.int .i64 t194)).setCell ⟨gb197, 3, none⟩ (.bool t195))).cell? _ = some _ from hx198_2)); clear hn198_0; clear hn198_1; clear hn198_2; clear hn198_3; replace p198 := eq_true p198; replace q198 := eq_true q198) | (go_at_call 44; (with_reducible refine (wharfingerref10_May.calls ((rd_T44 l0 x3_1).f2) true _ A6.out).mono ?_); rintro e w28 ⟨rfl, hb⟩; have n0_ := Aside0.mk (blk_below (g := gb197) (o := .cells #[.string t192, .int .i64 t193, .int .i64 t194, .bool t195] 88 (0, 0)) (by (with_reducible repeat (first | refine blk_drewN ?_ _ | refine blk_drew ?_ | refine blk_alloc ?_ _)); refine blk_put (cs := #[.string t192, .int .i64 t193, .int .i64 t194, .bool false]) ?_ 3 _ rfl; (with_reducible repeat (first | refine blk_drewN ?_ _ | refine blk_drew ?_ | refine blk_alloc ?_ _)); refine blk_put (cs := #[.string t192, .int .i64 t193, .int .i64 0, .bool false]) ?_ 2 _ rfl; (with_reducible repeat (first | refine blk_drewN ?_ _ | refine blk_drew ?_ | refine blk_alloc ?_ _)); refine blk_put (cs := #[.string t192, .int .i64 0, .int .i64 0, .bool false]) ?_ 1 _ rfl; (with_reducible repeat (first | refine blk_drewN ?_ _ | refine blk_drew ?_ | refine blk_alloc ?_ _)); refine blk_put (cs := #[.string (⟨#[]⟩ : ByteArray), .int .i64 0, .int .i64 0, .bool false]) ?_ 0 _ rfl; (with_reducible repeat (first | refine blk_drewN ?_ _ | refine blk_drew ?_ | refine blk_alloc ?_ _)); exact BK197.out) hb); have n1_ := Aside0.mk (below_step (by repeat (first | (with_reducible first | exact HB.out | apply below_alloc | apply pw_below_drewN | apply below_drew1 | refine below_set ?_ GE197.out) | exact HB.out)) hb); clear BK197; clear HB; have BK197 := n0_; have HB := n1_; clear n0_ n1_; (try clear hb); (try clear hb2); (try clear hk); (try clear hi); have p200 : 0 ≤ (x3_1 : Int) := of_decide_eq_true (by first | (with_reducible assumption) | assumption); have q200 : x3_1 < (l0.length : Int) := of_decide_eq_true (by first | (with_reducible assumption) | assumption); obtain ⟨ad200, e200, hx200_0, hx200_1, hx200_2⟩ := at_T44 HR0.out x3_1 p200 q200; obtain rfl : ad191 = ad200 := (by injection e200); replace hx200_0 := (HB.out.cell (World.block_lt_of_cell? w _ hx200_0)).trans hx200_0; replace hx200_1 := (HB.out.cell (World.block_lt_of_cell? w _ hx200_1)).trans hx200_1; replace hx200_2 := (HB.out.cell (World.block_lt_of_cell? w _ hx200_2)).trans hx200_2; replace p200 := eq_true p200; replace q200 := eq_true q200)))
         go_ret
         exact ⟨by first | rfl | (simp [errW_none, errW_some] <;> rfl) | (simp [*, errW_none, errW_some] <;> rfl), by repeat (first | (with_reducible first | exact HB.out | apply below_alloc | apply pw_below_drewN | apply below_drew1 | refine below_set ?_ GE197.out) | exact HB.out)⟩
      ·
       replace c7 := Bool.eq_false_iff.mpr c7
       subst c7
       have H1 : (some false) = some r := by rw [if_neg (show ¬ (false = true) by decide)] at H; exact H
       clear H
       have H := H1
       clear H1
       obtain rfl := Option.some.inj H
       have p191 : 0 ≤ (x3_1 : Int) := of_decide_eq_true (by first | (with_reducible assumption) | assumption)
       have q191 : x3_1 < (l0.length : Int) := of_decide_eq_true (by first | (with_reducible assumption) | assumption)
       obtain ⟨ad191, e191, hx191_0, hx191_1, hx191_2⟩ := at_T44 HR0.out x3_1 p191 q191
       cases e191
       replace hx191_0 := (HB.out.cell (World.block_lt_of_cell? w _ hx191_0)).trans hx191_0
       replace hx191_1 := (HB.out.cell (World.block_lt_of_cell? w _ hx191_1)).trans hx191_1
       replace hx191_2 := (HB.out.cell (World.block_lt_of_cell? w _ hx191_2)).trans hx191_2
       replace p191 := eq_true p191
       replace q191 := eq_true q191
       go_wp2_with (first | (go_at_call 43; (with_reducible refine (wharfingerref07_Find.calls k1 ((rd_T44 l0 x3_1).f1) t192 t193 t194 t195 t196 _ A5.out).mono ?_); rintro e w29 ⟨rfl, hb⟩; have n0_ := Aside0.mk (below_step (by repeat (first | (with_reducible first | exact HB.out | apply below_alloc | apply pw_below_drewN | apply below_drew1) | exact HB.out)) hb); clear HB; have HB := n0_; clear n0_; (try clear hb); (try clear hb2); (try clear hk); (try clear hi)) | ((with_reducible refine gate_dst (N := 4) rfl ?_); refine box_event ?hg (N := 4) ?hd (cs := #[.string (⟨#[]⟩ : ByteArray), .int .i64 0, .int .i64 0, .bool false]) (t := 88) ?hr ?_; (case hd => rfl); (case hg => rfl); (case hr => first | (go_simp; done) | (go_simp; rfl)); intro gb197 hg w30 hbox hb; have n0_ := Aside0.mk (below_step (by repeat (first | (with_reducible first | exact HB.out | apply below_alloc | apply pw_below_drewN | apply below_drew1) | exact HB.out)) hb); have n1_ := Aside0.mk (hbox); have n2_ := Aside0.mk ((by rw [hg]; exact (below_size (by repeat (first | (with_reducible first | exact HB.out | apply below_alloc | apply pw_below_drewN | apply below_drew1) | exact HB.out))) : w.heap.size ≤ gb197)); have n3_ := Aside0.mk ((by rw [hg]; exact (below_size (by repeat (first | (with_reducible first | exact HB.out | apply below_alloc | apply pw_below_drewN | apply below_drew1) | exact HB.out))) : w.heap.size ≤ gb197)); clear HB; have HB := n0_; have BK197 := n1_; have GW197 := n2_; have GE197 := n3_; clear n0_ n1_ n2_ n3_; clear hb hbox hg; obtain ⟨hcz31_0, hcz31_1, hcz31_2, hcz31_3⟩ := cl_4 (.string (⟨#[]⟩ : ByteArray)) (.int .i64 0) (.int .i64 0) (.bool false) BK197.out; obtain ⟨hfz31_0, hfz31_1, hfz31_2, hfz31_3⟩ := fz_4 BK197.out; have p198 : 0 ≤ (x3_1 : Int) := of_decide_eq_true (by first | (with_reducible assumption) | assumption); have q198 : x3_1 < (l0.length : Int) := of_decide_eq_true (by first | (with_reducible assumption) | assumption); obtain ⟨ad198, e198, hx198_0, hx198_1, hx198_2⟩ := at_T44 HR0.out x3_1 p198 q198; obtain rfl : ad191 = ad198 := (by injection e198); have hn198_0 : ad191.block ≠ gb197 := Nat.ne_of_lt (Nat.lt_of_lt_of_le (by have := World.block_lt_of_cell? _ _ hx198_0; first | rwa [add_block] at this | exact this) GW197.out); have hn198_1 : ad191.block ≠ gb197 := Nat.ne_of_lt (Nat.lt_of_lt_of_le (by have := World.block_lt_of_cell? _ _ hx198_0; first | rwa [add_block] at this | exact this) GW197.out); have hn198_2 : ad191.block ≠ gb197 := Nat.ne_of_lt (Nat.lt_of_lt_of_le (by have := World.block_lt_of_cell? _ _ hx198_0; first | rwa [add_block] at this | exact this) GW197.out); have hn198_3 : ad191.block ≠ gb197 := Nat.ne_of_lt (Nat.lt_of_lt_of_le (by have := World.block_lt_of_cell? _ _ hx198_0; first | rwa [add_block] at this | exact this) GW197.out); replace hx198_0 := (HB.out.cell (World.block_lt_of_cell? w _ hx198_0)).trans hx198_0; replace hx198_1 := (HB.out.cell (World.block_lt_of_cell? w _ hx198_1)).trans hx198_1; replace hx198_2 := (HB.out.cell (World.block_lt_of_cell? w _ hx198_2)).trans hx198_2; replace hx198_0 := (cell_far (p := ⟨gb197, 0, none⟩) (by first | (rw [add_block]; exact hn198_0) | (show (Addr.add _ _).block ≠ _; rw [add_block]; exact hn198_0) | exact hn198_0) (.string t192)).trans hx198_0; replace hx198_1 := (cell_far (p := ⟨gb197, 0, none⟩) (by first | (rw [add_block]; exact hn198_0) | (show (Addr.add _ _).block ≠ _; rw [add_block]; exact hn198_0) | exact hn198_0) (.string t192)).trans hx198_1; replace hx198_2 := (cell_far (p := ⟨gb197, 0, none⟩) (by first | (rw [add_block]; exact hn198_0) | (show (Addr.add _ _).block ≠ _; rw [add_block]; exact hn198_0) | exact hn198_0) (.string t192)).trans hx198_2; replace hx198_0 := (cell_far (p := ⟨gb197, 1, none⟩) (by first | (rw [add_block]; exact hn198_1) | (show (Addr.add _ _).block ≠ _; rw [add_block]; exact hn198_1) | exact hn198_1) (.int .i64 t193)).trans hx198_0; replace hx198_1 := (cell_far (p := ⟨gb197, 1, none⟩) (by first | (rw [add_block]; exact hn198_1) | (show (Addr.add _ _).block ≠ _; rw [add_block]; exact hn198_1) | exact hn198_1) (.int .i64 t193)).trans hx198_1; replace hx198_2 := (cell_far (p := ⟨gb197, 1, none⟩) (by first | (rw [add_block]; exact hn198_1) | (show (Addr.add _ _).block ≠ _; rw [add_block]; exact hn198_1) | exact hn198_1) (.int .i64 t193)).trans hx198_2; replace hx198_0 := (cell_far (p := ⟨gb197, 2, none⟩) (by first | (rw [add_block]; exact hn198_2) | (show (Addr.add _ _).block ≠ _; rw [add_block]; exact hn198_2) | exact hn198_2) (.int .i64 t194)).trans hx198_0; replace hx198_1 := (cell_far (p := ⟨gb197, 2, none⟩) (by first | (rw [add_block]; exact hn198_2) | (show (Addr.add _ _).block ≠ _; rw [add_block]; exact hn198_2) | exact hn198_2) (.int .i64 t194)).trans hx198_1; replace hx198_2 := (cell_far (p := ⟨gb197, 2, none⟩) (by first | (rw [add_block]; exact hn198_2) | (show (Addr.add _ _).block ≠ _; rw [add_block]; exact hn198_2) | exact hn198_2) (.int .i64 t194)).trans hx198_2; replace hx198_0 := (cell_far (p := ⟨gb197, 3, none⟩) (by first | (rw [add_block]; exact hn198_3) | (show (Addr.add _ _).block ≠ _; rw [add_block]; exact hn198_3) | exact hn198_3) (.bool t195)).trans hx198_0; replace hx198_1 := (cell_far (p := ⟨gb197, 3, none⟩) (by first | (rw [add_block]; exact hn198_3) | (show (Addr.add _ _).block ≠ _; rw [add_block]; exact hn198_3) | exact hn198_3) (.bool t195)).trans hx198_1; replace hx198_2 := (cell_far (p := ⟨gb197, 3, none⟩) (by first | (rw [add_block]; exact hn198_3) | (show (Addr.add _ _).block ≠ _; rw [add_block]; exact hn198_3) | exact hn198_3) (.bool t195)).trans hx198_2; (try have hy198_0 := fun (n_ : Nat) => (show ((((((w30.drewN n_).setCell ⟨gb197, 0, none⟩ (.string t192)).setCell ⟨gb197, 1, none⟩ (.int .i64 t193)).setCell ⟨gb197, 2, none⟩ (.int .i64 t194)).setCell ⟨gb197, 3, none⟩ (.bool t195))).cell? _ = some _ from hx198_0)); (try have hy198_1 := fun (n_ : Nat) => (show ((((((w30.drewN n_).setCell ⟨gb197, 0, none⟩ (.string t192)).setCell ⟨gb197, 1, none⟩ (.int .i64 t193)).setCell ⟨gb197, 2, none⟩ (.int .i64 t194)).setCell ⟨gb197, 3, none⟩ (.bool t195))).cell? _ = some _ from hx198_1)); (try have hy198_2 := fun (n_ : Nat) => (show ((((((w30.drewN n_).setCell ⟨gb197, 0, none⟩ (.string t192)).setCell ⟨gb197, 1, none⟩ (.int .i64 t193)).setCell ⟨gb197, 2, none⟩ (.int .i64 t194)).setCell ⟨gb197, 3, none⟩ (.bool t195))).cell? _ = some _ from hx198_2)); clear hn198_0; clear hn198_1; clear hn198_2; clear hn198_3; replace p198 := eq_true p198; replace q198 := eq_true q198) | (go_at_call 44; (with_reducible refine (wharfingerref10_May.calls ((rd_T44 l0 x3_1).f2) false _ A6.out).mono ?_); rintro e w32 ⟨rfl, hb⟩; have n0_ := Aside0.mk (blk_below (g := gb197) (o := .cells #[.string t192, .int .i64 t193, .int .i64 t194, .bool t195] 88 (0, 0)) (by (with_reducible repeat (first | refine blk_drewN ?_ _ | refine blk_drew ?_ | refine blk_alloc ?_ _)); refine blk_put (cs := #[.string t192, .int .i64 t193, .int .i64 t194, .bool false]) ?_ 3 _ rfl; (with_reducible repeat (first | refine blk_drewN ?_ _ | refine blk_drew ?_ | refine blk_alloc ?_ _)); refine blk_put (cs := #[.string t192, .int .i64 t193, .int .i64 0, .bool false]) ?_ 2 _ rfl; (with_reducible repeat (first | refine blk_drewN ?_ _ | refine blk_drew ?_ | refine blk_alloc ?_ _)); refine blk_put (cs := #[.string t192, .int .i64 0, .int .i64 0, .bool false]) ?_ 1 _ rfl; (with_reducible repeat (first | refine blk_drewN ?_ _ | refine blk_drew ?_ | refine blk_alloc ?_ _)); refine blk_put (cs := #[.string (⟨#[]⟩ : ByteArray), .int .i64 0, .int .i64 0, .bool false]) ?_ 0 _ rfl; (with_reducible repeat (first | refine blk_drewN ?_ _ | refine blk_drew ?_ | refine blk_alloc ?_ _)); exact BK197.out) hb); have n1_ := Aside0.mk (below_step (by repeat (first | (with_reducible first | exact HB.out | apply below_alloc | apply pw_below_drewN | apply below_drew1 | refine below_set ?_ GE197.out) | exact HB.out)) hb); clear BK197; clear HB; have BK197 := n0_; have HB := n1_; clear n0_ n1_; (try clear hb); (try clear hb2); (try clear hk); (try clear hi)))
       repeat (go_quiet (first | (go_at_call 43; (with_reducible refine (wharfingerref07_Find.calls k1 ((rd_T44 l0 x3_1).f1) t192 t193 t194 t195 t196 _ A5.out).mono ?_); rintro e w29 ⟨rfl, hb⟩; have n0_ := Aside0.mk (below_step (by repeat (first | (with_reducible first | exact HB.out | apply below_alloc | apply pw_below_drewN | apply below_drew1) | exact HB.out)) hb); clear HB; have HB := n0_; clear n0_; (try clear hb); (try clear hb2); (try clear hk); (try clear hi)) | ((with_reducible refine gate_dst (N := 4) rfl ?_); refine box_event ?hg (N := 4) ?hd (cs := #[.string (⟨#[]⟩ : ByteArray), .int .i64 0, .int .i64 0, .bool false]) (t := 88) ?hr ?_; (case hd => rfl); (case hg => rfl); (case hr => first | (go_simp; done) | (go_simp; rfl)); intro gb197 hg w30 hbox hb; have n0_ := Aside0.mk (below_step (by repeat (first | (with_reducible first | exact HB.out | apply below_alloc | apply pw_below_drewN | apply below_drew1) | exact HB.out)) hb); have n1_ := Aside0.mk (hbox); have n2_ := Aside0.mk ((by rw [hg]; exact (below_size (by repeat (first | (with_reducible first | exact HB.out | apply below_alloc | apply pw_below_drewN | apply below_drew1) | exact HB.out))) : w.heap.size ≤ gb197)); have n3_ := Aside0.mk ((by rw [hg]; exact (below_size (by repeat (first | (with_reducible first | exact HB.out | apply below_alloc | apply pw_below_drewN | apply below_drew1) | exact HB.out))) : w.heap.size ≤ gb197)); clear HB; have HB := n0_; have BK197 := n1_; have GW197 := n2_; have GE197 := n3_; clear n0_ n1_ n2_ n3_; clear hb hbox hg; obtain ⟨hcz31_0, hcz31_1, hcz31_2, hcz31_3⟩ := cl_4 (.string (⟨#[]⟩ : ByteArray)) (.int .i64 0) (.int .i64 0) (.bool false) BK197.out; obtain ⟨hfz31_0, hfz31_1, hfz31_2, hfz31_3⟩ := fz_4 BK197.out; have p198 : 0 ≤ (x3_1 : Int) := of_decide_eq_true (by first | (with_reducible assumption) | assumption); have q198 : x3_1 < (l0.length : Int) := of_decide_eq_true (by first | (with_reducible assumption) | assumption); obtain ⟨ad198, e198, hx198_0, hx198_1, hx198_2⟩ := at_T44 HR0.out x3_1 p198 q198; obtain rfl : ad191 = ad198 := (by injection e198); have hn198_0 : ad191.block ≠ gb197 := Nat.ne_of_lt (Nat.lt_of_lt_of_le (by have := World.block_lt_of_cell? _ _ hx198_0; first | rwa [add_block] at this | exact this) GW197.out); have hn198_1 : ad191.block ≠ gb197 := Nat.ne_of_lt (Nat.lt_of_lt_of_le (by have := World.block_lt_of_cell? _ _ hx198_0; first | rwa [add_block] at this | exact this) GW197.out); have hn198_2 : ad191.block ≠ gb197 := Nat.ne_of_lt (Nat.lt_of_lt_of_le (by have := World.block_lt_of_cell? _ _ hx198_0; first | rwa [add_block] at this | exact this) GW197.out); have hn198_3 : ad191.block ≠ gb197 := Nat.ne_of_lt (Nat.lt_of_lt_of_le (by have := World.block_lt_of_cell? _ _ hx198_0; first | rwa [add_block] at this | exact this) GW197.out); replace hx198_0 := (HB.out.cell (World.block_lt_of_cell? w _ hx198_0)).trans hx198_0; replace hx198_1 := (HB.out.cell (World.block_lt_of_cell? w _ hx198_1)).trans hx198_1; replace hx198_2 := (HB.out.cell (World.block_lt_of_cell? w _ hx198_2)).trans hx198_2; replace hx198_0 := (cell_far (p := ⟨gb197, 0, none⟩) (by first | (rw [add_block]; exact hn198_0) | (show (Addr.add _ _).block ≠ _; rw [add_block]; exact hn198_0) | exact hn198_0) (.string t192)).trans hx198_0; replace hx198_1 := (cell_far (p := ⟨gb197, 0, none⟩) (by first | (rw [add_block]; exact hn198_0) | (show (Addr.add _ _).block ≠ _; rw [add_block]; exact hn198_0) | exact hn198_0) (.string t192)).trans hx198_1; replace hx198_2 := (cell_far (p := ⟨gb197, 0, none⟩) (by first | (rw [add_block]; exact hn198_0) | (show (Addr.add _ _).block ≠ _; rw [add_block]; exact hn198_0) | exact hn198_0) (.string t192)).trans hx198_2; replace hx198_0 := (cell_far (p := ⟨gb197, 1, none⟩) (by first | (rw [add_block]; exact hn198_1) | (show (Addr.add _ _).block ≠ _; rw [add_block]; exact hn198_1) | exact hn198_1) (.int .i64 t193)).trans hx198_0; replace hx198_1 := (cell_far (p := ⟨gb197, 1, none⟩) (by first | (rw [add_block]; exact hn198_1) | (show (Addr.add _ _).block ≠ _; rw [add_block]; exact hn198_1) | exact hn198_1) (.int .i64 t193)).trans hx198_1; replace hx198_2 := (cell_far (p := ⟨gb197, 1, none⟩) (by first | (rw [add_block]; exact hn198_1) | (show (Addr.add _ _).block ≠ _; rw [add_block]; exact hn198_1) | exact hn198_1) (.int .i64 t193)).trans hx198_2; replace hx198_0 := (cell_far (p := ⟨gb197, 2, none⟩) (by first | (rw [add_block]; exact hn198_2) | (show (Addr.add _ _).block ≠ _; rw [add_block]; exact hn198_2) | exact hn198_2) (.int .i64 t194)).trans hx198_0; replace hx198_1 := (cell_far (p := ⟨gb197, 2, none⟩) (by first | (rw [add_block]; exact hn198_2) | (show (Addr.add _ _).block ≠ _; rw [add_block]; exact hn198_2) | exact hn198_2) (.int .i64 t194)).trans hx198_1; replace hx198_2 := (cell_far (p := ⟨gb197, 2, none⟩) (by first | (rw [add_block]; exact hn198_2) | (show (Addr.add _ _).block ≠ _; rw [add_block]; exact hn198_2) | exact hn198_2) (.int .i64 t194)).trans hx198_2; replace hx198_0 := (cell_far (p := ⟨gb197, 3, none⟩) (by first | (rw [add_block]; exact hn198_3) | (show (Addr.add _ _).block ≠ _; rw [add_block]; exact hn198_3) | exact hn198_3) (.bool t195)).trans hx198_0; replace hx198_1 := (cell_far (p := ⟨gb197, 3, none⟩) (by first | (rw [add_block]; exact hn198_3) | (show (Addr.add _ _).block ≠ _; rw [add_block]; exact hn198_3) | exact hn198_3) (.bool t195)).trans hx198_1; replace hx198_2 := (cell_far (p := ⟨gb197, 3, none⟩) (by first | (rw [add_block]; exact hn198_3) | (show (Addr.add _ _).block ≠ _; rw [add_block]; exact hn198_3) | exact hn198_3) (.bool t195)).trans hx198_2; (try have hy198_0 := fun (n_ : Nat) => (show ((((((w30.drewN n_).setCell ⟨gb197, 0, none⟩ (.string t192)).setCell ⟨gb197, 1, none⟩ (.int .i64 t193)).setCell ⟨gb197, 2, none⟩ (.int .i64 t194)).setCell ⟨gb197, 3, none⟩ (.bool t195))).cell? _ = some _ from hx198_0)); (try have hy198_1 := fun (n_ : Nat) => (show ((((((w30.drewN n_).setCell ⟨gb197, 0, none⟩ (.string t192)).setCell ⟨gb197, 1, none⟩ (.int .i64 t193)).setCell ⟨gb197, 2, none⟩ (.int .i64 t194)).setCell ⟨gb197, 3, none⟩ (.bool t195))).cell? _ = some _ from hx198_1)); (try have hy198_2 := fun (n_ : Nat) => (show ((((((w30.drewN n_).setCell ⟨gb197, 0, none⟩ (.string t192)).setCell ⟨gb197, 1, none⟩ (.int .i64 t193)).setCell ⟨gb197, 2, none⟩ (.int .i64 t194)).setCell ⟨gb197, 3, none⟩ (.bool t195))).cell? _ = some _ from hx198_2)); clear hn198_0; clear hn198_1; clear hn198_2; clear hn198_3; replace p198 := eq_true p198; replace q198 := eq_true q198) | (go_at_call 44; (with_reducible refine (wharfingerref10_May.calls ((rd_T44 l0 x3_1).f2) false _ A6.out).mono ?_); rintro e w32 ⟨rfl, hb⟩; have n0_ := Aside0.mk (blk_below (g := gb197) (o := .cells #[.string t192, .int .i64 t193, .int .i64 t194, .bool t195] 88 (0, 0)) (by (with_reducible repeat (first | refine blk_drewN ?_ _ | refine blk_drew ?_ | refine blk_alloc ?_ _)); refine blk_put (cs := #[.string t192, .int .i64 t193, .int .i64 t194, .bool false]) ?_ 3 _ rfl; (with_reducible repeat (first | refine blk_drewN ?_ _ | refine blk_drew ?_ | refine blk_alloc ?_ _)); refine blk_put (cs := #[.string t192, .int .i64 t193, .int .i64 0, .bool false]) ?_ 2 _ rfl; (with_reducible repeat (first | refine blk_drewN ?_ _ | refine blk_drew ?_ | refine blk_alloc ?_ _)); refine blk_put (cs := #[.string t192, .int .i64 0, .int .i64 0, .bool false]) ?_ 1 _ rfl; (with_reducible repeat (first | refine blk_drewN ?_ _ | refine blk_drew ?_ | refine blk_alloc ?_ _)); refine blk_put (cs := #[.string (⟨#[]⟩ : ByteArray), .int .i64 0, .int .i64 0, .bool false]) ?_ 0 _ rfl; (with_reducible repeat (first | refine blk_drewN ?_ _ | refine blk_drew ?_ | refine blk_alloc ?_ _)); exact BK197.out) hb); have n1_ := Aside0.mk (below_step (by repeat (first | (with_reducible first | exact HB.out | apply below_alloc | apply pw_below_drewN | apply below_drew1 | refine below_set ?_ GE197.out) | exact HB.out)) hb); clear BK197; clear HB; have BK197 := n0_; have HB := n1_; clear n0_ n1_; (try clear hb); (try clear hb2); (try clear hk); (try clear hi))); try go_wp2_with (first | (go_at_call 43; (with_reducible refine (wharfingerref07_Find.calls k1 ((rd_T44 l0 x3_1).f1) t192 t193 t194 t195 t196 _ A5.out).mono ?_); rintro e w29 ⟨rfl, hb⟩; have n0_ := Aside0.mk (below_step (by repeat (first | (with_reducible first | exact HB.out | apply below_alloc | apply pw_below_drewN | apply below_drew1) | exact HB.out)) hb); clear HB; have HB := n0_; clear n0_; (try clear hb); (try clear hb2); (try clear hk); (try clear hi)) | ((with_reducible refine gate_dst (N := 4) rfl ?_); refine box_event ?hg (N := 4) ?hd (cs := #[.string (⟨#[]⟩ : ByteArray), .int .i64 0, .int .i64 0, .bool false]) (t := 88) ?hr ?_; (case hd => rfl); (case hg => rfl); (case hr => first | (go_simp; done) | (go_simp; rfl)); intro gb197 hg w30 hbox hb; have n0_ := Aside0.mk (below_step (by repeat (first | (with_reducible first | exact HB.out | apply below_alloc | apply pw_below_drewN | apply below_drew1) | exact HB.out)) hb); have n1_ := Aside0.mk (hbox); have n2_ := Aside0.mk ((by rw [hg]; exact (below_size (by repeat (first | (with_reducible first | exact HB.out | apply below_alloc | apply pw_below_drewN | apply below_drew1) | exact HB.out))) : w.heap.size ≤ gb197)); have n3_ := Aside0.mk ((by rw [hg]; exact (below_size (by repeat (first | (with_reducible first | exact HB.out | apply below_alloc | apply pw_below_drewN | apply below_drew1) | exact HB.out))) : w.heap.size ≤ gb197)); clear HB; have HB := n0_; have BK197 := n1_; have GW197 := n2_; have GE197 := n3_; clear n0_ n1_ n2_ n3_; clear hb hbox hg; obtain ⟨hcz31_0, hcz31_1, hcz31_2, hcz31_3⟩ := cl_4 (.string (⟨#[]⟩ : ByteArray)) (.int .i64 0) (.int .i64 0) (.bool false) BK197.out; obtain ⟨hfz31_0, hfz31_1, hfz31_2, hfz31_3⟩ := fz_4 BK197.out; have p198 : 0 ≤ (x3_1 : Int) := of_decide_eq_true (by first | (with_reducible assumption) | assumption); have q198 : x3_1 < (l0.length : Int) := of_decide_eq_true (by first | (with_reducible assumption) | assumption); obtain ⟨ad198, e198, hx198_0, hx198_1, hx198_2⟩ := at_T44 HR0.out x3_1 p198 q198; obtain rfl : ad191 = ad198 := (by injection e198); have hn198_0 : ad191.block ≠ gb197 := Nat.ne_of_lt (Nat.lt_of_lt_of_le (by have := World.block_lt_of_cell? _ _ hx198_0; first | rwa [add_block] at this | exact this) GW197.out); have hn198_1 : ad191.block ≠ gb197 := Nat.ne_of_lt (Nat.lt_of_lt_of_le (by have := World.block_lt_of_cell? _ _ hx198_0; first | rwa [add_block] at this | exact this) GW197.out); have hn198_2 : ad191.block ≠ gb197 := Nat.ne_of_lt (Nat.lt_of_lt_of_le (by have := World.block_lt_of_cell? _ _ hx198_0; first | rwa [add_block] at this | exact this) GW197.out); have hn198_3 : ad191.block ≠ gb197 := Nat.ne_of_lt (Nat.lt_of_lt_of_le (by have := World.block_lt_of_cell? _ _ hx198_0; first | rwa [add_block] at this | exact this) GW197.out); replace hx198_0 := (HB.out.cell (World.block_lt_of_cell? w _ hx198_0)).trans hx198_0; replace hx198_1 := (HB.out.cell (World.block_lt_of_cell? w _ hx198_1)).trans hx198_1; replace hx198_2 := (HB.out.cell (World.block_lt_of_cell? w _ hx198_2)).trans hx198_2; replace hx198_0 := (cell_far (p := ⟨gb197, 0, none⟩) (by first | (rw [add_block]; exact hn198_0) | (show (Addr.add _ _).block ≠ _; rw [add_block]; exact hn198_0) | exact hn198_0) (.string t192)).trans hx198_0; replace hx198_1 := (cell_far (p := ⟨gb197, 0, none⟩) (by first | (rw [add_block]; exact hn198_0) | (show (Addr.add _ _).block ≠ _; rw [add_block]; exact hn198_0) | exact hn198_0) (.string t192)).trans hx198_1; replace hx198_2 := (cell_far (p := ⟨gb197, 0, none⟩) (by first | (rw [add_block]; exact hn198_0) | (show (Addr.add _ _).block ≠ _; rw [add_block]; exact hn198_0) | exact hn198_0) (.string t192)).trans hx198_2; replace hx198_0 := (cell_far (p := ⟨gb197, 1, none⟩) (by first | (rw [add_block]; exact hn198_1) | (show (Addr.add _ _).block ≠ _; rw [add_block]; exact hn198_1) | exact hn198_1) (.int .i64 t193)).trans hx198_0; replace hx198_1 := (cell_far (p := ⟨gb197, 1, none⟩) (by first | (rw [add_block]; exact hn198_1) | (show (Addr.add _ _).block ≠ _; rw [add_block]; exact hn198_1) | exact hn198_1) (.int .i64 t193)).trans hx198_1; replace hx198_2 := (cell_far (p := ⟨gb197, 1, none⟩) (by first | (rw [add_block]; exact hn198_1) | (show (Addr.add _ _).block ≠ _; rw [add_block]; exact hn198_1) | exact hn198_1) (.int .i64 t193)).trans hx198_2; replace hx198_0 := (cell_far (p := ⟨gb197, 2, none⟩) (by first | (rw [add_block]; exact hn198_2) | (show (Addr.add _ _).block ≠ _; rw [add_block]; exact hn198_2) | exact hn198_2) (.int .i64 t194)).trans hx198_0; replace hx198_1 := (cell_far (p := ⟨gb197, 2, none⟩) (by first | (rw [add_block]; exact hn198_2) | (show (Addr.add _ _).block ≠ _; rw [add_block]; exact hn198_2) | exact hn198_2) (.int .i64 t194)).trans hx198_1; replace hx198_2 := (cell_far (p := ⟨gb197, 2, none⟩) (by first | (rw [add_block]; exact hn198_2) | (show (Addr.add _ _).block ≠ _; rw [add_block]; exact hn198_2) | exact hn198_2) (.int .i64 t194)).trans hx198_2; replace hx198_0 := (cell_far (p := ⟨gb197, 3, none⟩) (by first | (rw [add_block]; exact hn198_3) | (show (Addr.add _ _).block ≠ _; rw [add_block]; exact hn198_3) | exact hn198_3) (.bool t195)).trans hx198_0; replace hx198_1 := (cell_far (p := ⟨gb197, 3, none⟩) (by first | (rw [add_block]; exact hn198_3) | (show (Addr.add _ _).block ≠ _; rw [add_block]; exact hn198_3) | exact hn198_3) (.bool t195)).trans hx198_1; replace hx198_2 := (cell_far (p := ⟨gb197, 3, none⟩) (by first | (rw [add_block]; exact hn198_3) | (show (Addr.add _ _).block ≠ _; rw [add_block]; exact hn198_3) | exact hn198_3) (.bool t195)).trans hx198_2; (try have hy198_0 := fun (n_ : Nat) => (show ((((((w30.drewN n_).setCell ⟨gb197, 0, none⟩ (.string t192)).setCell ⟨gb197, 1, none⟩ (.int .i64 t193)).setCell ⟨gb197, 2, none⟩ (.int .i64 t194)).setCell ⟨gb197, 3, none⟩ (.bool t195))).cell? _ = some _ from hx198_0)); (try have hy198_1 := fun (n_ : Nat) => (show ((((((w30.drewN n_).setCell ⟨gb197, 0, none⟩ (.string t192)).setCell ⟨gb197, 1, none⟩ (.int .i64 t193)).setCell ⟨gb197, 2, none⟩ (.int .i64 t194)).setCell ⟨gb197, 3, none⟩ (.bool t195))).cell? _ = some _ from hx198_1)); (try have hy198_2 := fun (n_ : Nat) => (show ((((((w30.drewN n_).setCell ⟨gb197, 0, none⟩ (.string t192)).setCell ⟨gb197, 1, none⟩ (.int .i64 t193)).setCell ⟨gb197, 2, none⟩ (.int .i64 t194)).setCell ⟨gb197, 3, none⟩ (.bool t195))).cell? _ = some _ from hx198_2)); clear hn198_0; clear hn198_1; clear hn198_2; clear hn198_3; replace p198 := eq_true p198; replace q198 := eq_true q198) | (go_at_call 44; (with_reducible refine (wharfingerref10_May.calls ((rd_T44 l0 x3_1).f2) false _ A6.out).mono ?_); rintro e w32 ⟨rfl, hb⟩; have n0_ := Aside0.mk (blk_below (g := gb197) (o := .cells #[.string t192, .int .i64 t193, .int .i64 t194, .bool t195] 88 (0, 0)) (by (with_reducible repeat (first | refine blk_drewN ?_ _ | refine blk_drew ?_ | refine blk_alloc ?_ _)); refine blk_put (cs := #[.string t192, .int .i64 t193, .int .i64 t194, .bool false]) ?_ 3 _ rfl; (with_reducible repeat (first | refine blk_drewN ?_ _ | refine blk_drew ?_ | refine blk_alloc ?_ _)); refine blk_put (cs := #[.string t192, .int .i64 t193, .int .i64 0, .bool false]) ?_ 2 _ rfl; (with_reducible repeat (first | refine blk_drewN ?_ _ | refine blk_drew ?_ | refine blk_alloc ?_ _)); refine blk_put (cs := #[.string t192, .int .i64 0, .int .i64 0, .bool false]) ?_ 1 _ rfl; (with_reducible repeat (first | refine blk_drewN ?_ _ | refine blk_drew ?_ | refine blk_alloc ?_ _)); refine blk_put (cs := #[.string (⟨#[]⟩ : ByteArray), .int .i64 0, .int .i64 0, .bool false]) ?_ 0 _ rfl; (with_reducible repeat (first | refine blk_drewN ?_ _ | refine blk_drew ?_ | refine blk_alloc ?_ _)); exact BK197.out) hb); have n1_ := Aside0.mk (below_step (by repeat (first | (with_reducible first | exact HB.out | apply below_alloc | apply pw_below_drewN | apply below_drew1 | refine below_set ?_ GE197.out) | exact HB.out)) hb); clear BK197; clear HB; have BK197 := n0_; have HB := n1_; clear n0_ n1_; (try clear hb); (try clear hb2); (try clear hk); (try clear hi))))
       go_ret
       exact ⟨by first | rfl | (simp [errW_none, errW_some] <;> rfl) | (simp [*, errW_none, errW_some] <;> rfl), by repeat (first | (with_reducible first | exact HB.out | apply below_alloc | apply pw_below_drewN | apply below_drew1 | refine below_set ?_ GE197.out) | exact HB.out)⟩
     ·
      rw [if_neg c4] at H
      exact absurd H (by simp)
    ·
     rw [if_neg c3] at H
     have c3b0 : decide (x3_1 < (l0.length : Int)) = false := decide_eq_false c3
     clear c3
     obtain rfl := Option.some.inj H
     go_wp2
     repeat (go_quiet (fail); try go_wp2)
     go_ret
     exact ⟨by first | rfl | (simp [errW_none, errW_some] <;> rfl) | (simp [*, errW_none, errW_some] <;> rfl), by repeat (first | (with_reducible first | exact HB.out | apply below_alloc | apply pw_below_drewN | apply below_drew1) | exact HB.out)⟩

end Go.Proofs.YtajaedebndeajaaDoor.Q

namespace Go.Proofs.YtajaedebndeajaaDoor.Pure
open Go Go.RowKit Go.Proofs.YtajaedebndeajaaDoor.Q Go.Proofs.YtajaedebndeajaaDoor.Quad Go.Proofs.YtajaedebndeajaaDoorW.PrintWords Go.Proofs.YtajaedebndeajaaDoorW.PrintLast Go.Proofs.YtajaedebndeajaaDoorW.PrintMore
set_option linter.unusedVariables false
set_option linter.unusedSimpArgs false

theorem wrap_up {i : Nat} (h : i < 1000000000) : wrap64 ((i : Int) + 1) = ((i + 1 : Nat) : Int) := by unfold wrap64; omega
theorem up_next (l : List UInt8) (i : Nat) (h : i < l.length) : upper (l.take (i + 1)) = upper (l.take i) ++ [upB l[i]] := by
  rw [List.take_succ_eq_append_getElem h, upper, upper, List.map_append]; rfl
theorem str1 (c : UInt8) (x : Int) (h : x = (c.toNat : Int)) : strOfNums [x] = ⟨#[c]⟩ := by
  apply ByteArray.ext; apply Array.ext'
  rw [strOfNums_data]
  simp [h]
theorem app1 (l : List UInt8) (c : UInt8) : (⟨l.toArray⟩ : ByteArray) ++ ⟨#[c]⟩ = ⟨(l ++ [c]).toArray⟩ := by
  apply ByteArray.ext; apply Array.ext'; simp
theorem upper_ev (s : ByteArray) (hs : s.size ≤ 1000000) : Ev (fun k => wharfingerref07_Upper.f k s) ⟨(upper s.data.toList).toArray⟩ := by
  have hl := data_length s
  have key : ∀ d i : Nat, i + d = s.size → Ev (fun k => wharfingerref07_Upper.l0 k s ⟨(upper (s.data.toList.take i)).toArray⟩ (i : Int)) ⟨(upper s.data.toList).toArray⟩ := by
    intro d
    induction d with
    | zero =>
      intro i hi
      refine Ev.step (f := fun _ => some ⟨(upper s.data.toList).toArray⟩) (fun k => ?_) (Ev.now _)
      simp only [wharfingerref07_Upper.l0]
      rw [if_neg (by omega), List.take_of_length_le (by omega)]
    | succ d ih =>
      intro i hi
      have hlt : i < s.data.toList.length := by omega
      have hb := bt_byte s i hlt
      obtain ⟨c, hc⟩ : ∃ c, c = s.data.toList[i] := ⟨_, rfl⟩
      rw [← hc] at hb
      have hc8 : c.toNat < 256 := c.toNat_lt
      have hz : (⟨(upper (s.data.toList.take i)).toArray⟩ : ByteArray).size = i := by
        show (upper (s.data.toList.take i)).toArray.size = i
        simp [upper]; omega
      have e1 : ∀ x : UInt8, (⟨#[x]⟩ : ByteArray).size = 1 := fun _ => rfl
      have h2 := ih (i + 1) (by omega)
      rw [up_next _ i hlt, ← hc, ← app1] at h2
      refine Ev.step (fun k => ?_) h2
      simp only [wharfingerref07_Upper.l0]
      rw [if_pos (by omega), if_pos (by omega), wrap_up (by omega), hb]
      by_cases h1 : 97 ≤ c.toNat ∧ c.toNat ≤ 122
      · rw [if_pos (by omega), if_pos (by omega)]
        simp only [Option.bind_some]
        rw [str1 (upB c) _ (by rw [upB_low c h1.1 h1.2]; omega), hz, e1, if_pos (by omega)]
      · rw [upB_else c h1]
        by_cases h3 : (97 : Int) ≤ c.toNat
        · rw [if_pos (by omega), if_neg (by omega)]
          simp only [Option.bind_some]
          rw [str1 c _ rfl, hz, e1, if_pos (by omega)]
        · rw [if_neg (by omega)]
          simp only [Option.bind_some]
          rw [str1 c _ rfl, hz, e1, if_pos (by omega)]
  exact key s.size 0 (by omega)
/-- What a look-up answers. -/
def foundV : Option S88 → ByteArray × Int × Int × Bool × Bool
  | some v => (v.f0, v.f1, v.f2, v.f3, true)
  | none => (⟨#[]⟩, 0, 0, false, false)
theorem rd_verb (l : List S88) (i : Nat) (h : i < l.length) : rd_T88 l (i : Int) = l[i] := by
  rw [rd_T88, Int.toNat_natCast, List.getD_eq_getElem?_getD, List.getElem?_eq_getElem h]; rfl
theorem rd_rule (l : List S44) (i : Nat) (h : i < l.length) : rd_T44 l (i : Int) = l[i] := by
  rw [rd_T44, Int.toNat_natCast, List.getD_eq_getElem?_getD, List.getElem?_eq_getElem h]; rfl
theorem find_l0 (l : List S88) (u : List UInt8) (hl : l.length ≤ 1000000) : ∀ d i : Nat, i + d = l.length → Ev (fun k => wharfingerref07_Find.l0 k l ⟨u.toArray⟩ (i : Int)) (foundV ((l.drop i).find? fun v => v.f0.data.toList == u)) := by
  intro d
  induction d with
  | zero =>
    intro i hi
    refine Ev.step (f := fun _ => some (foundV none)) (fun k => ?_) (by rw [List.drop_of_length_le (by omega)]; exact Ev.now _)
    simp only [wharfingerref07_Find.l0]
    rw [if_neg (by omega)]; rfl
  | succ d ih =>
    intro i hi
    have hlt : i < l.length := by omega
    rw [List.drop_eq_getElem_cons hlt, List.find?_cons]
    by_cases h : (l[i]).f0.data.toList = u
    · refine Ev.step (f := fun _ => some (foundV (some l[i]))) (fun k => ?_) (by rw [show ((l[i]).f0.data.toList == u) = true from by simpa using h]; exact Ev.now _)
      simp only [wharfingerref07_Find.l0]
      rw [if_pos (by omega), if_pos (by omega), rd_verb l i hlt, if_pos (by rw [ByteArray.toList_eq, ByteArray.toList_eq]; exact h)]; rfl
    · rw [show ((l[i]).f0.data.toList == u) = false from by simpa using h]
      refine Ev.step (fun k => ?_) (ih (i + 1) (by omega))
      simp only [wharfingerref07_Find.l0]
      rw [if_pos (by omega), if_pos (by omega), rd_verb l i hlt, if_neg (by rw [ByteArray.toList_eq, ByteArray.toList_eq]; exact h), wrap_up (by omega)]
theorem ref_find (s : ByteArray) (hs : s.size ≤ 1000000) : Ev (fun k => wharfingerref07_Find.f k s) (foundV (findV s.data.toList)) := by
  have h1 := upper_ev s hs
  have h2 := find_l0 tableS (upper s.data.toList) (by rw [tableS_len]; decide) tableS.length 0 (by omega)
  rw [List.drop_zero] at h2
  unfold wharfingerref07_Find.f
  exact Ev.bind (g := fun _ => wharfingerref07_All.f) (f := fun k t140 => (wharfingerref07_Upper.f k s).bind fun t143 => wharfingerref07_Find.l0 k t140 t143 0) (Ev.now tableS) (Ev.bind h1 h2)
theorem verb_find (s : ByteArray) (hs : s.size ≤ 1000000) : verb_Find.f s = some (foundV (findV s.data.toList)) := by
  rw [verb_Find.f, if_pos hs]
  cases findV s.data.toList <;> rfl
/-- Is a text a verb's name? -/
def knownS (s : ByteArray) : Bool := (foundV (findV s.data.toList)).2.2.2.2 && ((foundV (findV s.data.toList)).1.toList == s.toList)
theorem known_is (s : ByteArray) (hs : s.size ≤ 1000000) : acl_known.f s = some (knownS s) := by
  rw [acl_known.f, verb_find s hs, knownS]
  simp only [Option.bind_some]
  cases (foundV (findV s.data.toList)).2.2.2.2 <;> rfl
def okS (x : S44) : Bool := (x.f1.toList == [] || knownS x.f1) && PathP.may x.f2.data.toList
def mayS (l : List S44) : Bool := l.all okS && decide (l.length ≤ 8)
def okL (l : List S44) : Prop := l.length ≤ 1000000 ∧ ∀ x ∈ l, x.f1.size ≤ 1000000 ∧ x.f2.size ≤ 1000000
theorem path_may_is (s : ByteArray) (hs : s.size ≤ 1000000) : path_May.f s = some (PathP.may s.data.toList) := if_pos hs
theorem rpath_may_is (s : ByteArray) (hs : s.size ≤ 1000000) : wharfingerref10_May.f s = some (PathP.may s.data.toList) := if_pos hs
theorem may_l0 (l : List S44) (hl : okL l) : ∀ d i : Nat, i + d = l.length → Ev (fun k => acl_May.l0 k l l (l.length : Int) (i : Int)) ((l.drop i).all okS && decide (l.length ≤ 8)) := by
  have hl6 := hl.1
  intro d
  induction d with
  | zero =>
    intro i hi
    refine Ev.step (f := fun _ => some (decide (l.length ≤ 8))) (fun k => ?_) (by rw [List.drop_of_length_le (by omega)]; exact Ev.now _)
    simp only [acl_May.l0]
    rw [if_neg (by omega)]
    congr 1
    rw [Bool.eq_iff_iff, decide_eq_true_iff, decide_eq_true_iff]; omega
  | succ d ih =>
    intro i hi
    have hlt : i < l.length := by omega
    have hx := hl.2 l[i] (List.getElem_mem _)
    rw [List.drop_eq_getElem_cons hlt, List.all_cons]
    have hst : ∀ k, acl_May.l0 (k + 1) l l (l.length : Int) (i : Int) = if okS l[i] = true then acl_May.l0 k l l (l.length : Int) ((i + 1 : Nat) : Int) else some false := fun k => by
      simp only [acl_May.l0]
      rw [if_pos (by omega), if_pos (by omega), if_pos (by omega), rd_rule l i hlt, wrap_up (by omega), path_may_is _ hx.2, known_is _ hx.1, okS]
      simp only [Option.bind_some]
      by_cases h1 : (l[i]).f1.toList = []
      · rw [if_pos h1, show ((l[i]).f1.toList == []) = true from by simpa using h1]
        cases PathP.may (l[i]).f2.data.toList <;> rfl
      · rw [if_neg h1, show ((l[i]).f1.toList == []) = false from beq_eq_false_iff_ne.2 h1]
        cases knownS (l[i]).f1 <;> cases PathP.may (l[i]).f2.data.toList <;> rfl
    cases h : okS l[i]
    · refine Ev.step (f := fun _ => some false) (fun k => ?_) (Ev.now _)
      rw [hst, h]; rfl
    · refine Ev.step (fun k => ?_) (ih (i + 1) (by omega))
      rw [hst, h]; rfl
theorem may_ev (l : List S44) (hl : okL l) : Ev (fun k => acl_May.f k l) (mayS l) := by
  have := may_l0 l hl l.length 0 (by omega)
  rwa [List.drop_zero] at this
theorem rmay_l0 (l : List S44) (hl : okL l) : ∀ d i : Nat, i + d = l.length → Ev (fun k => wharfingerref11_May.l0 k l (i : Int)) ((l.drop i).all okS) := by
  have hl6 := hl.1
  intro d
  induction d with
  | zero =>
    intro i hi
    refine Ev.step (f := fun _ => some true) (fun k => ?_) (by rw [List.drop_of_length_le (by omega)]; exact Ev.now _)
    simp only [wharfingerref11_May.l0]
    rw [if_neg (by omega)]
  | succ d ih =>
    intro i hi
    have hlt : i < l.length := by omega
    have hx := hl.2 l[i] (List.getElem_mem _)
    rw [List.drop_eq_getElem_cons hlt, List.all_cons]
    have hf := ref_find (l[i]).f1 hx.1
    refine Ev.step (g := fun k => wharfingerref11_May.l0 k l (i : Int)) (f := fun k => (wharfingerref07_Find.f k (l[i]).f1).bind fun b => if PathP.may (l[i]).f2.data.toList = true then (if (l[i]).f1.toList = [] then wharfingerref11_May.l0 k l ((i + 1 : Nat) : Int) else if b.2.2.2.2 = true then (if b.1.toList = (l[i]).f1.toList then wharfingerref11_May.l0 k l ((i + 1 : Nat) : Int) else some false) else some false) else some false) (fun k => ?_) ?_
    · simp only [wharfingerref11_May.l0]
      rw [if_pos (by omega), if_pos (by omega), rd_rule l i hlt, wrap_up (by omega), rpath_may_is _ hx.2]
      simp only [Option.bind_some]
    · refine Ev.bind hf ?_
      have ih1 := ih (i + 1) (by omega)
      by_cases h1 : (l[i]).f1.toList = []
      · have e : okS l[i] = PathP.may (l[i]).f2.data.toList := by rw [okS, show ((l[i]).f1.toList == []) = true from by simpa using h1]; rfl
        rw [e]
        simp only [if_pos h1]
        cases PathP.may (l[i]).f2.data.toList
        · exact Ev.now _
        · exact ih1
      · have e : okS l[i] = (((foundV (findV (l[i]).f1.data.toList)).2.2.2.2 && ((foundV (findV (l[i]).f1.data.toList)).1.toList == (l[i]).f1.toList)) && PathP.may (l[i]).f2.data.toList) := by
          rw [okS, show ((l[i]).f1.toList == []) = false from beq_eq_false_iff_ne.2 h1, knownS]; rfl
        rw [e]
        simp only [if_neg h1]
        cases PathP.may (l[i]).f2.data.toList
        · rw [Bool.and_false, Bool.false_and]
          simp only [Bool.false_eq_true, if_false]
          exact Ev.now _
        · rw [Bool.and_true]
          simp only [if_true]
          cases (foundV (findV (l[i]).f1.data.toList)).2.2.2.2
          · simp only [Bool.false_eq_true, if_false, Bool.false_and]
            exact Ev.now _
          · simp only [if_true, Bool.true_and]
            by_cases h2 : (foundV (findV (l[i]).f1.data.toList)).1.toList = (l[i]).f1.toList
            · simp only [if_pos h2, show ((foundV (findV (l[i]).f1.data.toList)).1.toList == (l[i]).f1.toList) = true from by simpa using h2, Bool.true_and]
              exact ih1
            · simp only [if_neg h2, show ((foundV (findV (l[i]).f1.data.toList)).1.toList == (l[i]).f1.toList) = false from beq_eq_false_iff_ne.2 h2, Bool.false_and]
              exact Ev.now _
theorem rmay_ev (l : List S44) (hl : okL l) : Ev (fun k => wharfingerref11_May.f k l) (mayS l) := by
  unfold wharfingerref11_May.f mayS
  by_cases h : l.length ≤ 8
  · simp only [if_neg (show ¬ ((l.length : Int) > 8) by omega), decide_eq_true h, Bool.and_true]
    have := rmay_l0 l hl l.length 0 (by omega)
    rwa [List.drop_zero] at this
  · simp only [if_pos (show (l.length : Int) > 8 by omega), decide_eq_false h, Bool.and_false]
    exact Ev.now _

/-! ### which rule tells -/
end Go.Proofs.YtajaedebndeajaaDoor.Pure

namespace Go.Proofs.YtajaedebndeajaaDoor.Q
open Go Go.RowKit Go.Proofs.YtajaedebndeajaaDoorW.PrintWords Go.Proofs.YtajaedebndeajaaDoorW.PrintLast Go.Proofs.YtajaedebndeajaaDoorW.PrintMore Go.Proofs.YtajaedebndeajaaDoor.AclMet
set_option linter.unusedVariables false
set_option linter.unusedSimpArgs false

theorem drawn_same (w : World) : Drawn0 w w := Drawn0.refl w
def strings_IndexByte.f (a0 : ByteArray) (a1 : Int) : Option Int := some (Lib.indexByte a0.data.toList a1.toNat.toUInt8)
theorem strings_IndexByte.calls (a0 : ByteArray) (a1 : Int) (r : Int) (w : World) (h : strings_IndexByte.f a0 a1 = some r) :
    Calls Tryd.prog 48 #[.string a0, .int .u8 a1] w fun e w' => e = .returned (.int .i64 r) ∧ Drawn0 w w' := by
  obtain rfl := Option.some.inj h
  exact (Tryd.strings_IndexByte a0 a1 w).mono fun e w' ⟨he, hw⟩ => ⟨he, hw ▸ drawn_same w⟩
def strings_Contains.f (a0 a1 : ByteArray) : Option Bool := match a1.data.toList with
  | [c] => some (decide (0 ≤ Lib.indexByte a0.data.toList c))
  | _ => none
theorem strings_Contains.calls (a0 a1 : ByteArray) (r : Bool) (w : World) (h : strings_Contains.f a0 a1 = some r) :
    Calls Tryd.prog 47 #[.string a0, .string a1] w fun e w' => e = .returned (.bool r) ∧ Drawn0 w w' := by
  unfold strings_Contains.f at h
  split at h
  · rename_i c hc
    obtain rfl := Option.some.inj h
    have e1 : a1 = ⟨#[c]⟩ := by apply ByteArray.ext; apply Array.ext'; exact hc
    subst e1
    exact (Tryd.strings_Contains_one a0 c w).mono fun e w' ⟨he, hw⟩ => ⟨he, hw ▸ drawn_same w⟩
  · cases h
end Go.Proofs.YtajaedebndeajaaDoor.Q

namespace Go.Proofs.YtajaedebndeajaaDoor.Q
open Go Go.RowKit Go.Proofs.YtajaedebndeajaaDoorW.PrintWords Go.Proofs.YtajaedebndeajaaDoorW.PrintLast Go.Proofs.YtajaedebndeajaaDoorW.PrintMore Go.Proofs.YtajaedebndeajaaDoor.AclMet
set_option linter.unusedVariables false
set_option linter.unusedSimpArgs false

def isHost (host : ByteArray) (x : S40) : Bool := x.f1.toList == host.toList
def findI (l : List S40) (host : ByteArray) : Int := match l.findIdx? (isHost host) with
  | some i => (i : Int)
  | none => -1
theorem findI_hit {l : List S40} {host : ByteArray} {k : Nat} (h : ∀ x ∈ l.take k, isHost host x = false) (hk : k < l.length) (hx : isHost host l[k] = true) : findI l host = k := by
  have e : l.findIdx? (isHost host) = some k := by
    rw [List.findIdx?_eq_some_iff_getElem]
    refine ⟨hk, hx, fun j hj => ?_⟩
    rw [h l[j] (List.mem_take_iff_getElem.2 ⟨j, by omega, rfl⟩)]
    exact Bool.false_ne_true
  rw [findI, e]
theorem findI_none {l : List S40} {host : ByteArray} (h : ∀ x ∈ l, isHost host x = false) : findI l host = -1 := by
  have e : l.findIdx? (isHost host) = none := List.findIdx?_eq_none_iff.2 h
  rw [findI, e]
theorem nohost_more {l : List S40} {host : ByteArray} {k : Nat} (h : ∀ x ∈ l.take k, isHost host x = false) (hk : k < l.length) (hx : isHost host l[k] = false) : ∀ x ∈ l.take (k + 1), isHost host x = false := by
  intro x hm
  rw [List.take_succ_eq_append_getElem hk, List.mem_append, List.mem_singleton] at hm
  rcases hm with hm | rfl
  · exact h x hm
  · exact hx
theorem find1_calls (n h : ByteArray) (x0 x1 x2 x3 x4 x5 x6 : Int) (A : Option Addr) (len c : Nat) (x7 x8 x9 x10 : Int) (host : ByteArray) (B : Addr) (w : World) (hn : w.cell? B = some (.string host)) :
    Calls Tryd.prog 50 #[.agg #[.string n, .string h, .int .u8 x0, .int .u8 x1, .int .u8 x2, .int .u8 x3, .int .i64 x4, .int .i64 x5, .int .i64 x6, .slice A len c, .int .i64 x7, .int .i64 x8, .int .i64 x9, .int .i64 x10], .pointer (some B)] w fun e w' => e = .returned (.bool (h.toList == host.toList)) ∧ Below w.heap.size w w' := by
  have hn2 : ∀ o, (w.alloc o).cell? B = some (.string host) := fun o => (((Below.refl w.heap.size w).alloc (Nat.le_refl _) o).cell (World.block_lt_of_cell? w _ hn)).trans hn
  have HB := Aside0.mk (fun o => (Below.refl w.heap.size w).alloc (Nat.le_refl _) o)
  clear hn
  go_enter Tryd.func50, Tryd.ntmps50
  go_wp2
  go_ret
  exact ⟨rfl, HB.out _⟩
set_option maxHeartbeats 2000000 in
set_option maxRecDepth 100000 in
theorem indexFunc_calls (A0 : Option Addr) (c0 : Nat) (l0 : List S40) (host : ByteArray) (B : Nat) (w : World) (hr : Kd.C k40 w A0 l0.length l0) (hB : B < w.heap.size) (hh : w.heap[B]? = some (.cells #[.string host] 9 (0, 0))) (hs : l0.length ≤ 1000000) :
    Calls Tryd.prog 49 #[.slice A0 l0.length c0, .func (.func 50) #[] #[.pointer (some ⟨B, 0, none⟩)]] w fun e w' => e = .returned (.int .i64 (findI l0 host)) ∧ Below w.heap.size w w' := by
  have HR := Aside0.mk hr
  have HH := Aside0.mk hh
  clear hr hh
  go_enter Tryd.func49, Tryd.ntmps49
  go_wp2
  go_loopw [8] (fun i wr => ∃ k : Nat, k ≤ l0.length ∧ i = .int .i64 k ∧ Aside0 (∀ x ∈ l0.take k, isHost host x = false) ∧ Aside0 (Below w.heap.size w wr)) (fun i _ => l0.length - (intOf i).toNat)
  case atStart => exact ⟨0, Nat.zero_le _, rfl, ⟨by simp⟩, ⟨Below.refl _ _⟩⟩
  case round =>
    obtain ⟨k, hk, rfl, HN, HB⟩ := hrel
    by_cases hlt : k < l0.length
    · have hC := Kd.C_below HR.out HB.out
      obtain ⟨ad, A9, c9, e, x0, x1, x2, x3, x4, x5, x6, x7, x8, x9, x10, x11, x12, x13, _⟩ := at_T40 hC (k : Int) (by omega) (by omega)
      have hv : rd_T40 l0 (k : Int) = l0[k] := by
        rw [rd_T40, Int.toNat_natCast, List.getD_eq_getElem?_getD, List.getElem?_eq_getElem hlt]; rfl
      obtain ⟨x, hx⟩ : ∃ x, x = rd_T40 l0 (k : Int) := ⟨_, rfl⟩
      rw [← hx] at x0 x1 x2 x3 x4 x5 x6 x7 x8 x9 x10 x11 x12 x13 hv
      subst e
      simp only [Int.toNat_natCast] at x0 x1 x2 x3 x4 x5 x6 x7 x8 x9 x10 x11 x12 x13
      clear hC hx
      obtain ⟨b, hb⟩ : ∃ b, b = (x.f1.toList == host.toList) := ⟨_, rfl⟩
      have HT := Aside0.mk (show isHost host l0[k] = b from by rw [← hv, hb]; rfl)
      have HV := Aside0.mk hb
      clear hb hv
      cases b
      · go_wp2_with (go_at_call 50; with_reducible refine (find1_calls _ _ _ _ _ _ _ _ _ _ _ _ _ _ _ _ host _ _ ((blk_cell (blk_below HH.out HB.out) 0).trans rfl)).mono ?_; rintro e w1 ⟨rfl, hb⟩; have HE := Aside0.mk hb; clear hb; rw [← HV.out])
        go_roundw
        case rel => exact ⟨k + 1, by omega, by go_num, ⟨nohost_more HN.out hlt HT.out⟩, ⟨HB.out.trans (HE.out.mono HB.out.size)⟩⟩
        case measure => simp [intOf]; omega
      · go_wp2_with (go_at_call 50; with_reducible refine (find1_calls _ _ _ _ _ _ _ _ _ _ _ _ _ _ _ _ host _ _ ((blk_cell (blk_below HH.out HB.out) 0).trans rfl)).mono ?_; rintro e w1 ⟨rfl, hb⟩; have HE := Aside0.mk hb; clear hb; rw [← HV.out])
        try rw [Exit.noGoto_ret]
        go_ret
        exact ⟨by rw [findI_hit HN.out hlt HT.out]; rfl, HB.out.trans (HE.out.mono HB.out.size)⟩
    · obtain rfl : k = l0.length := by omega
      have HNN := Aside0.mk (findI_none (l := l0) (host := host) (by have := HN.out; rwa [List.take_length] at this))
      go_wp2
      try rw [Exit.noGoto_ret]
      go_ret
      exact ⟨by rw [HNN.out]; rfl, HB.out⟩
def route_Find.f (l0 : List S40) (a1 : ByteArray) : Option Int := if l0.length ≤ 1000000 then some (findI l0 a1) else none
theorem route_Find.calls (A0 : Option Addr) (c0 : Nat) (l0 : List S40) (a1 : ByteArray) (r : Int) (w : World) (hr0 : Kd.C k40 w A0 l0.length l0) (hc0 : l0.length ≤ c0) (h : route_Find.f l0 a1 = some r) :
    Calls Tryd.prog 37 #[.slice A0 l0.length c0, .string a1] w fun e w' => e = .returned (.int .i64 r) ∧ Below w.heap.size w w' := by
  unfold route_Find.f at h
  split at h
  · rename_i hs
    obtain rfl := Option.some.inj h
    have HC := indexFunc_calls A0 c0 l0 a1 w.heap.size (w.alloc (.cells #[.string a1] 9)) (Kd.C_alloc hr0 _) (by simp) (blk_new _ _) hs
    have HB := Aside0.mk (fun o => (Below.refl w.heap.size w).alloc (Nat.le_refl _) o)
    obtain ⟨v, hv⟩ : ∃ v, v = findI l0 a1 := ⟨_, rfl⟩
    rw [← hv] at HC ⊢
    clear hr0 hv
    go_enter Tryd.func37, Tryd.ntmps37
    go_wp2_with (go_at_call 49; refine HC.mono ?_; rintro e w1 ⟨rfl, hb⟩; have HE := Aside0.mk hb; clear hb)
    go_ret
    exact ⟨rfl, (HB.out _).trans (HE.out.mono (HB.out _).size)⟩
  · cases h
end Go.Proofs.YtajaedebndeajaaDoor.Q

namespace Go.Proofs.YtajaedebndeajaaDoor.Q
open Go.RowKit Go.Proofs.YtajaedebndeajaaDoor.AclMet Go.Proofs.YtajaedebndeajaaDoorW.PrintWords Go.Proofs.YtajaedebndeajaaDoorW.PrintLast Go.Proofs.YtajaedebndeajaaDoorW.PrintMore
attribute [local go_sem] max2_int min2_int max_two min_two max_three min_three max_four min_four   -- for this text's walks alone
set_option linter.unusedVariables false
set_option linter.unusedSimpArgs false

/-! ### conf_in: function 22 -/
def conf_in.f (a0 : Int) (a1 : Int) (a2 : Int) : Option (Bool) := if a0 ≥ a1 then (some (decide (a0 ≤ a2))) else (some false)
set_option maxHeartbeats 8000000 in
set_option maxRecDepth 100000 in
theorem conf_in.calls (a0 : Int) (a1 : Int) (a2 : Int) (r : Bool) (w : World) (h : conf_in.f a0 a1 a2 = some r) :
  Calls Tryd.prog 22 #[.int .i64 a0, .int .i64 a1, .int .i64 a2] w fun e w' => e = .returned (.bool r) ∧ Drawn0 w w' := by
 have H : (if a0 ≥ a1 then (some (decide (a0 ≤ a2))) else (some false)) = some r := h
 clear h
 by_cases c4 : a0 ≥ a1
 ·
  rw [if_pos c4] at H
  have c4b0 : decide (a1 ≤ a0) = true := decide_eq_true c4
  clear c4
  obtain rfl := Option.some.inj H
  go_enter Tryd.func22, Tryd.ntmps22
  go_wp2
  go_ret
  exact ⟨by first | rfl | (simp; done) | (simp [*]; done), by repeat (first | exact Drawn0.refl _ | apply Drawn0.step)⟩
 ·
  rw [if_neg c4] at H
  have c4b0 : decide (a1 ≤ a0) = false := decide_eq_false c4
  clear c4
  obtain rfl := Option.some.inj H
  go_enter Tryd.func22, Tryd.ntmps22
  go_wp2
  go_ret
  exact ⟨by first | rfl | (simp; done) | (simp [*]; done), by repeat (first | exact Drawn0.refl _ | apply Drawn0.step)⟩

end Go.Proofs.YtajaedebndeajaaDoor.Q

namespace Go.Proofs.YtajaedebndeajaaDoor.Q
open Go.RowKit Go.Proofs.YtajaedebndeajaaDoor.AclMet Go.Proofs.YtajaedebndeajaaDoorW.PrintWords Go.Proofs.YtajaedebndeajaaDoorW.PrintLast Go.Proofs.YtajaedebndeajaaDoorW.PrintMore
attribute [local go_sem] max2_int min2_int max_two min_two max_three min_three max_four min_four   -- for this text's walks alone
set_option linter.unusedVariables false
set_option linter.unusedSimpArgs false

/-! ### route_long: function 45 -/
def route_long.f (a0 : ByteArray) : Option (Bool) := if a0.toList = ([] : List UInt8) then (some false) else (some (decide ((a0.size : Int) ≤ 60)))
set_option maxHeartbeats 8000000 in
set_option maxRecDepth 100000 in
theorem route_long.calls (a0 : ByteArray) (r : Bool) (w : World) (h : route_long.f a0 = some r) :
  Calls Tryd.prog 45 #[.string a0] w fun e w' => e = .returned (.bool r) ∧ Drawn0 w w' := by
 have H : (if a0.toList = ([] : List UInt8) then (some false) else (some (decide ((a0.size : Int) ≤ 60)))) = some r := h
 clear h
 by_cases c2 : a0.toList = ([] : List UInt8)
 ·
  rw [if_pos c2] at H
  have c2b0 : (a0.toList == ([] : List UInt8)) = true := beq_iff_eq.mpr c2
  have c2b1 : (a0.toList != ([] : List UInt8)) = false := bne_eq_false_iff_eq.mpr c2
  clear c2
  obtain rfl := Option.some.inj H
  go_enter Tryd.func45, Tryd.ntmps45
  go_wp2
  go_ret
  exact ⟨by first | rfl | (simp; done) | (simp [*]; done), by repeat (first | exact Drawn0.refl _ | apply Drawn0.step)⟩
 ·
  rw [if_neg c2] at H
  have c2b0 : (a0.toList == ([] : List UInt8)) = false := beq_eq_false_iff_ne.mpr c2
  have c2b1 : (a0.toList != ([] : List UInt8)) = true := bne_iff_ne.mpr c2
  obtain rfl := Option.some.inj H
  go_enter Tryd.func45, Tryd.ntmps45
  go_wp2
  go_ret
  exact ⟨by first | rfl | (simp; done) | (simp [*]; done), by repeat (first | exact Drawn0.refl _ | apply Drawn0.step)⟩

end Go.Proofs.YtajaedebndeajaaDoor.Q

namespace Go.Proofs.YtajaedebndeajaaDoor.Q
open Go.RowKit Go.Proofs.YtajaedebndeajaaDoor.AclMet Go.Proofs.YtajaedebndeajaaDoorW.PrintWords Go.Proofs.YtajaedebndeajaaDoorW.PrintLast Go.Proofs.YtajaedebndeajaaDoorW.PrintMore
attribute [local go_sem] max2_int min2_int max_two min_two max_three min_three max_four min_four   -- for this text's walks alone
set_option linter.unusedVariables false
set_option linter.unusedSimpArgs false

/-! ### route_Name: function 36 -/
def route_Name.l0 : Nat → ByteArray → Int → Int → Option (Bool)
 | 0, _, _, _ => none
 | k + 1, x0, x5, x6 => if x6 < x5 then (if 0 ≤ x6 then (if x6 < (x0.size : Int) then ((strings_IndexByte.f (⟨#[97, 98, 99, 100, 101, 102, 103, 104, 105, 106, 107, 108, 109, 110, 111, 112, 113, 114, 115, 116, 117, 118, 119, 120, 121, 122, 48, 49, 50, 51, 52, 53, 54, 55, 56, 57, 46, 45]⟩ : ByteArray) (bt x0 x6)).bind fun t106 => (if t106 < 0 then (some false) else (route_Name.l0 k x0 x5 (wrap64 (x6 + 1))))) else (none)) else (none)) else ((route_long.f x0).bind fun t107 => (some t107))
def route_Name.f (k : Nat) (a0 : ByteArray) : Option (Bool) := route_Name.l0 k a0 (a0.size : Int) 0
theorem route_Name.mono_l : ∀ k, (∀ y0 y1 y2, LeO (route_Name.l0 k y0 y1 y2) (route_Name.l0 (k + 1) y0 y1 y2))
 | 0 => fun _ _ _ r h => by simp [route_Name.l0] at h
 | k + 1 => by
  have ih0 := route_Name.mono_l k
  ·
   intro y0 y1 y2
   unfold route_Name.l0
   repeat' first
   | (with_reducible exact ih0 _ _ _)
   | (with_reducible exact LeO.refl _)
   | (with_reducible exact LeO.none _)
   | (with_reducible refine LeO.ite ?_ ?_)
   | (with_reducible refine LeO.bind ?_ (fun _ => ?_))
   | exact ih0 _ _ _
   | exact LeO.none _
   | refine LeO.ite ?_ ?_
   | refine LeO.bind ?_ (fun _ => ?_)
theorem route_Name.mono : ∀ a0 k, LeO (route_Name.f k a0) (route_Name.f (k + 1) a0) := by
 intro a0 k
 have ih0 := route_Name.mono_l k
 unfold route_Name.f
 repeat' first
   | (with_reducible exact ih0 _ _ _)
   | (with_reducible exact LeO.refl _)
   | (with_reducible exact LeO.none _)
   | (with_reducible refine LeO.ite ?_ ?_)
   | (with_reducible refine LeO.bind ?_ (fun _ => ?_))
   | exact ih0 _ _ _
   | exact LeO.none _
   | refine LeO.ite ?_ ?_
   | refine LeO.bind ?_ (fun _ => ?_)
set_option maxHeartbeats 8000000 in
set_option maxRecDepth 100000 in
theorem route_Name.calls (k : Nat) (a0 : ByteArray) (r : Bool) (w : World) (h : route_Name.f k a0 = some r) :
  Calls Tryd.prog 36 #[.string a0] w fun e w' => e = .returned (.bool r) ∧ Drawn0 w w' := by
 have H : (route_Name.l0 k a0 (a0.size : Int) 0) = some r := h
 clear h
 have H' := Aside0.mk H
 clear H
 go_enter Tryd.func36, Tryd.ntmps36
 go_wp2
 go_loopg [6] k (fun kq v6 w' => ∃ (x6_1 : Int), v6 = .int .i64 x6_1 ∧ Aside0 (route_Name.l0 kq a0 (a0.size : Int) x6_1 = some r) ∧ Aside0 (kq ≤ k) ∧ Drawn0 w w')
 case atStart => exact ⟨(0), (by first | rfl | (simp; done) | (simp [*]; done)), H', ⟨Nat.le_refl _⟩, by repeat (first | exact Drawn0.refl _ | apply Drawn0.step)⟩
 case round =>
  clear H'
  obtain ⟨x6_1, rfl, HA, HK1, ⟨m1, rfl⟩⟩ := hrel
  cases gk with
  | zero => exact absurd HA.out (by simp [route_Name.l0])
  | succ k1 =>
   have H := HA.out
   clear HA
   simp only [route_Name.l0] at H
   by_cases c2 : x6_1 < (a0.size : Int)
   ·
    rw [if_pos c2] at H
    have c2b0 : decide (x6_1 < (a0.size : Int)) = true := decide_eq_true c2
    clear c2
    by_cases c3 : 0 ≤ x6_1
    ·
     rw [if_pos c3] at H
     have c3b0 : decide (0 ≤ x6_1) = true := decide_eq_true c3
     clear c3
     by_cases c4 : x6_1 < (a0.size : Int)
     ·
      rw [if_pos c4] at H
      have c4b0 : decide (x6_1 < (a0.size : Int)) = true := decide_eq_true c4
      clear c4
      replace H := Option.bind_eq_some_iff.mp H
      obtain ⟨t106, A60, H⟩ := H
      replace H : (if t106 < 0 then (some false) else (route_Name.l0 k1 a0 (a0.size : Int) (wrap64 (x6_1 + 1)))) = some r := H
      have A6 := Aside0.mk A60
      clear A60
      by_cases c7 : t106 < 0
      ·
       rw [if_pos c7] at H
       have c7b0 : decide (t106 < 0) = true := decide_eq_true c7
       clear c7
       obtain rfl := Option.some.inj H
       have p5 : 0 ≤ (x6_1 : Int) := of_decide_eq_true (by first | (with_reducible assumption) | assumption)
       have q5 : x6_1 < (a0.size : Int) := of_decide_eq_true (by first | (with_reducible assumption) | assumption)
       have hx5 := bt_at a0 x6_1
       replace p5 := eq_true p5
       replace q5 := eq_true q5
       go_wp2_with (first | ((with_reducible refine gate_callee (f := 48) rfl ?_); refine goesL_ (some 12) rfl rfl Tryd.func48 (by kernel_rfl) rfl #[.string (⟨#[97, 98, 99, 100, 101, 102, 103, 104, 105, 106, 107, 108, 109, 110, 111, 112, 113, 114, 115, 116, 117, 118, 119, 120, 121, 122, 48, 49, 50, 51, 52, 53, 54, 55, 56, 57, 46, 45]⟩ : ByteArray), .int .u8 (bt a0 x6_1)] rfl (by (try simp only [List.map_toArray, List.map_cons, List.map_nil]); first | done | rfl | (simp only [List.length_drop, List.length_take]; rfl)) ?_; (with_reducible refine (strings_IndexByte.calls (⟨#[97, 98, 99, 100, 101, 102, 103, 104, 105, 106, 107, 108, 109, 110, 111, 112, 113, 114, 115, 116, 117, 118, 119, 120, 121, 122, 48, 49, 50, 51, 52, 53, 54, 55, 56, 57, 46, 45]⟩ : ByteArray) (bt a0 x6_1) t106 _ A6.out).mono ?_); rintro e w' ⟨rfl, ⟨nd, rfl⟩⟩; refine ⟨_, rfl, ?_⟩))
       go_ret
       exact ⟨by first | rfl | (simp; done) | (simp [*]; done), by repeat (first | exact Drawn0.refl _ | apply Drawn0.step)⟩
      ·
       rw [if_neg c7] at H
       have c7b0 : decide (t106 < 0) = false := decide_eq_false c7
       clear c7
       have H' := Aside0.mk H
       clear H
       have p5 : 0 ≤ (x6_1 : Int) := of_decide_eq_true (by first | (with_reducible assumption) | assumption)
       have q5 : x6_1 < (a0.size : Int) := of_decide_eq_true (by first | (with_reducible assumption) | assumption)
       have hx5 := bt_at a0 x6_1
       replace p5 := eq_true p5
       replace q5 := eq_true q5
       go_wp2_with (first | ((with_reducible refine gate_callee (f := 48) rfl ?_); refine goesL_ (some 12) rfl rfl Tryd.func48 (by kernel_rfl) rfl #[.string (⟨#[97, 98, 99, 100, 101, 102, 103, 104, 105, 106, 107, 108, 109, 110, 111, 112, 113, 114, 115, 116, 117, 118, 119, 120, 121, 122, 48, 49, 50, 51, 52, 53, 54, 55, 56, 57, 46, 45]⟩ : ByteArray), .int .u8 (bt a0 x6_1)] rfl (by (try simp only [List.map_toArray, List.map_cons, List.map_nil]); first | done | rfl | (simp only [List.length_drop, List.length_take]; rfl)) ?_; (with_reducible refine (strings_IndexByte.calls (⟨#[97, 98, 99, 100, 101, 102, 103, 104, 105, 106, 107, 108, 109, 110, 111, 112, 113, 114, 115, 116, 117, 118, 119, 120, 121, 122, 48, 49, 50, 51, 52, 53, 54, 55, 56, 57, 46, 45]⟩ : ByteArray) (bt a0 x6_1) t106 _ A6.out).mono ?_); rintro e w' ⟨rfl, ⟨nd, rfl⟩⟩; refine ⟨_, rfl, ?_⟩))
       go_roundg k1
       case measure => have := HK1.out; omega
       case rel => exact ⟨(wrap64 (x6_1 + 1)), (by first | rfl | (simp; done) | (simp [*]; done)), H', ⟨by have := HK1.out; omega⟩, by repeat (first | exact Drawn0.refl _ | apply Drawn0.step)⟩
     ·
      rw [if_neg c4] at H
      exact absurd H (by simp)
    ·
     rw [if_neg c3] at H
     exact absurd H (by simp)
   ·
    rw [if_neg c2] at H
    have c2b0 : decide (x6_1 < (a0.size : Int)) = false := decide_eq_false c2
    clear c2
    replace H := Option.bind_eq_some_iff.mp H
    obtain ⟨t107, A80, H⟩ := H
    replace H : (some t107) = some r := H
    have A8 := Aside0.mk A80
    clear A80
    obtain rfl := Option.some.inj H
    go_wp2_with (first | ((with_reducible refine gate_callee (f := 45) rfl ?_); refine goesL_ (some 16) rfl rfl Tryd.func45 (by kernel_rfl) rfl #[.string a0] rfl (by (try simp only [List.map_toArray, List.map_cons, List.map_nil]); first | done | rfl | (simp only [List.length_drop, List.length_take]; rfl)) ?_; (with_reducible refine (route_long.calls a0 t107 _ A8.out).mono ?_); rintro e w' ⟨rfl, ⟨nd, rfl⟩⟩; refine ⟨_, rfl, ?_⟩))
    go_ret
    exact ⟨by first | rfl | (simp; done) | (simp [*]; done), by repeat (first | exact Drawn0.refl _ | apply Drawn0.step)⟩

end Go.Proofs.YtajaedebndeajaaDoor.Q

namespace Go.Proofs.YtajaedebndeajaaDoor.Q
open Go.RowKit Go.Proofs.YtajaedebndeajaaDoor.AclMet Go.Proofs.YtajaedebndeajaaDoorW.PrintWords Go.Proofs.YtajaedebndeajaaDoorW.PrintLast Go.Proofs.YtajaedebndeajaaDoorW.PrintMore
attribute [local go_sem] max2_int min2_int max_two min_two max_three min_three max_four min_four   -- for this text's walks alone
set_option linter.unusedVariables false
set_option linter.unusedSimpArgs false

/-! ### cmd_Clean: function 46 -/
def cmd_Clean.l0 : Nat → ByteArray → Int → Int → Option (Bool)
 | 0, _, _, _ => none
 | k + 1, x0, x5, x6 => if x6 < x5 then (if 0 ≤ x6 then (if x6 < (x0.size : Int) then (if (bt x0 x6) < 32 then (some false) else (if (bt x0 x6) > 126 then (some false) else (cmd_Clean.l0 k x0 x5 (wrap64 (x6 + 1))))) else (none)) else (none)) else (some true)
def cmd_Clean.f (k : Nat) (a0 : ByteArray) : Option (Bool) := cmd_Clean.l0 k a0 (a0.size : Int) 0
theorem cmd_Clean.mono_l : ∀ k, (∀ y0 y1 y2, LeO (cmd_Clean.l0 k y0 y1 y2) (cmd_Clean.l0 (k + 1) y0 y1 y2))
 | 0 => fun _ _ _ r h => by simp [cmd_Clean.l0] at h
 | k + 1 => by
  have ih0 := cmd_Clean.mono_l k
  ·
   intro y0 y1 y2
   unfold cmd_Clean.l0
   repeat' first
   | (with_reducible exact ih0 _ _ _)
   | (with_reducible exact LeO.refl _)
   | (with_reducible exact LeO.none _)
   | (with_reducible refine LeO.ite ?_ ?_)
   | (with_reducible refine LeO.bind ?_ (fun _ => ?_))
   | exact ih0 _ _ _
   | exact LeO.none _
   | refine LeO.ite ?_ ?_
   | refine LeO.bind ?_ (fun _ => ?_)
theorem cmd_Clean.mono : ∀ a0 k, LeO (cmd_Clean.f k a0) (cmd_Clean.f (k + 1) a0) := by
 intro a0 k
 have ih0 := cmd_Clean.mono_l k
 unfold cmd_Clean.f
 repeat' first
   | (with_reducible exact ih0 _ _ _)
   | (with_reducible exact LeO.refl _)
   | (with_reducible exact LeO.none _)
   | (with_reducible refine LeO.ite ?_ ?_)
   | (with_reducible refine LeO.bind ?_ (fun _ => ?_))
   | exact ih0 _ _ _
   | exact LeO.none _
   | refine LeO.ite ?_ ?_
   | refine LeO.bind ?_ (fun _ => ?_)
set_option maxHeartbeats 8000000 in
set_option maxRecDepth 100000 in
theorem cmd_Clean.calls (k : Nat) (a0 : ByteArray) (r : Bool) (w : World) (h : cmd_Clean.f k a0 = some r) :
  Calls Tryd.prog 46 #[.string a0] w fun e w' => e = .returned (.bool r) ∧ Drawn0 w w' := by
 have H : (cmd_Clean.l0 k a0 (a0.size : Int) 0) = some r := h
 clear h
 have H' := Aside0.mk H
 clear H
 go_enter Tryd.func46, Tryd.ntmps46
 go_wp2
 go_loopg [6] k (fun kq v6 w' => ∃ (x6_1 : Int), v6 = .int .i64 x6_1 ∧ Aside0 (cmd_Clean.l0 kq a0 (a0.size : Int) x6_1 = some r) ∧ Aside0 (kq ≤ k) ∧ Drawn0 w w')
 case atStart => exact ⟨(0), (by first | rfl | (simp; done) | (simp [*]; done)), H', ⟨Nat.le_refl _⟩, by repeat (first | exact Drawn0.refl _ | apply Drawn0.step)⟩
 case round =>
  clear H'
  obtain ⟨x6_1, rfl, HA, HK1, ⟨m1, rfl⟩⟩ := hrel
  cases gk with
  | zero => exact absurd HA.out (by simp [cmd_Clean.l0])
  | succ k1 =>
   have H := HA.out
   clear HA
   simp only [cmd_Clean.l0] at H
   by_cases c2 : x6_1 < (a0.size : Int)
   ·
    rw [if_pos c2] at H
    have c2b0 : decide (x6_1 < (a0.size : Int)) = true := decide_eq_true c2
    clear c2
    by_cases c3 : 0 ≤ x6_1
    ·
     rw [if_pos c3] at H
     have c3b0 : decide (0 ≤ x6_1) = true := decide_eq_true c3
     clear c3
     by_cases c4 : x6_1 < (a0.size : Int)
     ·
      rw [if_pos c4] at H
      have c4b0 : decide (x6_1 < (a0.size : Int)) = true := decide_eq_true c4
      clear c4
      by_cases c6 : (bt a0 x6_1) < 32
      ·
       rw [if_pos c6] at H
       have c6b0 : decide ((bt a0 x6_1) < 32) = true := decide_eq_true c6
       clear c6
       obtain rfl := Option.some.inj H
       have p5 : 0 ≤ (x6_1 : Int) := of_decide_eq_true (by first | (with_reducible assumption) | assumption)
       have q5 : x6_1 < (a0.size : Int) := of_decide_eq_true (by first | (with_reducible assumption) | assumption)
       have hx5 := bt_at a0 x6_1
       replace p5 := eq_true p5
       replace q5 := eq_true q5
       go_wp2
       go_ret
       exact ⟨by first | rfl | (simp; done) | (simp [*]; done), by repeat (first | exact Drawn0.refl _ | apply Drawn0.step)⟩
      ·
       rw [if_neg c6] at H
       have c6b0 : decide ((bt a0 x6_1) < 32) = false := decide_eq_false c6
       clear c6
       by_cases c8 : (bt a0 x6_1) > 126
       ·
        rw [if_pos c8] at H
        have c8b0 : decide (126 < (bt a0 x6_1)) = true := decide_eq_true c8
        clear c8
        obtain rfl := Option.some.inj H
        have p5 : 0 ≤ (x6_1 : Int) := of_decide_eq_true (by first | (with_reducible assumption) | assumption)
        have q5 : x6_1 < (a0.size : Int) := of_decide_eq_true (by first | (with_reducible assumption) | assumption)
        have hx5 := bt_at a0 x6_1
        replace p5 := eq_true p5
        replace q5 := eq_true q5
        have p7 : 0 ≤ (x6_1 : Int) := of_decide_eq_true (by first | (with_reducible assumption) | assumption)
        have q7 : x6_1 < (a0.size : Int) := of_decide_eq_true (by first | (with_reducible assumption) | assumption)
        have hx7 := bt_at a0 x6_1
        replace p7 := eq_true p7
        replace q7 := eq_true q7
        go_wp2
        go_ret
        exact ⟨by first | rfl | (simp; done) | (simp [*]; done), by repeat (first | exact Drawn0.refl _ | apply Drawn0.step)⟩
       ·
        rw [if_neg c8] at H
        have c8b0 : decide (126 < (bt a0 x6_1)) = false := decide_eq_false c8
        clear c8
        have H' := Aside0.mk H
        clear H
        have p5 : 0 ≤ (x6_1 : Int) := of_decide_eq_true (by first | (with_reducible assumption) | assumption)
        have q5 : x6_1 < (a0.size : Int) := of_decide_eq_true (by first | (with_reducible assumption) | assumption)
        have hx5 := bt_at a0 x6_1
        replace p5 := eq_true p5
        replace q5 := eq_true q5
        have p7 : 0 ≤ (x6_1 : Int) := of_decide_eq_true (by first | (with_reducible assumption) | assumption)
        have q7 : x6_1 < (a0.size : Int) := of_decide_eq_true (by first | (with_reducible assumption) | assumption)
        have hx7 := bt_at a0 x6_1
        replace p7 := eq_true p7
        replace q7 := eq_true q7
        go_wp2
        go_roundg k1
        case measure => have := HK1.out; omega
        case rel => exact ⟨(wrap64 (x6_1 + 1)), (by first | rfl | (simp; done) | (simp [*]; done)), H', ⟨by have := HK1.out; omega⟩, by repeat (first | exact Drawn0.refl _ | apply Drawn0.step)⟩
     ·
      rw [if_neg c4] at H
      exact absurd H (by simp)
    ·
     rw [if_neg c3] at H
     exact absurd H (by simp)
   ·
    rw [if_neg c2] at H
    have c2b0 : decide (x6_1 < (a0.size : Int)) = false := decide_eq_false c2
    clear c2
    obtain rfl := Option.some.inj H
    go_wp2
    go_ret
    exact ⟨by first | rfl | (simp; done) | (simp [*]; done), by repeat (first | exact Drawn0.refl _ | apply Drawn0.step)⟩

end Go.Proofs.YtajaedebndeajaaDoor.Q

namespace Go.Proofs.YtajaedebndeajaaDoor.Q
open Go.RowKit Go.Proofs.YtajaedebndeajaaDoor.AclMet Go.Proofs.YtajaedebndeajaaDoorW.PrintWords Go.Proofs.YtajaedebndeajaaDoorW.PrintLast Go.Proofs.YtajaedebndeajaaDoorW.PrintMore
attribute [local go_sem] max2_int min2_int max_two min_two max_three min_three max_four min_four   -- for this text's walks alone
set_option linter.unusedVariables false
set_option linter.unusedSimpArgs false

/-! ### route_User: function 35 -/
def route_User.f (k : Nat) (a0 : ByteArray) : Option (Bool) := (route_long.f a0).bind fun t103 => (if t103 = true then ((cmd_Clean.f k a0).bind fun t104 => (if t104 = true then ((strings_Contains.f a0 (⟨#[32]⟩ : ByteArray)).bind fun t105 => (some (!t105))) else (some false))) else (some false))
theorem route_User.mono : ∀ a0 k, LeO (route_User.f k a0) (route_User.f (k + 1) a0) := by
 intro a0 k
 unfold route_User.f
 repeat' first
   | (with_reducible exact cmd_Clean.mono _ _)
   | (with_reducible exact LeO.refl _)
   | (with_reducible exact LeO.none _)
   | (with_reducible refine LeO.ite ?_ ?_)
   | (with_reducible refine LeO.bind ?_ (fun _ => ?_))
   | exact cmd_Clean.mono _ _
   | exact LeO.none _
   | refine LeO.ite ?_ ?_
   | refine LeO.bind ?_ (fun _ => ?_)
set_option maxHeartbeats 8000000 in
set_option maxRecDepth 100000 in
theorem route_User.calls (k : Nat) (a0 : ByteArray) (r : Bool) (w : World) (h : route_User.f k a0 = some r) :
  Calls Tryd.prog 35 #[.string a0] w fun e w' => e = .returned (.bool r) ∧ Drawn0 w w' := by
 have H : ((route_long.f a0).bind fun t103 => (if t103 = true then ((cmd_Clean.f k a0).bind fun t104 => (if t104 = true then ((strings_Contains.f a0 (⟨#[32]⟩ : ByteArray)).bind fun t105 => (some (!t105))) else (some false))) else (some false))) = some r := h
 clear h
 replace H := Option.bind_eq_some_iff.mp H
 obtain ⟨t103, A20, H⟩ := H
 replace H : (if t103 = true then ((cmd_Clean.f k a0).bind fun t104 => (if t104 = true then ((strings_Contains.f a0 (⟨#[32]⟩ : ByteArray)).bind fun t105 => (some (!t105))) else (some false))) else (some false)) = some r := H
 have A2 := Aside0.mk A20
 clear A20
 by_cases c3 : t103 = true
 ·
  subst c3
  have H1 : ((cmd_Clean.f k a0).bind fun t104 => (if t104 = true then ((strings_Contains.f a0 (⟨#[32]⟩ : ByteArray)).bind fun t105 => (some (!t105))) else (some false))) = some r := by rw [if_pos rfl] at H; exact H
  clear H
  have H := H1
  clear H1
  replace H := Option.bind_eq_some_iff.mp H
  obtain ⟨t104, A40, H⟩ := H
  replace H : (if t104 = true then ((strings_Contains.f a0 (⟨#[32]⟩ : ByteArray)).bind fun t105 => (some (!t105))) else (some false)) = some r := H
  have A4 := Aside0.mk A40
  clear A40
  by_cases c5 : t104 = true
  ·
   subst c5
   have H1 : ((strings_Contains.f a0 (⟨#[32]⟩ : ByteArray)).bind fun t105 => (some (!t105))) = some r := by rw [if_pos rfl] at H; exact H
   clear H
   have H := H1
   clear H1
   replace H := Option.bind_eq_some_iff.mp H
   obtain ⟨t105, A60, H⟩ := H
   replace H : (some (!t105)) = some r := H
   have A6 := Aside0.mk A60
   clear A60
   obtain rfl := Option.some.inj H
   go_enter Tryd.func35, Tryd.ntmps35
   go_wp2_with (first | ((with_reducible refine gate_callee (f := 45) rfl ?_); refine goesL_ (some 4) rfl rfl Tryd.func45 (by kernel_rfl) rfl #[.string a0] rfl (by (try simp only [List.map_toArray, List.map_cons, List.map_nil]); first | done | rfl | (simp only [List.length_drop, List.length_take]; rfl)) ?_; (with_reducible refine (route_long.calls a0 true _ A2.out).mono ?_); rintro e w' ⟨rfl, ⟨nd, rfl⟩⟩; refine ⟨_, rfl, ?_⟩) | (go_at_call 46; (with_reducible refine (cmd_Clean.calls k a0 true _ A4.out).mono ?_); rintro e w' ⟨rfl, ⟨nd, rfl⟩⟩) | (go_at_call 47; (with_reducible refine (strings_Contains.calls a0 (⟨#[32]⟩ : ByteArray) t105 _ A6.out).mono ?_); rintro e w' ⟨rfl, ⟨nd, rfl⟩⟩))
   go_ret
   exact ⟨by first | rfl | (simp; done) | (simp [*]; done), by repeat (first | exact Drawn0.refl _ | apply Drawn0.step)⟩
  ·
   replace c5 := Bool.eq_false_iff.mpr c5
   subst c5
   have H1 : (some false) = some r := by rw [if_neg (show ¬ (false = true) by decide)] at H; exact H
   clear H
   have H := H1
   clear H1
   obtain rfl := Option.some.inj H
   go_enter Tryd.func35, Tryd.ntmps35
   go_wp2_with (first | ((with_reducible refine gate_callee (f := 45) rfl ?_); refine goesL_ (some 4) rfl rfl Tryd.func45 (by kernel_rfl) rfl #[.string a0] rfl (by (try simp only [List.map_toArray, List.map_cons, List.map_nil]); first | done | rfl | (simp only [List.length_drop, List.length_take]; rfl)) ?_; (with_reducible refine (route_long.calls a0 true _ A2.out).mono ?_); rintro e w' ⟨rfl, ⟨nd, rfl⟩⟩; refine ⟨_, rfl, ?_⟩) | (go_at_call 46; (with_reducible refine (cmd_Clean.calls k a0 false _ A4.out).mono ?_); rintro e w' ⟨rfl, ⟨nd, rfl⟩⟩))
   go_ret
   exact ⟨by first | rfl | (simp; done) | (simp [*]; done), by repeat (first | exact Drawn0.refl _ | apply Drawn0.step)⟩
 ·
  replace c3 := Bool.eq_false_iff.mpr c3
  subst c3
  have H1 : (some false) = some r := by rw [if_neg (show ¬ (false = true) by decide)] at H; exact H
  clear H
  have H := H1
  clear H1
  obtain rfl := Option.some.inj H
  go_enter Tryd.func35, Tryd.ntmps35
  go_wp2_with (first | ((with_reducible refine gate_callee (f := 45) rfl ?_); refine goesL_ (some 4) rfl rfl Tryd.func45 (by kernel_rfl) rfl #[.string a0] rfl (by (try simp only [List.map_toArray, List.map_cons, List.map_nil]); first | done | rfl | (simp only [List.length_drop, List.length_take]; rfl)) ?_; (with_reducible refine (route_long.calls a0 false _ A2.out).mono ?_); rintro e w' ⟨rfl, ⟨nd, rfl⟩⟩; refine ⟨_, rfl, ?_⟩))
  go_ret
  exact ⟨by first | rfl | (simp; done) | (simp [*]; done), by repeat (first | exact Drawn0.refl _ | apply Drawn0.step)⟩

end Go.Proofs.YtajaedebndeajaaDoor.Q

namespace Go.Proofs.YtajaedebndeajaaDoor.Q
open Go.RowKit Go.Proofs.YtajaedebndeajaaDoor.AclMet Go.Proofs.YtajaedebndeajaaDoorW.PrintWords Go.Proofs.YtajaedebndeajaaDoorW.PrintLast Go.Proofs.YtajaedebndeajaaDoorW.PrintMore
attribute [local go_sem] max2_int min2_int max_two min_two max_three min_three max_four min_four   -- for this text's walks alone
set_option linter.unusedVariables false
set_option linter.unusedSimpArgs false

/-! ### sat_May: function 38 -/
def sat_May.f (a0 : Int) : Option (Bool) := if a0 ≥ 0 then (some (decide (a0 ≤ 1099511627776))) else (some false)
set_option maxHeartbeats 8000000 in
set_option maxRecDepth 100000 in
theorem sat_May.calls (a0 : Int) (r : Bool) (w : World) (h : sat_May.f a0 = some r) :
  Calls Tryd.prog 38 #[.int .i64 a0] w fun e w' => e = .returned (.bool r) ∧ Drawn0 w w' := by
 have H : (if a0 ≥ 0 then (some (decide (a0 ≤ 1099511627776))) else (some false)) = some r := h
 clear h
 by_cases c2 : a0 ≥ 0
 ·
  rw [if_pos c2] at H
  have c2b0 : decide (0 ≤ a0) = true := decide_eq_true c2
  clear c2
  obtain rfl := Option.some.inj H
  go_enter Tryd.func38, Tryd.ntmps38
  go_wp2
  go_ret
  exact ⟨by first | rfl | (simp; done) | (simp [*]; done), by repeat (first | exact Drawn0.refl _ | apply Drawn0.step)⟩
 ·
  rw [if_neg c2] at H
  have c2b0 : decide (0 ≤ a0) = false := decide_eq_false c2
  clear c2
  obtain rfl := Option.some.inj H
  go_enter Tryd.func38, Tryd.ntmps38
  go_wp2
  go_ret
  exact ⟨by first | rfl | (simp; done) | (simp [*]; done), by repeat (first | exact Drawn0.refl _ | apply Drawn0.step)⟩

end Go.Proofs.YtajaedebndeajaaDoor.Q
