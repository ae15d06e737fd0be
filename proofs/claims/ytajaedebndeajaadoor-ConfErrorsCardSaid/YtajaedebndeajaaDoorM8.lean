/- Contracts and plain facts that the law's proof needs. -/
import Derived.Test.YtajaedebndeajaaDoorM7
namespace Go.Proofs.YtajaedebndeajaaDoor.Conf
open Go Go.RowKit Go.Proofs.YtajaedebndeajaaDoor.Q Go.Proofs.YtajaedebndeajaaDoor.Pure Go.Proofs.YtajaedebndeajaaDoor.AclMet Go.Proofs.YtajaedebndeajaaDoorW.PrintWords Go.Proofs.YtajaedebndeajaaDoorW.PrintLast Go.Proofs.YtajaedebndeajaaDoorW.PrintMore
set_option linter.unusedVariables false
set_option linter.unusedSimpArgs false

/-- What all the cases share. -/
structure Has (o0 o1 o2 o3 : Int) (A : Option Addr) (c : Nat) (l : List Ten) (pre life idle : Int) (lf : Bool) (w : World) (a1 a2 a3 : Addr) (k : Nat) (b : Bool) : Prop where
  r : Kd.C k40 w A l.length l
  cap : l.length ≤ c
  m : WMet w
  x : Ex w a1 a2 a3
  f : wharfingerlaw13_Few.f k o0 o1 o2 o3 l pre life idle lf = some b
set_option maxHeartbeats 4000000 in
set_option maxRecDepth 100000 in
theorem errors_off (o0 o1 o2 o3 : Int) (A : Option Addr) (c : Nat) (l : List Ten) (pre life idle : Int) (lf : Bool) (which : Int) (w : World) (a1 a2 a3 : Addr) (k : Nat) (b : Bool) (H : Has o0 o1 o2 o3 A c l pre life idle lf w a1 a2 a3 k b) (hoff : b = false ∨ (b = true ∧ decide (which < 1) = true) ∨ (b = true ∧ decide (which < 1) = false ∧ decide (3 < which) = true)) : Calls Tryd.prog 4 #[.agg #[.int .u8 o0, .int .u8 o1, .int .u8 o2, .int .u8 o3, .slice A l.length c, .int .i64 pre, .int .i64 life, .int .i64 idle, .bool lf], .int .i64 which] w fun e w' => e = .returned (.bool true) ∧ Below w.heap.size w w' := by
  have hcap := H.cap
  have HR := Aside0.mk H.r
  have HM := Aside0.mk H.m
  have HX := Aside0.mk H.x
  have HK := Aside0.mk H.f
  have HA := Aside0.mk (fun o => (Below.refl w.heap.size w).alloc (Nat.le_refl _) o)
  have hif := isIfaceE
  clear H
  rcases hoff with rfl | ⟨rfl, h1⟩ | ⟨rfl, h1, h2⟩
  all_goals
    go_enter Tryd.func4, Tryd.ntmps4
    go_wp2_with (first | (go_at_call 9; refine (wharfingerlaw13_awake.calls true _ (HM.out.below (HA.out _)) awake_is).mono ?_; rintro e w1 ⟨rfl, hb⟩; have HC := Aside0.mk (blk_below (blk_new w _) hb); have HB := Aside0.mk ((HA.out _).trans (hb.mono (HA.out _).size)); clear hb; obtain ⟨q0, q1, q2, q3, q4, q5, q6, q7, q8⟩ := cl_9 (.int .u8 o0) (.int .u8 o1) (.int .u8 o2) (.int .u8 o3) (.slice A l.length c) (.int .i64 pre) (.int .i64 life) (.int .i64 idle) (.bool lf) HC.out) | (go_at_call 10; refine (wharfingerlaw13_Few.calls k o0 o1 o2 o3 A c l pre life idle lf _ _ (Kd.C_below HR.out HB.out) hcap HK.out).mono ?_; rintro e w2 ⟨rfl, hb⟩; replace HC := Aside0.mk (blk_below HC.out hb); replace HB := Aside0.mk (HB.out.trans (hb.mono HB.out.size)); clear hb; obtain ⟨q0, q1, q2, q3, q4, q5, q6, q7, q8⟩ := cl_9 (.int .u8 o0) (.int .u8 o1) (.int .u8 o2) (.int .u8 o3) (.slice A l.length c) (.int .i64 pre) (.int .i64 life) (.int .i64 idle) (.bool lf) HC.out))
    go_ret
    exact ⟨rfl, HB.out⟩
set_option maxHeartbeats 4000000 in
set_option maxRecDepth 100000 in
theorem errors_none (o0 o1 o2 o3 : Int) (A : Option Addr) (c : Nat) (l : List Ten) (pre life idle : Int) (lf : Bool) (which : Int) (w : World) (a1 a2 a3 : Addr) (k : Nat) (H : Has o0 o1 o2 o3 A c l pre life idle lf w a1 a2 a3 k true) (h1 : decide (which < 1) = false) (h2 : decide (3 < which) = false) (hw : conf_Why.f o0 o1 o2 o3 l pre life idle lf = some (-1, 0)) (hy : conf_May.f o0 o1 o2 o3 l pre life idle lf = some true) (hck : ∀ W, Below w.heap.size w W → Calls Tryd.prog 15 #[.agg #[.int .u8 o0, .int .u8 o1, .int .u8 o2, .int .u8 o3, .slice A l.length c, .int .i64 pre, .int .i64 life, .int .i64 idle, .bool lf]] W fun e w' => e = .returned .nilIface ∧ Below W.heap.size W w') : Calls Tryd.prog 4 #[.agg #[.int .u8 o0, .int .u8 o1, .int .u8 o2, .int .u8 o3, .slice A l.length c, .int .i64 pre, .int .i64 life, .int .i64 idle, .bool lf], .int .i64 which] w fun e w' => e = .returned (.bool true) ∧ Below w.heap.size w w' := by
  have hcap := H.cap
  have HR := Aside0.mk H.r
  have HM := Aside0.mk H.m
  have HX := Aside0.mk H.x
  have HK := Aside0.mk H.f
  have HA := Aside0.mk (fun o => (Below.refl w.heap.size w).alloc (Nat.le_refl _) o)
  have hif := isIfaceE
  have HW := Aside0.mk hw
  have HY := Aside0.mk hy
  have HCK := Aside0.mk hck
  clear H hw hy hck
  go_enter Tryd.func4, Tryd.ntmps4
  go_wp2_with (first | (go_at_call 9; refine (wharfingerlaw13_awake.calls true _ (HM.out.below (HA.out _)) awake_is).mono ?_; rintro e w1 ⟨rfl, hb⟩; have HC := Aside0.mk (blk_below (blk_new w _) hb); have HB := Aside0.mk ((HA.out _).trans (hb.mono (HA.out _).size)); clear hb; obtain ⟨q0, q1, q2, q3, q4, q5, q6, q7, q8⟩ := cl_9 (.int .u8 o0) (.int .u8 o1) (.int .u8 o2) (.int .u8 o3) (.slice A l.length c) (.int .i64 pre) (.int .i64 life) (.int .i64 idle) (.bool lf) HC.out) | (go_at_call 10; refine (wharfingerlaw13_Few.calls k o0 o1 o2 o3 A c l pre life idle lf _ _ (Kd.C_below HR.out HB.out) hcap HK.out).mono ?_; rintro e w2 ⟨rfl, hb⟩; replace HC := Aside0.mk (blk_below HC.out hb); replace HB := Aside0.mk (HB.out.trans (hb.mono HB.out.size)); clear hb; obtain ⟨q0, q1, q2, q3, q4, q5, q6, q7, q8⟩ := cl_9 (.int .u8 o0) (.int .u8 o1) (.int .u8 o2) (.int .u8 o3) (.slice A l.length c) (.int .i64 pre) (.int .i64 life) (.int .i64 idle) (.bool lf) HC.out) | (go_at_call 11; refine (conf_Why.calls o0 o1 o2 o3 A c l pre life idle lf _ _ _ (Kd.C_below HR.out HB.out) hcap (HM.out.below HB.out) HW.out).mono ?_; rintro e w3 ⟨rfl, hb⟩; replace HC := Aside0.mk (blk_below HC.out hb); replace HB := Aside0.mk (HB.out.trans (hb.mono HB.out.size)); clear hb; obtain ⟨q0, q1, q2, q3, q4, q5, q6, q7, q8⟩ := cl_9 (.int .u8 o0) (.int .u8 o1) (.int .u8 o2) (.int .u8 o3) (.slice A l.length c) (.int .i64 pre) (.int .i64 life) (.int .i64 idle) (.bool lf) HC.out) | (go_at_call 15; refine (HCK.out _ HB.out).mono ?_; rintro e w4 ⟨rfl, hb⟩; replace HC := Aside0.mk (blk_below HC.out hb); replace HB := Aside0.mk (HB.out.trans (hb.mono HB.out.size)); clear hb; obtain ⟨q0, q1, q2, q3, q4, q5, q6, q7, q8⟩ := cl_9 (.int .u8 o0) (.int .u8 o1) (.int .u8 o2) (.int .u8 o3) (.slice A l.length c) (.int .i64 pre) (.int .i64 life) (.int .i64 idle) (.bool lf) HC.out) | (go_at_call 14; refine (conf_May.calls o0 o1 o2 o3 A c l pre life idle lf _ _ (Kd.C_below HR.out HB.out) hcap (HM.out.below HB.out) HY.out).mono ?_; rintro e w5 ⟨rfl, hb⟩; replace HC := Aside0.mk (blk_below HC.out hb); replace HB := Aside0.mk (HB.out.trans (hb.mono HB.out.size)); clear hb))
  go_ret
  exact ⟨rfl, HB.out⟩
set_option maxHeartbeats 4000000 in
set_option maxRecDepth 100000 in
theorem errors_1 (o0 o1 o2 o3 : Int) (A : Option Addr) (c : Nat) (l : List Ten) (pre life idle : Int) (lf : Bool) (which : Int) (w : World) (a1 a2 a3 : Addr) (k : Nat) (at_ : Int) (H : Has o0 o1 o2 o3 A c l pre life idle lf w a1 a2 a3 k true) (hi : which = 1 ∨ which = 2 ∨ which = 3) (hw : conf_Why.f o0 o1 o2 o3 l pre life idle lf = some (at_, 1)) (hck : ∀ W, Below w.heap.size w W → Calls Tryd.prog 15 #[.agg #[.int .u8 o0, .int .u8 o1, .int .u8 o2, .int .u8 o3, .slice A l.length c, .int .i64 pre, .int .i64 life, .int .i64 idle, .bool lf]] W fun e w' => ∃ (pb : Nat) (i : Int), e = .returned (.iface 45 (.pointer (some ⟨pb, 0, none⟩))) ∧ w'.heap[pb]? = some (.cells #[.int .i64 i, .iface 120 (.pointer (some a1))] 50 (0, 0)) ∧ Below W.heap.size W w') : Calls Tryd.prog 4 #[.agg #[.int .u8 o0, .int .u8 o1, .int .u8 o2, .int .u8 o3, .slice A l.length c, .int .i64 pre, .int .i64 life, .int .i64 idle, .bool lf], .int .i64 which] w fun e w' => e = .returned (.bool true) ∧ Below w.heap.size w w' := by
  have hcap := H.cap
  have HR := Aside0.mk H.r
  have HM := Aside0.mk H.m
  have HX := Aside0.mk H.x
  have HK := Aside0.mk H.f
  have HA := Aside0.mk (fun o => (Below.refl w.heap.size w).alloc (Nat.le_refl _) o)
  have hif := isIfaceE
  have HW := Aside0.mk hw
  have HCK := Aside0.mk hck
  clear H hw hck
  rcases hi with rfl | rfl | rfl
  · go_enter Tryd.func4, Tryd.ntmps4
    go_wp2_with (first | (go_at_call 9; refine (wharfingerlaw13_awake.calls true _ (HM.out.below (HA.out _)) awake_is).mono ?_; rintro e w1 ⟨rfl, hb⟩; have HC := Aside0.mk (blk_below (blk_new w _) hb); have HB := Aside0.mk ((HA.out _).trans (hb.mono (HA.out _).size)); clear hb; obtain ⟨q0, q1, q2, q3, q4, q5, q6, q7, q8⟩ := cl_9 (.int .u8 o0) (.int .u8 o1) (.int .u8 o2) (.int .u8 o3) (.slice A l.length c) (.int .i64 pre) (.int .i64 life) (.int .i64 idle) (.bool lf) HC.out) | (go_at_call 10; refine (wharfingerlaw13_Few.calls k o0 o1 o2 o3 A c l pre life idle lf _ _ (Kd.C_below HR.out HB.out) hcap HK.out).mono ?_; rintro e w2 ⟨rfl, hb⟩; replace HC := Aside0.mk (blk_below HC.out hb); replace HB := Aside0.mk (HB.out.trans (hb.mono HB.out.size)); clear hb; obtain ⟨q0, q1, q2, q3, q4, q5, q6, q7, q8⟩ := cl_9 (.int .u8 o0) (.int .u8 o1) (.int .u8 o2) (.int .u8 o3) (.slice A l.length c) (.int .i64 pre) (.int .i64 life) (.int .i64 idle) (.bool lf) HC.out) | (go_at_call 11; refine (conf_Why.calls o0 o1 o2 o3 A c l pre life idle lf _ _ _ (Kd.C_below HR.out HB.out) hcap (HM.out.below HB.out) HW.out).mono ?_; rintro e w3 ⟨rfl, hb⟩; replace HC := Aside0.mk (blk_below HC.out hb); replace HB := Aside0.mk (HB.out.trans (hb.mono HB.out.size)); clear hb; obtain ⟨q0, q1, q2, q3, q4, q5, q6, q7, q8⟩ := cl_9 (.int .u8 o0) (.int .u8 o1) (.int .u8 o2) (.int .u8 o3) (.slice A l.length c) (.int .i64 pre) (.int .i64 life) (.int .i64 idle) (.bool lf) HC.out) | (go_at_call 15; refine (HCK.out _ HB.out).mono ?_; rintro e w4 ⟨pb, i, rfl, hk, hb⟩; have HP := Aside0.mk hk; replace HC := Aside0.mk (blk_below HC.out hb); replace HB := Aside0.mk (HB.out.trans (hb.mono HB.out.size)); clear hb; clear hk; have hg1 := (HX.out.below HB.out).conf; have hg2 := (HX.out.below HB.out).tenant; have hg3 := (HX.out.below HB.out).ports) | (go_at_call 16; refine (Err.is_wrap_same pb 0 a1 _ ((blk_cell HP.out 1).trans rfl)).mono ?_; rintro e w5 ⟨rfl, hw⟩; obtain rfl := hw.symm))
    go_ret
    exact ⟨rfl, HB.out⟩
  · go_enter Tryd.func4, Tryd.ntmps4
    go_wp2_with (first | (go_at_call 9; refine (wharfingerlaw13_awake.calls true _ (HM.out.below (HA.out _)) awake_is).mono ?_; rintro e w1 ⟨rfl, hb⟩; have HC := Aside0.mk (blk_below (blk_new w _) hb); have HB := Aside0.mk ((HA.out _).trans (hb.mono (HA.out _).size)); clear hb; obtain ⟨q0, q1, q2, q3, q4, q5, q6, q7, q8⟩ := cl_9 (.int .u8 o0) (.int .u8 o1) (.int .u8 o2) (.int .u8 o3) (.slice A l.length c) (.int .i64 pre) (.int .i64 life) (.int .i64 idle) (.bool lf) HC.out) | (go_at_call 10; refine (wharfingerlaw13_Few.calls k o0 o1 o2 o3 A c l pre life idle lf _ _ (Kd.C_below HR.out HB.out) hcap HK.out).mono ?_; rintro e w2 ⟨rfl, hb⟩; replace HC := Aside0.mk (blk_below HC.out hb); replace HB := Aside0.mk (HB.out.trans (hb.mono HB.out.size)); clear hb; obtain ⟨q0, q1, q2, q3, q4, q5, q6, q7, q8⟩ := cl_9 (.int .u8 o0) (.int .u8 o1) (.int .u8 o2) (.int .u8 o3) (.slice A l.length c) (.int .i64 pre) (.int .i64 life) (.int .i64 idle) (.bool lf) HC.out) | (go_at_call 11; refine (conf_Why.calls o0 o1 o2 o3 A c l pre life idle lf _ _ _ (Kd.C_below HR.out HB.out) hcap (HM.out.below HB.out) HW.out).mono ?_; rintro e w3 ⟨rfl, hb⟩; replace HC := Aside0.mk (blk_below HC.out hb); replace HB := Aside0.mk (HB.out.trans (hb.mono HB.out.size)); clear hb; obtain ⟨q0, q1, q2, q3, q4, q5, q6, q7, q8⟩ := cl_9 (.int .u8 o0) (.int .u8 o1) (.int .u8 o2) (.int .u8 o3) (.slice A l.length c) (.int .i64 pre) (.int .i64 life) (.int .i64 idle) (.bool lf) HC.out) | (go_at_call 15; refine (HCK.out _ HB.out).mono ?_; rintro e w4 ⟨pb, i, rfl, hk, hb⟩; have HP := Aside0.mk hk; replace HC := Aside0.mk (blk_below HC.out hb); replace HB := Aside0.mk (HB.out.trans (hb.mono HB.out.size)); clear hb; clear hk; have hg1 := (HX.out.below HB.out).conf; have hg2 := (HX.out.below HB.out).tenant; have hg3 := (HX.out.below HB.out).ports) | (go_at_call 16; obtain ⟨cn, tn, hbn⟩ := (HX.out.below HB.out).b1; obtain ⟨cm, tm, hbm⟩ := (HX.out.below HB.out).b2; with_reducible refine (Err.is_wrap_other pb 0 a2 a1 _ _ _ _ _ ((blk_cell HP.out 1).trans rfl) HX.out.n12 hbn hbm).mono ?_; rintro e w5 ⟨rfl, hw⟩; obtain rfl := hw.symm))
    go_ret
    exact ⟨rfl, HB.out⟩
  · go_enter Tryd.func4, Tryd.ntmps4
    go_wp2_with (first | (go_at_call 9; refine (wharfingerlaw13_awake.calls true _ (HM.out.below (HA.out _)) awake_is).mono ?_; rintro e w1 ⟨rfl, hb⟩; have HC := Aside0.mk (blk_below (blk_new w _) hb); have HB := Aside0.mk ((HA.out _).trans (hb.mono (HA.out _).size)); clear hb; obtain ⟨q0, q1, q2, q3, q4, q5, q6, q7, q8⟩ := cl_9 (.int .u8 o0) (.int .u8 o1) (.int .u8 o2) (.int .u8 o3) (.slice A l.length c) (.int .i64 pre) (.int .i64 life) (.int .i64 idle) (.bool lf) HC.out) | (go_at_call 10; refine (wharfingerlaw13_Few.calls k o0 o1 o2 o3 A c l pre life idle lf _ _ (Kd.C_below HR.out HB.out) hcap HK.out).mono ?_; rintro e w2 ⟨rfl, hb⟩; replace HC := Aside0.mk (blk_below HC.out hb); replace HB := Aside0.mk (HB.out.trans (hb.mono HB.out.size)); clear hb; obtain ⟨q0, q1, q2, q3, q4, q5, q6, q7, q8⟩ := cl_9 (.int .u8 o0) (.int .u8 o1) (.int .u8 o2) (.int .u8 o3) (.slice A l.length c) (.int .i64 pre) (.int .i64 life) (.int .i64 idle) (.bool lf) HC.out) | (go_at_call 11; refine (conf_Why.calls o0 o1 o2 o3 A c l pre life idle lf _ _ _ (Kd.C_below HR.out HB.out) hcap (HM.out.below HB.out) HW.out).mono ?_; rintro e w3 ⟨rfl, hb⟩; replace HC := Aside0.mk (blk_below HC.out hb); replace HB := Aside0.mk (HB.out.trans (hb.mono HB.out.size)); clear hb; obtain ⟨q0, q1, q2, q3, q4, q5, q6, q7, q8⟩ := cl_9 (.int .u8 o0) (.int .u8 o1) (.int .u8 o2) (.int .u8 o3) (.slice A l.length c) (.int .i64 pre) (.int .i64 life) (.int .i64 idle) (.bool lf) HC.out) | (go_at_call 15; refine (HCK.out _ HB.out).mono ?_; rintro e w4 ⟨pb, i, rfl, hk, hb⟩; have HP := Aside0.mk hk; replace HC := Aside0.mk (blk_below HC.out hb); replace HB := Aside0.mk (HB.out.trans (hb.mono HB.out.size)); clear hb; clear hk; have hg1 := (HX.out.below HB.out).conf; have hg2 := (HX.out.below HB.out).tenant; have hg3 := (HX.out.below HB.out).ports) | (go_at_call 16; obtain ⟨cn, tn, hbn⟩ := (HX.out.below HB.out).b1; obtain ⟨cm, tm, hbm⟩ := (HX.out.below HB.out).b3; with_reducible refine (Err.is_wrap_other pb 0 a3 a1 _ _ _ _ _ ((blk_cell HP.out 1).trans rfl) HX.out.n13 hbn hbm).mono ?_; rintro e w5 ⟨rfl, hw⟩; obtain rfl := hw.symm))
    go_ret
    exact ⟨rfl, HB.out⟩
set_option maxHeartbeats 4000000 in
set_option maxRecDepth 100000 in
theorem errors_2 (o0 o1 o2 o3 : Int) (A : Option Addr) (c : Nat) (l : List Ten) (pre life idle : Int) (lf : Bool) (which : Int) (w : World) (a1 a2 a3 : Addr) (k : Nat) (at_ : Int) (H : Has o0 o1 o2 o3 A c l pre life idle lf w a1 a2 a3 k true) (hi : which = 1 ∨ which = 2 ∨ which = 3) (hw : conf_Why.f o0 o1 o2 o3 l pre life idle lf = some (at_, 2)) (hck : ∀ W, Below w.heap.size w W → Calls Tryd.prog 15 #[.agg #[.int .u8 o0, .int .u8 o1, .int .u8 o2, .int .u8 o3, .slice A l.length c, .int .i64 pre, .int .i64 life, .int .i64 idle, .bool lf]] W fun e w' => ∃ (pb : Nat) (i : Int), e = .returned (.iface 45 (.pointer (some ⟨pb, 0, none⟩))) ∧ w'.heap[pb]? = some (.cells #[.int .i64 i, .iface 120 (.pointer (some a2))] 50 (0, 0)) ∧ Below W.heap.size W w') : Calls Tryd.prog 4 #[.agg #[.int .u8 o0, .int .u8 o1, .int .u8 o2, .int .u8 o3, .slice A l.length c, .int .i64 pre, .int .i64 life, .int .i64 idle, .bool lf], .int .i64 which] w fun e w' => e = .returned (.bool true) ∧ Below w.heap.size w w' := by
  have hcap := H.cap
  have HR := Aside0.mk H.r
  have HM := Aside0.mk H.m
  have HX := Aside0.mk H.x
  have HK := Aside0.mk H.f
  have HA := Aside0.mk (fun o => (Below.refl w.heap.size w).alloc (Nat.le_refl _) o)
  have hif := isIfaceE
  have HW := Aside0.mk hw
  have HCK := Aside0.mk hck
  clear H hw hck
  rcases hi with rfl | rfl | rfl
  · go_enter Tryd.func4, Tryd.ntmps4
    go_wp2_with (first | (go_at_call 9; refine (wharfingerlaw13_awake.calls true _ (HM.out.below (HA.out _)) awake_is).mono ?_; rintro e w1 ⟨rfl, hb⟩; have HC := Aside0.mk (blk_below (blk_new w _) hb); have HB := Aside0.mk ((HA.out _).trans (hb.mono (HA.out _).size)); clear hb; obtain ⟨q0, q1, q2, q3, q4, q5, q6, q7, q8⟩ := cl_9 (.int .u8 o0) (.int .u8 o1) (.int .u8 o2) (.int .u8 o3) (.slice A l.length c) (.int .i64 pre) (.int .i64 life) (.int .i64 idle) (.bool lf) HC.out) | (go_at_call 10; refine (wharfingerlaw13_Few.calls k o0 o1 o2 o3 A c l pre life idle lf _ _ (Kd.C_below HR.out HB.out) hcap HK.out).mono ?_; rintro e w2 ⟨rfl, hb⟩; replace HC := Aside0.mk (blk_below HC.out hb); replace HB := Aside0.mk (HB.out.trans (hb.mono HB.out.size)); clear hb; obtain ⟨q0, q1, q2, q3, q4, q5, q6, q7, q8⟩ := cl_9 (.int .u8 o0) (.int .u8 o1) (.int .u8 o2) (.int .u8 o3) (.slice A l.length c) (.int .i64 pre) (.int .i64 life) (.int .i64 idle) (.bool lf) HC.out) | (go_at_call 11; refine (conf_Why.calls o0 o1 o2 o3 A c l pre life idle lf _ _ _ (Kd.C_below HR.out HB.out) hcap (HM.out.below HB.out) HW.out).mono ?_; rintro e w3 ⟨rfl, hb⟩; replace HC := Aside0.mk (blk_below HC.out hb); replace HB := Aside0.mk (HB.out.trans (hb.mono HB.out.size)); clear hb; obtain ⟨q0, q1, q2, q3, q4, q5, q6, q7, q8⟩ := cl_9 (.int .u8 o0) (.int .u8 o1) (.int .u8 o2) (.int .u8 o3) (.slice A l.length c) (.int .i64 pre) (.int .i64 life) (.int .i64 idle) (.bool lf) HC.out) | (go_at_call 15; refine (HCK.out _ HB.out).mono ?_; rintro e w4 ⟨pb, i, rfl, hk, hb⟩; have HP := Aside0.mk hk; replace HC := Aside0.mk (blk_below HC.out hb); replace HB := Aside0.mk (HB.out.trans (hb.mono HB.out.size)); clear hb; clear hk; have hg1 := (HX.out.below HB.out).conf; have hg2 := (HX.out.below HB.out).tenant; have hg3 := (HX.out.below HB.out).ports) | (go_at_call 16; obtain ⟨cn, tn, hbn⟩ := (HX.out.below HB.out).b2; obtain ⟨cm, tm, hbm⟩ := (HX.out.below HB.out).b1; with_reducible refine (Err.is_wrap_other pb 0 a1 a2 _ _ _ _ _ ((blk_cell HP.out 1).trans rfl) HX.out.n12.symm hbn hbm).mono ?_; rintro e w5 ⟨rfl, hw⟩; obtain rfl := hw.symm))
    go_ret
    exact ⟨rfl, HB.out⟩
  · go_enter Tryd.func4, Tryd.ntmps4
    go_wp2_with (first | (go_at_call 9; refine (wharfingerlaw13_awake.calls true _ (HM.out.below (HA.out _)) awake_is).mono ?_; rintro e w1 ⟨rfl, hb⟩; have HC := Aside0.mk (blk_below (blk_new w _) hb); have HB := Aside0.mk ((HA.out _).trans (hb.mono (HA.out _).size)); clear hb; obtain ⟨q0, q1, q2, q3, q4, q5, q6, q7, q8⟩ := cl_9 (.int .u8 o0) (.int .u8 o1) (.int .u8 o2) (.int .u8 o3) (.slice A l.length c) (.int .i64 pre) (.int .i64 life) (.int .i64 idle) (.bool lf) HC.out) | (go_at_call 10; refine (wharfingerlaw13_Few.calls k o0 o1 o2 o3 A c l pre life idle lf _ _ (Kd.C_below HR.out HB.out) hcap HK.out).mono ?_; rintro e w2 ⟨rfl, hb⟩; replace HC := Aside0.mk (blk_below HC.out hb); replace HB := Aside0.mk (HB.out.trans (hb.mono HB.out.size)); clear hb; obtain ⟨q0, q1, q2, q3, q4, q5, q6, q7, q8⟩ := cl_9 (.int .u8 o0) (.int .u8 o1) (.int .u8 o2) (.int .u8 o3) (.slice A l.length c) (.int .i64 pre) (.int .i64 life) (.int .i64 idle) (.bool lf) HC.out) | (go_at_call 11; refine (conf_Why.calls o0 o1 o2 o3 A c l pre life idle lf _ _ _ (Kd.C_below HR.out HB.out) hcap (HM.out.below HB.out) HW.out).mono ?_; rintro e w3 ⟨rfl, hb⟩; replace HC := Aside0.mk (blk_below HC.out hb); replace HB := Aside0.mk (HB.out.trans (hb.mono HB.out.size)); clear hb; obtain ⟨q0, q1, q2, q3, q4, q5, q6, q7, q8⟩ := cl_9 (.int .u8 o0) (.int .u8 o1) (.int .u8 o2) (.int .u8 o3) (.slice A l.length c) (.int .i64 pre) (.int .i64 life) (.int .i64 idle) (.bool lf) HC.out) | (go_at_call 15; refine (HCK.out _ HB.out).mono ?_; rintro e w4 ⟨pb, i, rfl, hk, hb⟩; have HP := Aside0.mk hk; replace HC := Aside0.mk (blk_below HC.out hb); replace HB := Aside0.mk (HB.out.trans (hb.mono HB.out.size)); clear hb; clear hk; have hg1 := (HX.out.below HB.out).conf; have hg2 := (HX.out.below HB.out).tenant; have hg3 := (HX.out.below HB.out).ports) | (go_at_call 16; refine (Err.is_wrap_same pb 0 a2 _ ((blk_cell HP.out 1).trans rfl)).mono ?_; rintro e w5 ⟨rfl, hw⟩; obtain rfl := hw.symm))
    go_ret
    exact ⟨rfl, HB.out⟩
  · go_enter Tryd.func4, Tryd.ntmps4
    go_wp2_with (first | (go_at_call 9; refine (wharfingerlaw13_awake.calls true _ (HM.out.below (HA.out _)) awake_is).mono ?_; rintro e w1 ⟨rfl, hb⟩; have HC := Aside0.mk (blk_below (blk_new w _) hb); have HB := Aside0.mk ((HA.out _).trans (hb.mono (HA.out _).size)); clear hb; obtain ⟨q0, q1, q2, q3, q4, q5, q6, q7, q8⟩ := cl_9 (.int .u8 o0) (.int .u8 o1) (.int .u8 o2) (.int .u8 o3) (.slice A l.length c) (.int .i64 pre) (.int .i64 life) (.int .i64 idle) (.bool lf) HC.out) | (go_at_call 10; refine (wharfingerlaw13_Few.calls k o0 o1 o2 o3 A c l pre life idle lf _ _ (Kd.C_below HR.out HB.out) hcap HK.out).mono ?_; rintro e w2 ⟨rfl, hb⟩; replace HC := Aside0.mk (blk_below HC.out hb); replace HB := Aside0.mk (HB.out.trans (hb.mono HB.out.size)); clear hb; obtain ⟨q0, q1, q2, q3, q4, q5, q6, q7, q8⟩ := cl_9 (.int .u8 o0) (.int .u8 o1) (.int .u8 o2) (.int .u8 o3) (.slice A l.length c) (.int .i64 pre) (.int .i64 life) (.int .i64 idle) (.bool lf) HC.out) | (go_at_call 11; refine (conf_Why.calls o0 o1 o2 o3 A c l pre life idle lf _ _ _ (Kd.C_below HR.out HB.out) hcap (HM.out.below HB.out) HW.out).mono ?_; rintro e w3 ⟨rfl, hb⟩; replace HC := Aside0.mk (blk_below HC.out hb); replace HB := Aside0.mk (HB.out.trans (hb.mono HB.out.size)); clear hb; obtain ⟨q0, q1, q2, q3, q4, q5, q6, q7, q8⟩ := cl_9 (.int .u8 o0) (.int .u8 o1) (.int .u8 o2) (.int .u8 o3) (.slice A l.length c) (.int .i64 pre) (.int .i64 life) (.int .i64 idle) (.bool lf) HC.out) | (go_at_call 15; refine (HCK.out _ HB.out).mono ?_; rintro e w4 ⟨pb, i, rfl, hk, hb⟩; have HP := Aside0.mk hk; replace HC := Aside0.mk (blk_below HC.out hb); replace HB := Aside0.mk (HB.out.trans (hb.mono HB.out.size)); clear hb; clear hk; have hg1 := (HX.out.below HB.out).conf; have hg2 := (HX.out.below HB.out).tenant; have hg3 := (HX.out.below HB.out).ports) | (go_at_call 16; obtain ⟨cn, tn, hbn⟩ := (HX.out.below HB.out).b2; obtain ⟨cm, tm, hbm⟩ := (HX.out.below HB.out).b3; with_reducible refine (Err.is_wrap_other pb 0 a3 a2 _ _ _ _ _ ((blk_cell HP.out 1).trans rfl) HX.out.n23 hbn hbm).mono ?_; rintro e w5 ⟨rfl, hw⟩; obtain rfl := hw.symm))
    go_ret
    exact ⟨rfl, HB.out⟩
set_option maxHeartbeats 4000000 in
set_option maxRecDepth 100000 in
theorem errors_3 (o0 o1 o2 o3 : Int) (A : Option Addr) (c : Nat) (l : List Ten) (pre life idle : Int) (lf : Bool) (which : Int) (w : World) (a1 a2 a3 : Addr) (k : Nat) (at_ : Int) (H : Has o0 o1 o2 o3 A c l pre life idle lf w a1 a2 a3 k true) (hi : which = 1 ∨ which = 2 ∨ which = 3) (hw : conf_Why.f o0 o1 o2 o3 l pre life idle lf = some (at_, 3)) (hck : ∀ W, Below w.heap.size w W → Calls Tryd.prog 15 #[.agg #[.int .u8 o0, .int .u8 o1, .int .u8 o2, .int .u8 o3, .slice A l.length c, .int .i64 pre, .int .i64 life, .int .i64 idle, .bool lf]] W fun e w' => ∃ (pb : Nat) (i : Int), e = .returned (.iface 45 (.pointer (some ⟨pb, 0, none⟩))) ∧ w'.heap[pb]? = some (.cells #[.int .i64 i, .iface 120 (.pointer (some a3))] 50 (0, 0)) ∧ Below W.heap.size W w') : Calls Tryd.prog 4 #[.agg #[.int .u8 o0, .int .u8 o1, .int .u8 o2, .int .u8 o3, .slice A l.length c, .int .i64 pre, .int .i64 life, .int .i64 idle, .bool lf], .int .i64 which] w fun e w' => e = .returned (.bool true) ∧ Below w.heap.size w w' := by
  have hcap := H.cap
  have HR := Aside0.mk H.r
  have HM := Aside0.mk H.m
  have HX := Aside0.mk H.x
  have HK := Aside0.mk H.f
  have HA := Aside0.mk (fun o => (Below.refl w.heap.size w).alloc (Nat.le_refl _) o)
  have hif := isIfaceE
  have HW := Aside0.mk hw
  have HCK := Aside0.mk hck
  clear H hw hck
  rcases hi with rfl | rfl | rfl
  · go_enter Tryd.func4, Tryd.ntmps4
    go_wp2_with (first | (go_at_call 9; refine (wharfingerlaw13_awake.calls true _ (HM.out.below (HA.out _)) awake_is).mono ?_; rintro e w1 ⟨rfl, hb⟩; have HC := Aside0.mk (blk_below (blk_new w _) hb); have HB := Aside0.mk ((HA.out _).trans (hb.mono (HA.out _).size)); clear hb; obtain ⟨q0, q1, q2, q3, q4, q5, q6, q7, q8⟩ := cl_9 (.int .u8 o0) (.int .u8 o1) (.int .u8 o2) (.int .u8 o3) (.slice A l.length c) (.int .i64 pre) (.int .i64 life) (.int .i64 idle) (.bool lf) HC.out) | (go_at_call 10; refine (wharfingerlaw13_Few.calls k o0 o1 o2 o3 A c l pre life idle lf _ _ (Kd.C_below HR.out HB.out) hcap HK.out).mono ?_; rintro e w2 ⟨rfl, hb⟩; replace HC := Aside0.mk (blk_below HC.out hb); replace HB := Aside0.mk (HB.out.trans (hb.mono HB.out.size)); clear hb; obtain ⟨q0, q1, q2, q3, q4, q5, q6, q7, q8⟩ := cl_9 (.int .u8 o0) (.int .u8 o1) (.int .u8 o2) (.int .u8 o3) (.slice A l.length c) (.int .i64 pre) (.int .i64 life) (.int .i64 idle) (.bool lf) HC.out) | (go_at_call 11; refine (conf_Why.calls o0 o1 o2 o3 A c l pre life idle lf _ _ _ (Kd.C_below HR.out HB.out) hcap (HM.out.below HB.out) HW.out).mono ?_; rintro e w3 ⟨rfl, hb⟩; replace HC := Aside0.mk (blk_below HC.out hb); replace HB := Aside0.mk (HB.out.trans (hb.mono HB.out.size)); clear hb; obtain ⟨q0, q1, q2, q3, q4, q5, q6, q7, q8⟩ := cl_9 (.int .u8 o0) (.int .u8 o1) (.int .u8 o2) (.int .u8 o3) (.slice A l.length c) (.int .i64 pre) (.int .i64 life) (.int .i64 idle) (.bool lf) HC.out) | (go_at_call 15; refine (HCK.out _ HB.out).mono ?_; rintro e w4 ⟨pb, i, rfl, hk, hb⟩; have HP := Aside0.mk hk; replace HC := Aside0.mk (blk_below HC.out hb); replace HB := Aside0.mk (HB.out.trans (hb.mono HB.out.size)); clear hb; clear hk; have hg1 := (HX.out.below HB.out).conf; have hg2 := (HX.out.below HB.out).tenant; have hg3 := (HX.out.below HB.out).ports) | (go_at_call 16; obtain ⟨cn, tn, hbn⟩ := (HX.out.below HB.out).b3; obtain ⟨cm, tm, hbm⟩ := (HX.out.below HB.out).b1; with_reducible refine (Err.is_wrap_other pb 0 a1 a3 _ _ _ _ _ ((blk_cell HP.out 1).trans rfl) HX.out.n13.symm hbn hbm).mono ?_; rintro e w5 ⟨rfl, hw⟩; obtain rfl := hw.symm))
    go_ret
    exact ⟨rfl, HB.out⟩
  · go_enter Tryd.func4, Tryd.ntmps4
    go_wp2_with (first | (go_at_call 9; refine (wharfingerlaw13_awake.calls true _ (HM.out.below (HA.out _)) awake_is).mono ?_; rintro e w1 ⟨rfl, hb⟩; have HC := Aside0.mk (blk_below (blk_new w _) hb); have HB := Aside0.mk ((HA.out _).trans (hb.mono (HA.out _).size)); clear hb; obtain ⟨q0, q1, q2, q3, q4, q5, q6, q7, q8⟩ := cl_9 (.int .u8 o0) (.int .u8 o1) (.int .u8 o2) (.int .u8 o3) (.slice A l.length c) (.int .i64 pre) (.int .i64 life) (.int .i64 idle) (.bool lf) HC.out) | (go_at_call 10; refine (wharfingerlaw13_Few.calls k o0 o1 o2 o3 A c l pre life idle lf _ _ (Kd.C_below HR.out HB.out) hcap HK.out).mono ?_; rintro e w2 ⟨rfl, hb⟩; replace HC := Aside0.mk (blk_below HC.out hb); replace HB := Aside0.mk (HB.out.trans (hb.mono HB.out.size)); clear hb; obtain ⟨q0, q1, q2, q3, q4, q5, q6, q7, q8⟩ := cl_9 (.int .u8 o0) (.int .u8 o1) (.int .u8 o2) (.int .u8 o3) (.slice A l.length c) (.int .i64 pre) (.int .i64 life) (.int .i64 idle) (.bool lf) HC.out) | (go_at_call 11; refine (conf_Why.calls o0 o1 o2 o3 A c l pre life idle lf _ _ _ (Kd.C_below HR.out HB.out) hcap (HM.out.below HB.out) HW.out).mono ?_; rintro e w3 ⟨rfl, hb⟩; replace HC := Aside0.mk (blk_below HC.out hb); replace HB := Aside0.mk (HB.out.trans (hb.mono HB.out.size)); clear hb; obtain ⟨q0, q1, q2, q3, q4, q5, q6, q7, q8⟩ := cl_9 (.int .u8 o0) (.int .u8 o1) (.int .u8 o2) (.int .u8 o3) (.slice A l.length c) (.int .i64 pre) (.int .i64 life) (.int .i64 idle) (.bool lf) HC.out) | (go_at_call 15; refine (HCK.out _ HB.out).mono ?_; rintro e w4 ⟨pb, i, rfl, hk, hb⟩; have HP := Aside0.mk hk; replace HC := Aside0.mk (blk_below HC.out hb); replace HB := Aside0.mk (HB.out.trans (hb.mono HB.out.size)); clear hb; clear hk; have hg1 := (HX.out.below HB.out).conf; have hg2 := (HX.out.below HB.out).tenant; have hg3 := (HX.out.below HB.out).ports) | (go_at_call 16; obtain ⟨cn, tn, hbn⟩ := (HX.out.below HB.out).b3; obtain ⟨cm, tm, hbm⟩ := (HX.out.below HB.out).b2; with_reducible refine (Err.is_wrap_other pb 0 a2 a3 _ _ _ _ _ ((blk_cell HP.out 1).trans rfl) HX.out.n23.symm hbn hbm).mono ?_; rintro e w5 ⟨rfl, hw⟩; obtain rfl := hw.symm))
    go_ret
    exact ⟨rfl, HB.out⟩
  · go_enter Tryd.func4, Tryd.ntmps4
    go_wp2_with (first | (go_at_call 9; refine (wharfingerlaw13_awake.calls true _ (HM.out.below (HA.out _)) awake_is).mono ?_; rintro e w1 ⟨rfl, hb⟩; have HC := Aside0.mk (blk_below (blk_new w _) hb); have HB := Aside0.mk ((HA.out _).trans (hb.mono (HA.out _).size)); clear hb; obtain ⟨q0, q1, q2, q3, q4, q5, q6, q7, q8⟩ := cl_9 (.int .u8 o0) (.int .u8 o1) (.int .u8 o2) (.int .u8 o3) (.slice A l.length c) (.int .i64 pre) (.int .i64 life) (.int .i64 idle) (.bool lf) HC.out) | (go_at_call 10; refine (wharfingerlaw13_Few.calls k o0 o1 o2 o3 A c l pre life idle lf _ _ (Kd.C_below HR.out HB.out) hcap HK.out).mono ?_; rintro e w2 ⟨rfl, hb⟩; replace HC := Aside0.mk (blk_below HC.out hb); replace HB := Aside0.mk (HB.out.trans (hb.mono HB.out.size)); clear hb; obtain ⟨q0, q1, q2, q3, q4, q5, q6, q7, q8⟩ := cl_9 (.int .u8 o0) (.int .u8 o1) (.int .u8 o2) (.int .u8 o3) (.slice A l.length c) (.int .i64 pre) (.int .i64 life) (.int .i64 idle) (.bool lf) HC.out) | (go_at_call 11; refine (conf_Why.calls o0 o1 o2 o3 A c l pre life idle lf _ _ _ (Kd.C_below HR.out HB.out) hcap (HM.out.below HB.out) HW.out).mono ?_; rintro e w3 ⟨rfl, hb⟩; replace HC := Aside0.mk (blk_below HC.out hb); replace HB := Aside0.mk (HB.out.trans (hb.mono HB.out.size)); clear hb; obtain ⟨q0, q1, q2, q3, q4, q5, q6, q7, q8⟩ := cl_9 (.int .u8 o0) (.int .u8 o1) (.int .u8 o2) (.int .u8 o3) (.slice A l.length c) (.int .i64 pre) (.int .i64 life) (.int .i64 idle) (.bool lf) HC.out) | (go_at_call 15; refine (HCK.out _ HB.out).mono ?_; rintro e w4 ⟨pb, i, rfl, hk, hb⟩; have HP := Aside0.mk hk; replace HC := Aside0.mk (blk_below HC.out hb); replace HB := Aside0.mk (HB.out.trans (hb.mono HB.out.size)); clear hb; clear hk; have hg1 := (HX.out.below HB.out).conf; have hg2 := (HX.out.below HB.out).tenant; have hg3 := (HX.out.below HB.out).ports) | (go_at_call 16; refine (Err.is_wrap_same pb 0 a3 _ ((blk_cell HP.out 1).trans rfl)).mono ?_; rintro e w5 ⟨rfl, hw⟩; obtain rfl := hw.symm))
    go_ret
    exact ⟨rfl, HB.out⟩
theorem errors_walk (o0 o1 o2 o3 : Int) (A : Option Addr) (c : Nat) (l : List Ten) (pre life idle : Int) (lf : Bool) (which : Int) (w : World) (hc : l.length ≤ c) (hr : Kd.C k40 w A l.length l) (hmet : WMet w) : Calls Tryd.prog 4 #[.agg #[.int .u8 o0, .int .u8 o1, .int .u8 o2, .int .u8 o3, .slice A l.length c, .int .i64 pre, .int .i64 life, .int .i64 idle, .bool lf], .int .i64 which] w fun e w' => e = .returned (.bool true) ∧ Below w.heap.size w w' := by
  obtain ⟨a1, a2, a3, hx⟩ := hmet.ex
  obtain ⟨k, hk⟩ := (few_ev o0 o1 o2 o3 l pre life idle lf).rounds
  have H : Has o0 o1 o2 o3 A c l pre life idle lf w a1 a2 a3 k (fewS l) := ⟨hr, hc, hmet, hx, hk⟩
  cases hf : fewS l
  · exact errors_off o0 o1 o2 o3 A c l pre life idle lf which w a1 a2 a3 k _ H (.inl hf)
  · have hl := few_ok hf
    rw [hf] at H
    by_cases h1 : which < 1
    · exact errors_off o0 o1 o2 o3 A c l pre life idle lf which w a1 a2 a3 k _ H (.inr (.inl ⟨rfl, decide_eq_true h1⟩))
    · by_cases h2 : 3 < which
      · exact errors_off o0 o1 o2 o3 A c l pre life idle lf which w a1 a2 a3 k _ H (.inr (.inr ⟨rfl, decide_eq_false h1, decide_eq_true h2⟩))
      · have hw := why_at o0 o1 o2 o3 l pre life idle lf hl
        have hy := may_at o0 o1 o2 o3 l pre life idle lf hl
        have hck : ∀ W, Below w.heap.size w W → Calls Tryd.prog 15 #[.agg #[.int .u8 o0, .int .u8 o1, .int .u8 o2, .int .u8 o3, .slice A l.length c, .int .i64 pre, .int .i64 life, .int .i64 idle, .bool lf]] W fun e w' => ∃ x, e = .returned x ∧ Bad w' a1 a2 a3 (whyS l pre life idle) x ∧ Below W.heap.size W w' := fun W hW => Check_calls o0 o1 o2 o3 A c l pre life idle lf W a1 a2 a3 (Kd.C_below hr hW) hc (hmet.below hW) hl (hx.below hW)
        have hi : which = 1 ∨ which = 2 ∨ which = 3 := by omega
        have hgo : whyS l pre life idle = (-1, 0) ∨ (∃ i, whyS l pre life idle = (i, 1)) ∨ (∃ i, whyS l pre life idle = (i, 2)) ∨ ∃ i, whyS l pre life idle = (i, 3) := by
          rw [whyS]
          cases okHead l.length pre life idle
          · exact .inr (.inl ⟨-1, rfl⟩)
          · rcases scan_goes l with ⟨he, _⟩ | ⟨i, _, he, _⟩ | ⟨i, _, he, _⟩
            · exact .inl he
            · exact .inr (.inr (.inl ⟨_, he⟩))
            · exact .inr (.inr (.inr ⟨_, he⟩))
        rcases hgo with he | ⟨i, he⟩ | ⟨i, he⟩ | ⟨i, he⟩
        · rw [he] at hw hy hck
          exact errors_none o0 o1 o2 o3 A c l pre life idle lf which w a1 a2 a3 k H (decide_eq_false h1) (decide_eq_false h2) hw hy fun W hW => (hck W hW).mono fun e w' ⟨x, hx', hb, hB⟩ => by
            cases hb; exact ⟨hx', hB⟩
        · rw [he] at hw hck
          exact errors_1 o0 o1 o2 o3 A c l pre life idle lf which w a1 a2 a3 k i H hi hw fun W hW => (hck W hW).mono fun e w' ⟨x, hx', hb, hB⟩ => by
            cases hb with
            | one pb i hk => exact ⟨pb, i, hx', hk, hB⟩
        · rw [he] at hw hck
          exact errors_2 o0 o1 o2 o3 A c l pre life idle lf which w a1 a2 a3 k i H hi hw fun W hW => (hck W hW).mono fun e w' ⟨x, hx', hb, hB⟩ => by
            cases hb with
            | two pb i hk => exact ⟨pb, i, hx', hk, hB⟩
        · rw [he] at hw hck
          exact errors_3 o0 o1 o2 o3 A c l pre life idle lf which w a1 a2 a3 k i H hi hw fun W hW => (hck W hW).mono fun e w' ⟨x, hx', hb, hB⟩ => by
            cases hb with
            | three pb i hk => exact ⟨pb, i, hx', hk, hB⟩
end Go.Proofs.YtajaedebndeajaaDoor.Conf
