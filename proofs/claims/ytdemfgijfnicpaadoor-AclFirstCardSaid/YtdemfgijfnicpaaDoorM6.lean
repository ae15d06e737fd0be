/- Contracts and plain facts that the law's proof needs. -/
import Derived.Test.YtdemfgijfnicpaaDoorM1
import Derived.Test.YtdemfgijfnicpaaDoorM2
import Derived.Test.YtdemfgijfnicpaaDoorM3
import Derived.Test.YtdemfgijfnicpaaDoorM4
namespace Go.Proofs.YtdemfgijfnicpaaDoor.Q
open Go.RowKit Go.Proofs.YtdemfgijfnicpaaDoor.AclMet Go.Proofs.YtdemfgijfnicpaaDoorW.PrintWords Go.Proofs.YtdemfgijfnicpaaDoorW.PrintLast Go.Proofs.YtdemfgijfnicpaaDoorW.PrintMore
attribute [local go_sem] max2_int min2_int max_two min_two max_three min_three max_four min_four   -- for this text's walks alone
set_option linter.unusedVariables false
set_option linter.unusedSimpArgs false

/-! ### wharfingerlaw11_AclFirst: function 4 -/
mutual
def wharfingerlaw11_AclFirst.j0 : Nat → List (S28) → List (S28) → ByteArray → ByteArray → Bool → Bool → Bool → Option (Bool)
  | 0, _, _, _, _, _, _, _ => none
  | k + 1, x0, x1, x2, x3, x4, x11, x43 => if x43 = true then (some x11) else ((acl_Which.f x0 x2 x3).bind fun t180 => (if ([] : List (S28)).length + x0.length < 3518437208883 then ((some (([] : List (S28)) ++ x0 : List (S28))).bind fun y181 => (if y181.length + x1.length < 3518437208883 then ((some (y181 ++ x1 : List (S28))).bind fun y184 => ((some (([(⟨x4, (⟨#[]⟩ : ByteArray), (⟨#[47]⟩ : ByteArray)⟩ : S28)] : List (S28)) : List (S28))).bind fun y187 => (if y187.length + x0.length < 3518437208883 then ((acl_Allowed.f (y187 ++ x0) x2 x3).bind fun t193 => (if x4 = true then ((path_May.f x3).bind fun t194 => (wharfingerlaw11_AclFirst.j1 k x0 x1 x2 x3 t180 y184 (t193 != t194))) else (wharfingerlaw11_AclFirst.j1 k x0 x1 x2 x3 t180 y184 (t193 != false)))) else (none)))) else (none))) else (none)))
def wharfingerlaw11_AclFirst.j1 : Nat → List (S28) → List (S28) → ByteArray → ByteArray → Int → List (S28) → Bool → Option (Bool)
  | 0, _, _, _, _, _, _, _ => none
  | k + 1, x0, x1, x2, x3, x14, x15, x67 => if x67 = true then (some false) else (if x14 < 0 then ((acl_Which.f x1 x2 x3).bind fun t195 => ((acl_Which.f x15 x2 x3).bind fun t196 => (if t195 < 0 then (if t196 < 0 then (some true) else (some (t196 == (wrap64 (t195 + (x0.length : Int)))))) else (some (t196 == (wrap64 (t195 + (x0.length : Int)))))))) else (if x14 < (x0.length : Int) then ((acl_Which.f x15 x2 x3).bind fun t197 => (if t197 = x14 then (if 0 ≤ x14 then (if x14 ≤ (x0.length : Int) then ((acl_Which.f (x0.take (x14 : Int).toNat) x2 x3).bind fun t202 => (if t202 = (-1) then ((acl_Allowed.f x15 x2 x3).bind fun t203 => ((acl_Allowed.f x0 x2 x3).bind fun t204 => (some (t203 == t204)))) else (some false))) else (none)) else (none)) else (some false))) else (some false)))
end
def wharfingerlaw11_AclFirst.f (k : Nat) (l0 : List (S28)) (l1 : List (S28)) (a2 : ByteArray) (a3 : ByteArray) (a4 : Bool) : Option (Bool) := (wharfingerlaw11_awake.f k).bind fun t177 => ((wharfingerlaw11_Few.f k l0).bind fun t178 => ((wharfingerlaw11_Few.f k l1).bind fun t179 => (if t177 = true then (if t178 = true then (if t179 = true then (if (a2.size : Int) > 300 then (wharfingerlaw11_AclFirst.j0 k l0 l1 a2 a3 a4 t177 true) else (wharfingerlaw11_AclFirst.j0 k l0 l1 a2 a3 a4 t177 (decide ((a3.size : Int) > 300)))) else (wharfingerlaw11_AclFirst.j0 k l0 l1 a2 a3 a4 t177 true)) else (wharfingerlaw11_AclFirst.j0 k l0 l1 a2 a3 a4 t177 true)) else (wharfingerlaw11_AclFirst.j0 k l0 l1 a2 a3 a4 t177 true))))
theorem wharfingerlaw11_AclFirst.mono_l : ∀ k, (∀ y0 y1 y2 y3 y4 y5 y6, LeO (wharfingerlaw11_AclFirst.j0 k y0 y1 y2 y3 y4 y5 y6) (wharfingerlaw11_AclFirst.j0 (k + 1) y0 y1 y2 y3 y4 y5 y6)) ∧ (∀ y0 y1 y2 y3 y4 y5 y6, LeO (wharfingerlaw11_AclFirst.j1 k y0 y1 y2 y3 y4 y5 y6) (wharfingerlaw11_AclFirst.j1 (k + 1) y0 y1 y2 y3 y4 y5 y6))
  | 0 => ⟨fun _ _ _ _ _ _ _ r h => by simp [wharfingerlaw11_AclFirst.j0] at h, fun _ _ _ _ _ _ _ r h => by simp [wharfingerlaw11_AclFirst.j1] at h⟩
  | k + 1 => by
    obtain ⟨ih0, ih1⟩ := wharfingerlaw11_AclFirst.mono_l k
    refine ⟨?_, ?_⟩
    · intro y0 y1 y2 y3 y4 y5 y6
      unfold wharfingerlaw11_AclFirst.j0
      repeat' first
      | (with_reducible exact ih0 _ _ _ _ _ _ _)
      | (with_reducible exact ih1 _ _ _ _ _ _ _)
      | (with_reducible exact wharfingerlaw11_Few.mono _ _)
      | (with_reducible exact wharfingerlaw11_awake.mono _)
      | (with_reducible exact LeO.refl _)
      | (with_reducible exact LeO.none _)
      | (with_reducible refine LeO.ite ?_ ?_)
      | (with_reducible refine LeO.bind ?_ (fun _ => ?_))
      | exact ih0 _ _ _ _ _ _ _
      | exact ih1 _ _ _ _ _ _ _
      | exact wharfingerlaw11_Few.mono _ _
      | exact wharfingerlaw11_awake.mono _
      | exact LeO.none _
      | refine LeO.ite ?_ ?_
      | refine LeO.bind ?_ (fun _ => ?_)
    · intro y0 y1 y2 y3 y4 y5 y6
      unfold wharfingerlaw11_AclFirst.j1
      repeat' first
      | (with_reducible exact ih0 _ _ _ _ _ _ _)
      | (with_reducible exact ih1 _ _ _ _ _ _ _)
      | (with_reducible exact wharfingerlaw11_Few.mono _ _)
      | (with_reducible exact wharfingerlaw11_awake.mono _)
      | (with_reducible exact LeO.refl _)
      | (with_reducible exact LeO.none _)
      | (with_reducible refine LeO.ite ?_ ?_)
      | (with_reducible refine LeO.bind ?_ (fun _ => ?_))
      | exact ih0 _ _ _ _ _ _ _
      | exact ih1 _ _ _ _ _ _ _
      | exact wharfingerlaw11_Few.mono _ _
      | exact wharfingerlaw11_awake.mono _
      | exact LeO.none _
      | refine LeO.ite ?_ ?_
      | refine LeO.bind ?_ (fun _ => ?_)
theorem wharfingerlaw11_AclFirst.mono : ∀ a0 a1 a2 a3 a4 k, LeO (wharfingerlaw11_AclFirst.f k a0 a1 a2 a3 a4) (wharfingerlaw11_AclFirst.f (k + 1) a0 a1 a2 a3 a4) := by
  intro a0 a1 a2 a3 a4 k
  obtain ⟨ih0, ih1⟩ := wharfingerlaw11_AclFirst.mono_l k
  unfold wharfingerlaw11_AclFirst.f
  repeat' first
      | (with_reducible exact ih0 _ _ _ _ _ _ _)
      | (with_reducible exact ih1 _ _ _ _ _ _ _)
      | (with_reducible exact wharfingerlaw11_Few.mono _ _)
      | (with_reducible exact wharfingerlaw11_awake.mono _)
      | (with_reducible exact LeO.refl _)
      | (with_reducible exact LeO.none _)
      | (with_reducible refine LeO.ite ?_ ?_)
      | (with_reducible refine LeO.bind ?_ (fun _ => ?_))
      | exact ih0 _ _ _ _ _ _ _
      | exact ih1 _ _ _ _ _ _ _
      | exact wharfingerlaw11_Few.mono _ _
      | exact wharfingerlaw11_awake.mono _
      | exact LeO.none _
      | refine LeO.ite ?_ ?_
      | refine LeO.bind ?_ (fun _ => ?_)
set_option maxHeartbeats 8000000 in
set_option maxRecDepth 100000 in
theorem wharfingerlaw11_AclFirst.calls (k : Nat) (A0 : Option Addr) (c0 : Nat) (l0 : List (S28)) (A1 : Option Addr) (c1 : Nat) (l1 : List (S28)) (a2 : ByteArray) (a3 : ByteArray) (a4 : Bool) (r : Bool) (w : World) (hr0 : Kd.C k28 w A0 l0.length l0) (hc0 : l0.length ≤ c0) (hr1 : Kd.C k28 w A1 l1.length l1) (hc1 : l1.length ≤ c1) (hmet : WMet w) (h : wharfingerlaw11_AclFirst.f k l0 l1 a2 a3 a4 = some r) :
    Calls Tryd.prog 4 #[.slice A0 l0.length c0, .slice A1 l1.length c1, .string a2, .string a3, .bool a4] w fun e w' => e = .returned (.bool r) ∧ Below w.heap.size w w' := by
  have HMET := Aside0.mk hmet
  clear hmet
  have hu28 := Tryd.underlying28
  have HR0 := Aside0.mk hr0
  have HC0 := Aside0.mk hc0
  clear hr0 hc0
  have HR1 := Aside0.mk hr1
  have HC1 := Aside0.mk hc1
  clear hr1 hc1
  have HB := Aside0.mk (Below.refl w.heap.size w)
  have H : ((wharfingerlaw11_awake.f k).bind fun t177 => ((wharfingerlaw11_Few.f k l0).bind fun t178 => ((wharfingerlaw11_Few.f k l1).bind fun t179 => (if t177 = true then (if t178 = true then (if t179 = true then (if (a2.size : Int) > 300 then (wharfingerlaw11_AclFirst.j0 k l0 l1 a2 a3 a4 t177 true) else (wharfingerlaw11_AclFirst.j0 k l0 l1 a2 a3 a4 t177 (decide ((a3.size : Int) > 300)))) else (wharfingerlaw11_AclFirst.j0 k l0 l1 a2 a3 a4 t177 true)) else (wharfingerlaw11_AclFirst.j0 k l0 l1 a2 a3 a4 t177 true)) else (wharfingerlaw11_AclFirst.j0 k l0 l1 a2 a3 a4 t177 true))))) = some r := h
  clear h
  replace H := Option.bind_eq_some_iff.mp H
  obtain ⟨t177, A60, H⟩ := H
  replace H : ((wharfingerlaw11_Few.f k l0).bind fun t178 => ((wharfingerlaw11_Few.f k l1).bind fun t179 => (if t177 = true then (if t178 = true then (if t179 = true then (if (a2.size : Int) > 300 then (wharfingerlaw11_AclFirst.j0 k l0 l1 a2 a3 a4 t177 true) else (wharfingerlaw11_AclFirst.j0 k l0 l1 a2 a3 a4 t177 (decide ((a3.size : Int) > 300)))) else (wharfingerlaw11_AclFirst.j0 k l0 l1 a2 a3 a4 t177 true)) else (wharfingerlaw11_AclFirst.j0 k l0 l1 a2 a3 a4 t177 true)) else (wharfingerlaw11_AclFirst.j0 k l0 l1 a2 a3 a4 t177 true)))) = some r := H
  have A6 := Aside0.mk A60
  clear A60
  replace H := Option.bind_eq_some_iff.mp H
  obtain ⟨t178, A70, H⟩ := H
  replace H : ((wharfingerlaw11_Few.f k l1).bind fun t179 => (if t177 = true then (if t178 = true then (if t179 = true then (if (a2.size : Int) > 300 then (wharfingerlaw11_AclFirst.j0 k l0 l1 a2 a3 a4 t177 true) else (wharfingerlaw11_AclFirst.j0 k l0 l1 a2 a3 a4 t177 (decide ((a3.size : Int) > 300)))) else (wharfingerlaw11_AclFirst.j0 k l0 l1 a2 a3 a4 t177 true)) else (wharfingerlaw11_AclFirst.j0 k l0 l1 a2 a3 a4 t177 true)) else (wharfingerlaw11_AclFirst.j0 k l0 l1 a2 a3 a4 t177 true))) = some r := H
  have A7 := Aside0.mk A70
  clear A70
  replace H := Option.bind_eq_some_iff.mp H
  obtain ⟨t179, A80, H⟩ := H
  replace H : (if t177 = true then (if t178 = true then (if t179 = true then (if (a2.size : Int) > 300 then (wharfingerlaw11_AclFirst.j0 k l0 l1 a2 a3 a4 t177 true) else (wharfingerlaw11_AclFirst.j0 k l0 l1 a2 a3 a4 t177 (decide ((a3.size : Int) > 300)))) else (wharfingerlaw11_AclFirst.j0 k l0 l1 a2 a3 a4 t177 true)) else (wharfingerlaw11_AclFirst.j0 k l0 l1 a2 a3 a4 t177 true)) else (wharfingerlaw11_AclFirst.j0 k l0 l1 a2 a3 a4 t177 true)) = some r := H
  have A8 := Aside0.mk A80
  clear A80
  have HC9 := Aside0.mk H
  clear H
  go_enter Tryd.func4, Tryd.ntmps4
  go_upto_region 4 with (first | ((with_reducible refine gate_callee (f := 7) rfl ?_); refine goesL_ (some 19) rfl rfl Tryd.func7 (by kernel_rfl) rfl #[] rfl (by (try simp only [List.map_toArray, List.map_cons, List.map_nil]); first | done | rfl | (simp only [List.length_drop, List.length_take]; rfl)) ?_; (with_reducible refine (wharfingerlaw11_awake.calls k  t177 _ ?side1 A6.out).mono ?_); (case side1 => exact HMET.out.below (by repeat (first | (with_reducible first | exact HB.out | apply below_alloc | apply pw_below_drewN | apply below_drew1) | exact HB.out))); rintro e w10 ⟨rfl, hb⟩; refine ⟨_, rfl, ?_⟩; have n0_ := Aside0.mk (below_step (by repeat (first | (with_reducible first | exact HB.out | apply below_alloc | apply pw_below_drewN | apply below_drew1) | exact HB.out)) hb); clear HB; have HB := n0_; clear n0_; (try clear hb); (try clear hb2); (try clear hk); (try clear hi)) | ((with_reducible refine gate_callee (f := 8) rfl ?_); refine goesL_ (some 21) rfl rfl Tryd.func8 (by kernel_rfl) rfl #[.slice A0 l0.length c0] rfl (by (try simp only [List.map_toArray, List.map_cons, List.map_nil]); first | done | rfl | (simp only [List.length_drop, List.length_take]; rfl)) ?_; (with_reducible refine (wharfingerlaw11_Few.calls k _ _ l0 t178 _ ?side1 ?side2 A7.out).mono ?_); (case side1 => repeat (first | exact (Kd.C_below HR0.out HB.out) | (with_reducible refine Kd.C_alloc ?_ _) | (with_reducible refine Kd.C_drewN ?_ _) | (with_reducible refine Kd.C_drew ?_))); (case side2 => exact HC0.out); rintro e w' ⟨rfl, ⟨nd, rfl⟩⟩; refine ⟨_, rfl, ?_⟩) | ((with_reducible refine gate_callee (f := 8) rfl ?_); refine goesL_ (some 23) rfl rfl Tryd.func8 (by kernel_rfl) rfl #[.slice A1 l1.length c1] rfl (by (try simp only [List.map_toArray, List.map_cons, List.map_nil]); first | done | rfl | (simp only [List.length_drop, List.length_take]; rfl)) ?_; (with_reducible refine (wharfingerlaw11_Few.calls k _ _ l1 t179 _ ?side1 ?side2 A8.out).mono ?_); (case side1 => repeat (first | exact (Kd.C_below HR1.out (by repeat (first | (with_reducible first | exact HB.out | apply below_alloc | apply pw_below_drewN | apply below_drew1) | exact HB.out))) | (with_reducible refine Kd.C_alloc ?_ _) | (with_reducible refine Kd.C_drewN ?_ _) | (with_reducible refine Kd.C_drew ?_))); (case side2 => exact HC1.out); rintro e w' ⟨rfl, ⟨nd, rfl⟩⟩; refine ⟨_, rfl, ?_⟩))
  (try simp only [Act.put, List.setIfInBounds_toArray, List.set_cons_zero, List.set_cons_succ])
  go_cut [43] (fun v43 wc => ∃ (kq : Nat) (x43_8 : Bool), v43 = .bool x43_8 ∧ Aside0 (wharfingerlaw11_AclFirst.j0 kq l0 l1 a2 a3 a4 t177 x43_8 = some r) ∧ Aside0 (kq ≤ k) ∧ Aside0 (Below w.heap.size w wc))
  case first =>
    have H := HC9.out
    clear HC9
    by_cases c11 : t177 = true
    · subst c11
      have H1 : (if t178 = true then (if t179 = true then (if (a2.size : Int) > 300 then (wharfingerlaw11_AclFirst.j0 k l0 l1 a2 a3 a4 true true) else (wharfingerlaw11_AclFirst.j0 k l0 l1 a2 a3 a4 true (decide ((a3.size : Int) > 300)))) else (wharfingerlaw11_AclFirst.j0 k l0 l1 a2 a3 a4 true true)) else (wharfingerlaw11_AclFirst.j0 k l0 l1 a2 a3 a4 true true)) = some r := by rw [if_pos rfl] at H; exact H
      clear H
      have H := H1
      clear H1
      by_cases c12 : t178 = true
      · subst c12
        have H1 : (if t179 = true then (if (a2.size : Int) > 300 then (wharfingerlaw11_AclFirst.j0 k l0 l1 a2 a3 a4 true true) else (wharfingerlaw11_AclFirst.j0 k l0 l1 a2 a3 a4 true (decide ((a3.size : Int) > 300)))) else (wharfingerlaw11_AclFirst.j0 k l0 l1 a2 a3 a4 true true)) = some r := by rw [if_pos rfl] at H; exact H
        clear H
        have H := H1
        clear H1
        by_cases c13 : t179 = true
        · subst c13
          have H1 : (if (a2.size : Int) > 300 then (wharfingerlaw11_AclFirst.j0 k l0 l1 a2 a3 a4 true true) else (wharfingerlaw11_AclFirst.j0 k l0 l1 a2 a3 a4 true (decide ((a3.size : Int) > 300)))) = some r := by rw [if_pos rfl] at H; exact H
          clear H
          have H := H1
          clear H1
          by_cases c14 : (a2.size : Int) > 300
          · rw [if_pos c14] at H
            have c14b0 : decide (300 < (a2.size : Int)) = true := decide_eq_true c14
            have c14b1 : decide (300 < a2.size) = true := decide_eq_true (by omega)
            clear c14
            (first | rw [c14b0] | (simp only [i64_w, i32_w]; rw [c14b0]) | skip)
            have H' := Aside0.mk H
            clear H
            go_wp2
            go_meet
            case rel => exact ⟨_, (true), (by first | rfl | (simp; done) | (simp [*]; done)), H', ⟨by first | omega | exact Nat.le_refl _⟩, ⟨by repeat (first | (with_reducible first | exact HB.out | apply below_alloc | apply pw_below_drewN | apply below_drew1) | exact HB.out)⟩⟩
          · rw [if_neg c14] at H
            have c14b0 : decide (300 < (a2.size : Int)) = false := decide_eq_false c14
            have c14b1 : decide (300 < a2.size) = false := decide_eq_false (by omega)
            clear c14
            (first | rw [c14b0] | (simp only [i64_w, i32_w]; rw [c14b0]) | skip)
            have H' := Aside0.mk H
            clear H
            go_wp2
            go_meet
            case rel => exact ⟨_, (decide ((a3.size : Int) > 300)), (by first | rfl | (simp; done) | (simp [*]; done)), H', ⟨by first | omega | exact Nat.le_refl _⟩, ⟨by repeat (first | (with_reducible first | exact HB.out | apply below_alloc | apply pw_below_drewN | apply below_drew1) | exact HB.out)⟩⟩
        · replace c13 := Bool.eq_false_iff.mpr c13
          subst c13
          have H1 : (wharfingerlaw11_AclFirst.j0 k l0 l1 a2 a3 a4 true true) = some r := by rw [if_neg (show ¬ (false = true) by decide)] at H; exact H
          clear H
          have H := H1
          clear H1
          have H' := Aside0.mk H
          clear H
          go_wp2
          go_meet
          case rel => exact ⟨_, (true), (by first | rfl | (simp; done) | (simp [*]; done)), H', ⟨by first | omega | exact Nat.le_refl _⟩, ⟨by repeat (first | (with_reducible first | exact HB.out | apply below_alloc | apply pw_below_drewN | apply below_drew1) | exact HB.out)⟩⟩
      · replace c12 := Bool.eq_false_iff.mpr c12
        subst c12
        have H1 : (wharfingerlaw11_AclFirst.j0 k l0 l1 a2 a3 a4 true true) = some r := by rw [if_neg (show ¬ (false = true) by decide)] at H; exact H
        clear H
        have H := H1
        clear H1
        have H' := Aside0.mk H
        clear H
        go_wp2
        go_meet
        case rel => exact ⟨_, (true), (by first | rfl | (simp; done) | (simp [*]; done)), H', ⟨by first | omega | exact Nat.le_refl _⟩, ⟨by repeat (first | (with_reducible first | exact HB.out | apply below_alloc | apply pw_below_drewN | apply below_drew1) | exact HB.out)⟩⟩
    · replace c11 := Bool.eq_false_iff.mpr c11
      subst c11
      have H1 : (wharfingerlaw11_AclFirst.j0 k l0 l1 a2 a3 a4 false true) = some r := by rw [if_neg (show ¬ (false = true) by decide)] at H; exact H
      clear H
      have H := H1
      clear H1
      have H' := Aside0.mk H
      clear H
      go_wp2
      go_meet
      case rel => exact ⟨_, (true), (by first | rfl | (simp; done) | (simp [*]; done)), H', ⟨by first | omega | exact Nat.le_refl _⟩, ⟨by repeat (first | (with_reducible first | exact HB.out | apply below_alloc | apply pw_below_drewN | apply below_drew1) | exact HB.out)⟩⟩
  case rest =>
    clear HC9
    try clear c1
    try clear p2
    try clear c4
    try clear c7
    try clear c8
    try clear c11
    try clear c12
    try clear c13
    try clear c14
    try clear c14b0
    try clear c14b1
    obtain ⟨kq, x43_8, rfl, HA, HJ8, HB⟩ := hcut
    cases kq with
    | zero => exact absurd HA.out (by simp [wharfingerlaw11_AclFirst.j0])
    | succ kj8 =>
      have H := HA.out
      clear HA
      simp only [wharfingerlaw11_AclFirst.j0] at H
      by_cases c15 : x43_8 = true
      · subst c15
        have H1 : (some t177) = some r := by rw [if_pos rfl] at H; exact H
        clear H
        have H := H1
        clear H1
        obtain rfl := Option.some.inj H
        go_wp2
        go_ret
        exact ⟨by first | rfl | (simp [errW_none, errW_some] <;> rfl) | (simp [*, errW_none, errW_some] <;> rfl), by repeat (first | (with_reducible first | exact HB.out | apply below_alloc | apply pw_below_drewN | apply below_drew1) | exact HB.out)⟩
      · replace c15 := Bool.eq_false_iff.mpr c15
        subst c15
        have H1 : ((acl_Which.f l0 a2 a3).bind fun t180 => (if ([] : List (S28)).length + l0.length < 3518437208883 then ((some (([] : List (S28)) ++ l0 : List (S28))).bind fun y181 => (if y181.length + l1.length < 3518437208883 then ((some (y181 ++ l1 : List (S28))).bind fun y184 => ((some (([(⟨a4, (⟨#[]⟩ : ByteArray), (⟨#[47]⟩ : ByteArray)⟩ : S28)] : List (S28)) : List (S28))).bind fun y187 => (if y187.length + l0.length < 3518437208883 then ((acl_Allowed.f (y187 ++ l0) a2 a3).bind fun t193 => (if a4 = true then ((path_May.f a3).bind fun t194 => (wharfingerlaw11_AclFirst.j1 kj8 l0 l1 a2 a3 t180 y184 (t193 != t194))) else (wharfingerlaw11_AclFirst.j1 kj8 l0 l1 a2 a3 t180 y184 (t193 != false)))) else (none)))) else (none))) else (none))) = some r := by rw [if_neg (show ¬ (false = true) by decide)] at H; exact H
        clear H
        have H := H1
        clear H1
        replace H := Option.bind_eq_some_iff.mp H
        obtain ⟨t180, A160, H⟩ := H
        replace H : (if ([] : List (S28)).length + l0.length < 3518437208883 then ((some (([] : List (S28)) ++ l0 : List (S28))).bind fun y181 => (if y181.length + l1.length < 3518437208883 then ((some (y181 ++ l1 : List (S28))).bind fun y184 => ((some (([(⟨a4, (⟨#[]⟩ : ByteArray), (⟨#[47]⟩ : ByteArray)⟩ : S28)] : List (S28)) : List (S28))).bind fun y187 => (if y187.length + l0.length < 3518437208883 then ((acl_Allowed.f (y187 ++ l0) a2 a3).bind fun t193 => (if a4 = true then ((path_May.f a3).bind fun t194 => (wharfingerlaw11_AclFirst.j1 kj8 l0 l1 a2 a3 t180 y184 (t193 != t194))) else (wharfingerlaw11_AclFirst.j1 kj8 l0 l1 a2 a3 t180 y184 (t193 != false)))) else (none)))) else (none))) else (none)) = some r := H
        have A16 := Aside0.mk A160
        clear A160
        by_cases c17 : ([] : List (S28)).length + l0.length < 3518437208883
        · rw [if_pos c17] at H
          have LMc17 := Aside0.mk c17
          clear c17
          obtain ⟨y181, hy181⟩ : ∃ y_ : List (S28), y_ = (([] : List (S28)) ++ l0) := ⟨_, rfl⟩
          replace H : (if y181.length + l1.length < 3518437208883 then ((some (y181 ++ l1 : List (S28))).bind fun y184 => ((some (([(⟨a4, (⟨#[]⟩ : ByteArray), (⟨#[47]⟩ : ByteArray)⟩ : S28)] : List (S28)) : List (S28))).bind fun y187 => (if y187.length + l0.length < 3518437208883 then ((acl_Allowed.f (y187 ++ l0) a2 a3).bind fun t193 => (if a4 = true then ((path_May.f a3).bind fun t194 => (wharfingerlaw11_AclFirst.j1 kj8 l0 l1 a2 a3 t180 y184 (t193 != t194))) else (wharfingerlaw11_AclFirst.j1 kj8 l0 l1 a2 a3 t180 y184 (t193 != false)))) else (none)))) else (none)) = some r := by first | (rw [hy181]; with_reducible exact H) | (have H2_ := (Option.bind_some _ _).symm.trans H; rw [hy181]; with_reducible exact H2_) | (have H2_ := (Option.bind_some _ _).symm.trans H; with_reducible exact H2_) | with_reducible exact H | (rw [hy181]; exact H) | exact H
          have Ny181 := Aside0.mk hy181
          clear hy181
          by_cases c18 : y181.length + l1.length < 3518437208883
          · rw [if_pos c18] at H
            have LMc18 := Aside0.mk c18
            clear c18
            obtain ⟨y184, hy184⟩ : ∃ y_ : List (S28), y_ = (y181 ++ l1) := ⟨_, rfl⟩
            replace H : ((some (([(⟨a4, (⟨#[]⟩ : ByteArray), (⟨#[47]⟩ : ByteArray)⟩ : S28)] : List (S28)) : List (S28))).bind fun y187 => (if y187.length + l0.length < 3518437208883 then ((acl_Allowed.f (y187 ++ l0) a2 a3).bind fun t193 => (if a4 = true then ((path_May.f a3).bind fun t194 => (wharfingerlaw11_AclFirst.j1 kj8 l0 l1 a2 a3 t180 y184 (t193 != t194))) else (wharfingerlaw11_AclFirst.j1 kj8 l0 l1 a2 a3 t180 y184 (t193 != false)))) else (none))) = some r := by first | (rw [hy184]; with_reducible exact H) | (have H2_ := (Option.bind_some _ _).symm.trans H; rw [hy184]; with_reducible exact H2_) | (have H2_ := (Option.bind_some _ _).symm.trans H; with_reducible exact H2_) | with_reducible exact H | (rw [hy184]; exact H) | exact H
            have Ny184 := Aside0.mk hy184
            clear hy184
            obtain ⟨y187, hy187⟩ : ∃ y_ : List (S28), y_ = (([(⟨a4, (⟨#[]⟩ : ByteArray), (⟨#[47]⟩ : ByteArray)⟩ : S28)] : List (S28))) := ⟨_, rfl⟩
            replace H : (if y187.length + l0.length < 3518437208883 then ((acl_Allowed.f (y187 ++ l0) a2 a3).bind fun t193 => (if a4 = true then ((path_May.f a3).bind fun t194 => (wharfingerlaw11_AclFirst.j1 kj8 l0 l1 a2 a3 t180 y184 (t193 != t194))) else (wharfingerlaw11_AclFirst.j1 kj8 l0 l1 a2 a3 t180 y184 (t193 != false)))) else (none)) = some r := by first | (rw [hy187]; with_reducible exact H) | (have H2_ := (Option.bind_some _ _).symm.trans H; rw [hy187]; with_reducible exact H2_) | (have H2_ := (Option.bind_some _ _).symm.trans H; with_reducible exact H2_) | with_reducible exact H | (rw [hy187]; exact H) | exact H
            have Ny187 := Aside0.mk hy187
            clear hy187
            by_cases c19 : y187.length + l0.length < 3518437208883
            · rw [if_pos c19] at H
              have LMc19 := Aside0.mk c19
              clear c19
              obtain ⟨y190, hy190⟩ : ∃ y_ : List (S28), y_ = (y187 ++ l0) := ⟨_, rfl⟩
              replace H : ((acl_Allowed.f y190 a2 a3).bind fun t193 => (if a4 = true then ((path_May.f a3).bind fun t194 => (wharfingerlaw11_AclFirst.j1 kj8 l0 l1 a2 a3 t180 y184 (t193 != t194))) else (wharfingerlaw11_AclFirst.j1 kj8 l0 l1 a2 a3 t180 y184 (t193 != false)))) = some r := by first | (rw [hy190]; with_reducible exact H) | (have H2_ := (Option.bind_some _ _).symm.trans H; rw [hy190]; with_reducible exact H2_) | (have H2_ := (Option.bind_some _ _).symm.trans H; with_reducible exact H2_) | with_reducible exact H | (rw [hy190]; exact H) | exact H
              have Ny190 := Aside0.mk hy190
              clear hy190
              have HC20 := Aside0.mk H
              clear H
              go_upto_region 9 with (first | ((with_reducible refine gate_callee (f := 12) rfl ?_); refine goesL_ (some 48) rfl rfl Tryd.func12 (by kernel_rfl) rfl #[.slice A0 l0.length c0, .string a2, .string a3] rfl (by (try simp only [List.map_toArray, List.map_cons, List.map_nil]); first | done | rfl | (simp only [List.length_drop, List.length_take]; rfl)) ?_; (with_reducible refine (acl_Which.calls _ _ l0 a2 a3 t180 _ ?side1 ?side2 ?side3 A16.out).mono ?_); (case side1 => repeat (first | exact (Kd.C_below HR0.out HB.out) | (with_reducible refine Kd.C_alloc ?_ _) | (with_reducible refine Kd.C_drewN ?_ _) | (with_reducible refine Kd.C_drew ?_))); (case side2 => exact HC0.out); (case side3 => exact HMET.out.below (by repeat (first | (with_reducible first | exact HB.out | apply below_alloc | apply pw_below_drewN | apply below_drew1) | exact HB.out))); rintro e w21 ⟨rfl, hb⟩; refine ⟨_, rfl, ?_⟩; have n0_ := Aside0.mk (below_step (by repeat (first | (with_reducible first | exact HB.out | apply below_alloc | apply pw_below_drewN | apply below_drew1) | exact HB.out)) hb); clear HB; have HB := n0_; clear n0_; (try clear hb); (try clear hb2); (try clear hk); (try clear hi)) | ((with_reducible refine gate_builtin (b := .append) (xs := #[.const (.slice none 0 0), .tmp 49]) rfl ?_); (try (refine gate_guard (by rfl) ?_; dsimp only)); at_builtin; refine Kd.R_append_rows k28 (w0 := w) w.heap.size rfl (.const (.slice none 0 0)) (.tmp 49) 22 28 (.agg #[(.bool false), (.string ⟨#[]⟩), (.string ⟨#[]⟩)]) 40 rfl Tryd.underlying22 info28 rfl (by decide) (by omega) (.slice none 0 0) ([] : List (S28)) l0 _ _ _ (fun _ => True) (fun _ => False) rfl rfl ?aO ?aR (fun _ _ h => h) (fun _ h => h.elim) ?aF ?aB ?aS ?aL ?_; (case aR => repeat (first | exact (Kd.C_below HR0.out HB.out) | (with_reducible refine Kd.C_alloc ?_ _) | (with_reducible refine Kd.C_drewN ?_ _) | (with_reducible refine Kd.C_drew ?_))); (case aB => exact (by repeat (first | (with_reducible first | exact HB.out | apply below_alloc | apply pw_below_drewN | apply below_drew1) | exact HB.out))); (case aF => exact (fun _ _ => trivial)); (case aO => exact ((Kd.R_nil _ _ _ _ (fun _ => True)))); (case aS => exact (below_size (by repeat (first | (with_reducible first | exact HB.out | apply below_alloc | apply pw_below_drewN | apply below_drew1) | exact HB.out)))); (case aL => have := LMc17.out; omega); intro v182 w22 ho hb hg hat; rw [← Ny181.out] at ho; have n0_ := Aside0.mk (hb); have n1_ := Aside0.mk (ho); clear HB; have HB := n0_; have HO183 := n1_; clear n0_ n1_; clear ho hb hg hat) | ((with_reducible refine gate_builtin (b := .append) (xs := #[.tmp 50, .tmp 51]) rfl ?_); (try (refine gate_guard (by rfl) ?_; dsimp only)); at_builtin; refine Kd.R_append_rows k28 (w0 := w) w.heap.size rfl (.tmp 50) (.tmp 51) 22 28 (.agg #[(.bool false), (.string ⟨#[]⟩), (.string ⟨#[]⟩)]) 40 rfl Tryd.underlying22 info28 rfl (by decide) (by omega) v182 y181 l1 _ _ _ (fun _ => True) (fun _ => False) rfl rfl ?aO ?aR (fun _ _ h => h) (fun _ h => h.elim) ?aF ?aB ?aS ?aL ?_; (case aR => repeat (first | exact (Kd.C_below HR1.out HB.out) | (with_reducible refine Kd.C_alloc ?_ _) | (with_reducible refine Kd.C_drewN ?_ _) | (with_reducible refine Kd.C_drew ?_))); (case aB => exact (by repeat (first | (with_reducible first | exact HB.out | apply below_alloc | apply pw_below_drewN | apply below_drew1) | exact HB.out))); (case aF => exact (fun _ _ => trivial)); (case aO => exact (by (with_reducible repeat (first | apply Kd.R_alloc | apply Kd.R_drewN | apply Kd.R_drew)); exact HO183.out)); (case aS => exact (below_size (by repeat (first | (with_reducible first | exact HB.out | apply below_alloc | apply pw_below_drewN | apply below_drew1) | exact HB.out)))); (case aL => have := LMc18.out; omega); intro v185 w23 ho hb hg hat; rw [← Ny184.out] at ho; have n0_ := Aside0.mk (hb); have n1_ := Aside0.mk (ho); clear HB; clear HO183; have HB := n0_; have HO186 := n1_; clear n0_ n1_; clear ho hb hg hat) | ((with_reducible refine gate_dst (N := 55) rfl ?_); (try (refine gate_guard (by rfl) ?_; dsimp only)); refine Kd.R_lit k28 _ 28 ?hg (N := 55) ?hd (xs := ([(⟨a4, (⟨#[]⟩ : ByteArray), (⟨#[47]⟩ : ByteArray)⟩ : S28)] : List (S28))) (inner := [.bool a4, .string (⟨#[]⟩ : ByteArray), .string (⟨#[47]⟩ : ByteArray)]) (ok := fun _ => True) (okp := fun _ => True) ?hr ?hp (fun _ hk => hk) trivial (Below.refl _ _) (Nat.le_refl _) (by simp) ?_; (case hd => rfl); (case hg => rfl); (case hr => first | (go_simp; done) | (go_simp; rfl)); (case hp => exact (Reps.c3 (show Kd.M k28 _ _ _ (⟨a4, (⟨#[]⟩ : ByteArray), (⟨#[47]⟩ : ByteArray)⟩ : S28) [.bool a4, .string (⟨#[]⟩ : ByteArray), .string (⟨#[47]⟩ : ByteArray)] from (k28_mkM _ _ _ (⟨a4, (⟨#[]⟩ : ByteArray), (⟨#[47]⟩ : ByteArray)⟩ : S28) )) (Reps.none _ _))); intro v188 w24 ho25 hb hg_ hnew_; clear hg_ hnew_; (first | rw [← Ny187.out] at ho25 | (simp only [Int.reduceToNat] at ho25; rw [← Ny187.out] at ho25)); have n0_ := Aside0.mk (Kd.R_elder' (by (with_reducible repeat (first | apply Kd.R_alloc | apply Kd.R_drewN | apply Kd.R_drew)); exact HO186.out) (Kd.R_base ho25) hb); have n1_ := Aside0.mk (Kd.R_lower (Kd.R_new' ho25 (Kd.R_lt (by (with_reducible repeat (first | apply Kd.R_alloc | apply Kd.R_drewN | apply Kd.R_drew)); exact HO186.out))) (below_size (by repeat (first | (with_reducible first | exact HB.out | apply below_alloc | apply pw_below_drewN | apply below_drew1) | exact HB.out)))); have n2_ := Aside0.mk (below_step (by repeat (first | (with_reducible first | exact HB.out | apply below_alloc | apply pw_below_drewN | apply below_drew1) | exact HB.out)) hb); clear HO186; clear HB; have HO186 := n0_; have HO189 := n1_; have HB := n2_; clear n0_ n1_ n2_; clear hb ho25) | ((with_reducible refine gate_builtin (b := .append) (xs := #[.tmp 55, .tmp 56]) rfl ?_); (try (refine gate_guard (by rfl) ?_; dsimp only)); at_builtin; refine Kd.R_append_rows k28 (w0 := w) w.heap.size rfl (.tmp 55) (.tmp 56) 22 28 (.agg #[(.bool false), (.string ⟨#[]⟩), (.string ⟨#[]⟩)]) 40 rfl Tryd.underlying22 info28 rfl (by decide) (by omega) v188 y187 l0 _ _ _ (fun k_ => some k_ ≠ (v185 : Value).ownBlock) (fun _ => False) rfl rfl ?aO ?aR (fun _ _ h => h) (fun _ h => h.elim) ?aF ?aB ?aS ?aL ?_; (case aR => repeat (first | exact (Kd.C_below HR0.out HB.out) | (with_reducible refine Kd.C_alloc ?_ _) | (with_reducible refine Kd.C_drewN ?_ _) | (with_reducible refine Kd.C_drew ?_))); (case aB => exact (by repeat (first | (with_reducible first | exact HB.out | apply below_alloc | apply pw_below_drewN | apply below_drew1) | exact HB.out))); (case aF => exact (fun k_ hk => Kd.fresh' (Kd.R_lt (by (with_reducible repeat (first | apply Kd.R_alloc | apply Kd.R_drewN | apply Kd.R_drew)); exact HO186.out)) k_ hk)); (case aO => exact (by (with_reducible repeat (first | apply Kd.R_alloc | apply Kd.R_drewN | apply Kd.R_drew)); exact Kd.R_mono HO189.out (fun _ hk => hk.2))); (case aS => exact (below_size (by repeat (first | (with_reducible first | exact HB.out | apply below_alloc | apply pw_below_drewN | apply below_drew1) | exact HB.out)))); (case aL => have := LMc19.out; omega); intro v191 w26 ho hb hg hat; rw [← Ny190.out] at ho; have n0_ := Aside0.mk (Kd.R_after (ok := (fun _ => True)) (by (with_reducible repeat (first | apply Kd.R_alloc | apply Kd.R_drewN | apply Kd.R_drew)); exact HO186.out) hg hat); have n1_ := Aside0.mk (hb); have n2_ := Aside0.mk (ho); clear HO186; clear HB; clear HO189; have HO186 := n0_; have HB := n1_; have HO192 := n2_; clear n0_ n1_ n2_; clear ho hb hg hat))
              (try simp only [Act.put, List.setIfInBounds_toArray, List.set_cons_zero, List.set_cons_succ])
              go_cut [67] (fun v67 wc => ∃ (kq : Nat) (x67_19 : Bool), v67 = .bool x67_19 ∧ Aside0 (wharfingerlaw11_AclFirst.j1 kq l0 l1 a2 a3 t180 y184 x67_19 = some r) ∧ Aside0 (kq ≤ kj8) ∧ Aside0 (Kd.R k28 28 wc w.heap.size (fun _ => True) v185 y184) ∧ Aside0 (Below w.heap.size w wc))
              case first =>
                have H := HC20.out
                clear HC20
                replace H := Option.bind_eq_some_iff.mp H
                obtain ⟨t193, A270, H⟩ := H
                replace H : (if a4 = true then ((path_May.f a3).bind fun t194 => (wharfingerlaw11_AclFirst.j1 kj8 l0 l1 a2 a3 t180 y184 (t193 != t194))) else (wharfingerlaw11_AclFirst.j1 kj8 l0 l1 a2 a3 t180 y184 (t193 != false))) = some r := H
                have A27 := Aside0.mk A270
                clear A270
                by_cases c28 : a4 = true
                · subst c28
                  have H1 : ((path_May.f a3).bind fun t194 => (wharfingerlaw11_AclFirst.j1 kj8 l0 l1 a2 a3 t180 y184 (t193 != t194))) = some r := by rw [if_pos rfl] at H; exact H
                  clear H
                  have H := H1
                  clear H1
                  replace H := Option.bind_eq_some_iff.mp H
                  obtain ⟨t194, A290, H⟩ := H
                  replace H : (wharfingerlaw11_AclFirst.j1 kj8 l0 l1 a2 a3 t180 y184 (t193 != t194)) = some r := H
                  have A29 := Aside0.mk A290
                  clear A290
                  have H' := Aside0.mk H
                  clear H
                  obtain ⟨Ao30, co30, eo30⟩ := Kd.R_slice HO192.out
                  subst eo30
                  go_wp2_with (first | ((with_reducible refine gate_callee (f := 14) rfl ?_); refine goesL_ (some 61) rfl rfl Tryd.func14 (by kernel_rfl) rfl #[.slice Ao30 y190.length co30, .string a2, .string a3] rfl (by (try simp only [List.map_toArray, List.map_cons, List.map_nil]); first | done | rfl | (simp only [List.length_drop, List.length_take]; rfl)) ?_; (with_reducible refine (acl_Allowed.calls _ _ y190 a2 a3 t193 _ ?side1 ?side2 ?side3 A27.out).mono ?_); (case side1 => repeat (first | exact (Kd.R_reads' HO192.out).2.2 | (with_reducible refine Kd.C_alloc ?_ _) | (with_reducible refine Kd.C_drewN ?_ _) | (with_reducible refine Kd.C_drew ?_))); (case side2 => exact (Kd.R_reads' HO192.out).2.1); (case side3 => exact HMET.out.below (by repeat (first | (with_reducible first | exact HB.out | apply below_alloc | apply pw_below_drewN | apply below_drew1) | exact HB.out))); rintro e w31 ⟨rfl, hb⟩; refine ⟨_, rfl, ?_⟩; have n0_ := Aside0.mk (Kd.R_below (by (with_reducible repeat (first | apply Kd.R_alloc | apply Kd.R_drewN | apply Kd.R_drew)); exact HO186.out) hb); have n1_ := Aside0.mk (Kd.R_below (by (with_reducible repeat (first | apply Kd.R_alloc | apply Kd.R_drewN | apply Kd.R_drew)); exact HO192.out) hb); have n2_ := Aside0.mk (below_step (by repeat (first | (with_reducible first | exact HB.out | apply below_alloc | apply pw_below_drewN | apply below_drew1) | exact HB.out)) hb); clear HO186; clear HO192; clear HB; have HO186 := n0_; have HO192 := n1_; have HB := n2_; clear n0_ n1_ n2_; (try clear hb); (try clear hb2); (try clear hk); (try clear hi)) | (go_at_call 15; (with_reducible refine (path_May.calls a3 t194 _ ?side1 A29.out).mono ?_); (case side1 => exact HMET.out.below (by repeat (first | (with_reducible first | exact HB.out | apply below_alloc | apply pw_below_drewN | apply below_drew1) | exact HB.out))); rintro e w32 ⟨rfl, hb⟩; have n0_ := Aside0.mk (Kd.R_below (by (with_reducible repeat (first | apply Kd.R_alloc | apply Kd.R_drewN | apply Kd.R_drew)); exact HO186.out) hb); have n1_ := Aside0.mk (Kd.R_below (by (with_reducible repeat (first | apply Kd.R_alloc | apply Kd.R_drewN | apply Kd.R_drew)); exact HO192.out) hb); have n2_ := Aside0.mk (below_step (by repeat (first | (with_reducible first | exact HB.out | apply below_alloc | apply pw_below_drewN | apply below_drew1) | exact HB.out)) hb); clear HO186; clear HO192; clear HB; have HO186 := n0_; have HO192 := n1_; have HB := n2_; clear n0_ n1_ n2_; (try clear hb); (try clear hb2); (try clear hk); (try clear hi)))
                  go_meet
                  case rel => exact ⟨_, ((t193 != t194)), (by first | rfl | (simp; done) | (simp [*]; done)), H', ⟨by have := HJ8.out; first | omega | exact Nat.le_refl _⟩, ⟨by (with_reducible repeat (first | apply Kd.R_alloc | apply Kd.R_drewN | apply Kd.R_drew)); exact Kd.R_mono HO186.out (fun _ hk => trivial)⟩, ⟨by repeat (first | (with_reducible first | exact HB.out | apply below_alloc | apply pw_below_drewN | apply below_drew1) | exact HB.out)⟩⟩
                · replace c28 := Bool.eq_false_iff.mpr c28
                  subst c28
                  have H1 : (wharfingerlaw11_AclFirst.j1 kj8 l0 l1 a2 a3 t180 y184 (t193 != false)) = some r := by rw [if_neg (show ¬ (false = true) by decide)] at H; exact H
                  clear H
                  have H := H1
                  clear H1
                  have H' := Aside0.mk H
                  clear H
                  obtain ⟨Ao33, co33, eo33⟩ := Kd.R_slice HO192.out
                  subst eo33
                  go_wp2_with (first | ((with_reducible refine gate_callee (f := 14) rfl ?_); refine goesL_ (some 61) rfl rfl Tryd.func14 (by kernel_rfl) rfl #[.slice Ao33 y190.length co33, .string a2, .string a3] rfl (by (try simp only [List.map_toArray, List.map_cons, List.map_nil]); first | done | rfl | (simp only [List.length_drop, List.length_take]; rfl)) ?_; (with_reducible refine (acl_Allowed.calls _ _ y190 a2 a3 t193 _ ?side1 ?side2 ?side3 A27.out).mono ?_); (case side1 => repeat (first | exact (Kd.R_reads' HO192.out).2.2 | (with_reducible refine Kd.C_alloc ?_ _) | (with_reducible refine Kd.C_drewN ?_ _) | (with_reducible refine Kd.C_drew ?_))); (case side2 => exact (Kd.R_reads' HO192.out).2.1); (case side3 => exact HMET.out.below (by repeat (first | (with_reducible first | exact HB.out | apply below_alloc | apply pw_below_drewN | apply below_drew1) | exact HB.out))); rintro e w34 ⟨rfl, hb⟩; refine ⟨_, rfl, ?_⟩; have n0_ := Aside0.mk (Kd.R_below (by (with_reducible repeat (first | apply Kd.R_alloc | apply Kd.R_drewN | apply Kd.R_drew)); exact HO186.out) hb); have n1_ := Aside0.mk (Kd.R_below (by (with_reducible repeat (first | apply Kd.R_alloc | apply Kd.R_drewN | apply Kd.R_drew)); exact HO192.out) hb); have n2_ := Aside0.mk (below_step (by repeat (first | (with_reducible first | exact HB.out | apply below_alloc | apply pw_below_drewN | apply below_drew1) | exact HB.out)) hb); clear HO186; clear HO192; clear HB; have HO186 := n0_; have HO192 := n1_; have HB := n2_; clear n0_ n1_ n2_; (try clear hb); (try clear hb2); (try clear hk); (try clear hi)))
                  go_meet
                  case rel => exact ⟨_, ((t193 != false)), (by first | rfl | (simp; done) | (simp [*]; done)), H', ⟨by have := HJ8.out; first | omega | exact Nat.le_refl _⟩, ⟨by (with_reducible repeat (first | apply Kd.R_alloc | apply Kd.R_drewN | apply Kd.R_drew)); exact Kd.R_mono HO186.out (fun _ hk => trivial)⟩, ⟨by repeat (first | (with_reducible first | exact HB.out | apply below_alloc | apply pw_below_drewN | apply below_drew1) | exact HB.out)⟩⟩
              case rest =>
                clear HC20
                try clear c1
                try clear c2
                try clear p2
                try clear c3
                try clear c4
                try clear c7
                try clear c8
                try clear c11
                try clear c12
                try clear c13
                try clear c14
                try clear c14b0
                try clear c14b1
                try clear c15
                try clear c17
                try clear c18
                try clear c19
                try clear c28
                try clear p2
                obtain ⟨kq, x67_19, rfl, HA, HJ19, HO_15, HB⟩ := hcut
                cases kq with
                | zero => exact absurd HA.out (by simp [wharfingerlaw11_AclFirst.j1])
                | succ kj19 =>
                  have H := HA.out
                  clear HA
                  simp only [wharfingerlaw11_AclFirst.j1] at H
                  by_cases c35 : x67_19 = true
                  · subst c35
                    have H1 : (some false) = some r := by rw [if_pos rfl] at H; exact H
                    clear H
                    have H := H1
                    clear H1
                    obtain rfl := Option.some.inj H
                    go_wp2
                    go_ret
                    exact ⟨by first | rfl | (simp [errW_none, errW_some] <;> rfl) | (simp [*, errW_none, errW_some] <;> rfl), by repeat (first | (with_reducible first | exact HB.out | apply below_alloc | apply pw_below_drewN | apply below_drew1) | exact HB.out)⟩
                  · replace c35 := Bool.eq_false_iff.mpr c35
                    subst c35
                    have H1 : (if t180 < 0 then ((acl_Which.f l1 a2 a3).bind fun t195 => ((acl_Which.f y184 a2 a3).bind fun t196 => (if t195 < 0 then (if t196 < 0 then (some true) else (some (t196 == (wrap64 (t195 + (l0.length : Int)))))) else (some (t196 == (wrap64 (t195 + (l0.length : Int)))))))) else (if t180 < (l0.length : Int) then ((acl_Which.f y184 a2 a3).bind fun t197 => (if t197 = t180 then (if 0 ≤ t180 then (if t180 ≤ (l0.length : Int) then ((acl_Which.f (l0.take (t180 : Int).toNat) a2 a3).bind fun t202 => (if t202 = (-1) then ((acl_Allowed.f y184 a2 a3).bind fun t203 => ((acl_Allowed.f l0 a2 a3).bind fun t204 => (some (t203 == t204)))) else (some false))) else (none)) else (none)) else (some false))) else (some false))) = some r := by rw [if_neg (show ¬ (false = true) by decide)] at H; exact H
                    clear H
                    have H := H1
                    clear H1
                    by_cases c36 : t180 < 0
                    · rw [if_pos c36] at H
                      have c36b0 : decide (t180 < 0) = true := decide_eq_true c36
                      clear c36
                      replace H := Option.bind_eq_some_iff.mp H
                      obtain ⟨t195, A370, H⟩ := H
                      replace H : ((acl_Which.f y184 a2 a3).bind fun t196 => (if t195 < 0 then (if t196 < 0 then (some true) else (some (t196 == (wrap64 (t195 + (l0.length : Int)))))) else (some (t196 == (wrap64 (t195 + (l0.length : Int))))))) = some r := H
                      have A37 := Aside0.mk A370
                      clear A370
                      replace H := Option.bind_eq_some_iff.mp H
                      obtain ⟨t196, A380, H⟩ := H
                      replace H : (if t195 < 0 then (if t196 < 0 then (some true) else (some (t196 == (wrap64 (t195 + (l0.length : Int)))))) else (some (t196 == (wrap64 (t195 + (l0.length : Int)))))) = some r := H
                      have A38 := Aside0.mk A380
                      clear A380
                      by_cases c39 : t195 < 0
                      · rw [if_pos c39] at H
                        have c39b0 : decide (t195 < 0) = true := decide_eq_true c39
                        clear c39
                        by_cases c40 : t196 < 0
                        · rw [if_pos c40] at H
                          have c40b0 : decide (t196 < 0) = true := decide_eq_true c40
                          clear c40
                          obtain rfl := Option.some.inj H
                          go_wp2_with (first | ((with_reducible refine gate_callee (f := 12) rfl ?_); refine goesL_ (some 73) rfl rfl Tryd.func12 (by kernel_rfl) rfl #[.slice A1 l1.length c1, .string a2, .string a3] rfl (by (try simp only [List.map_toArray, List.map_cons, List.map_nil]); first | done | rfl | (simp only [List.length_drop, List.length_take]; rfl)) ?_; (with_reducible refine (acl_Which.calls _ _ l1 a2 a3 t195 _ ?side1 ?side2 ?side3 A37.out).mono ?_); (case side1 => repeat (first | exact (Kd.C_below HR1.out HB.out) | (with_reducible refine Kd.C_alloc ?_ _) | (with_reducible refine Kd.C_drewN ?_ _) | (with_reducible refine Kd.C_drew ?_))); (case side2 => exact HC1.out); (case side3 => exact HMET.out.below (by repeat (first | (with_reducible first | exact HB.out | apply below_alloc | apply pw_below_drewN | apply below_drew1) | exact HB.out))); rintro e w41 ⟨rfl, hb⟩; refine ⟨_, rfl, ?_⟩; have n0_ := Aside0.mk (Kd.R_below (by (with_reducible repeat (first | apply Kd.R_alloc | apply Kd.R_drewN | apply Kd.R_drew)); exact HO_15.out) hb); have n1_ := Aside0.mk (below_step (by repeat (first | (with_reducible first | exact HB.out | apply below_alloc | apply pw_below_drewN | apply below_drew1) | exact HB.out)) hb); clear HO_15; clear HB; have HO_15 := n0_; have HB := n1_; clear n0_ n1_; (try clear hb); (try clear hb2); (try clear hk); (try clear hi); obtain ⟨Ao42, co42, eo42⟩ := Kd.R_slice HO_15.out; subst eo42) | ((with_reducible refine gate_callee (f := 12) rfl ?_); refine goesL_ (some 77) rfl rfl Tryd.func12 (by kernel_rfl) rfl #[.slice Ao42 y184.length co42, .string a2, .string a3] rfl (by (try simp only [List.map_toArray, List.map_cons, List.map_nil]); first | done | rfl | (simp only [List.length_drop, List.length_take]; rfl)) ?_; (with_reducible refine (acl_Which.calls _ _ y184 a2 a3 t196 _ ?side1 ?side2 ?side3 A38.out).mono ?_); (case side1 => repeat (first | exact (Kd.R_reads' HO_15.out).2.2 | (with_reducible refine Kd.C_alloc ?_ _) | (with_reducible refine Kd.C_drewN ?_ _) | (with_reducible refine Kd.C_drew ?_))); (case side2 => exact (Kd.R_reads' HO_15.out).2.1); (case side3 => exact HMET.out.below (by repeat (first | (with_reducible first | exact HB.out | apply below_alloc | apply pw_below_drewN | apply below_drew1) | exact HB.out))); rintro e w43 ⟨rfl, hb⟩; refine ⟨_, rfl, ?_⟩; have n0_ := Aside0.mk (Kd.R_below (by (with_reducible repeat (first | apply Kd.R_alloc | apply Kd.R_drewN | apply Kd.R_drew)); exact HO_15.out) hb); have n1_ := Aside0.mk (below_step (by repeat (first | (with_reducible first | exact HB.out | apply below_alloc | apply pw_below_drewN | apply below_drew1) | exact HB.out)) hb); clear HO_15; clear HB; have HO_15 := n0_; have HB := n1_; clear n0_ n1_; (try clear hb); (try clear hb2); (try clear hk); (try clear hi)))
                          go_ret
                          exact ⟨by first | rfl | (simp [errW_none, errW_some] <;> rfl) | (simp [*, errW_none, errW_some] <;> rfl), by repeat (first | (with_reducible first | exact HB.out | apply below_alloc | apply pw_below_drewN | apply below_drew1) | exact HB.out)⟩
                        · rw [if_neg c40] at H
                          have c40b0 : decide (t196 < 0) = false := decide_eq_false c40
                          clear c40
                          obtain rfl := Option.some.inj H
                          go_wp2_with (first | ((with_reducible refine gate_callee (f := 12) rfl ?_); refine goesL_ (some 73) rfl rfl Tryd.func12 (by kernel_rfl) rfl #[.slice A1 l1.length c1, .string a2, .string a3] rfl (by (try simp only [List.map_toArray, List.map_cons, List.map_nil]); first | done | rfl | (simp only [List.length_drop, List.length_take]; rfl)) ?_; (with_reducible refine (acl_Which.calls _ _ l1 a2 a3 t195 _ ?side1 ?side2 ?side3 A37.out).mono ?_); (case side1 => repeat (first | exact (Kd.C_below HR1.out HB.out) | (with_reducible refine Kd.C_alloc ?_ _) | (with_reducible refine Kd.C_drewN ?_ _) | (with_reducible refine Kd.C_drew ?_))); (case side2 => exact HC1.out); (case side3 => exact HMET.out.below (by repeat (first | (with_reducible first | exact HB.out | apply below_alloc | apply pw_below_drewN | apply below_drew1) | exact HB.out))); rintro e w44 ⟨rfl, hb⟩; refine ⟨_, rfl, ?_⟩; have n0_ := Aside0.mk (Kd.R_below (by (with_reducible repeat (first | apply Kd.R_alloc | apply Kd.R_drewN | apply Kd.R_drew)); exact HO_15.out) hb); have n1_ := Aside0.mk (below_step (by repeat (first | (with_reducible first | exact HB.out | apply below_alloc | apply pw_below_drewN | apply below_drew1) | exact HB.out)) hb); clear HO_15; clear HB; have HO_15 := n0_; have HB := n1_; clear n0_ n1_; (try clear hb); (try clear hb2); (try clear hk); (try clear hi); obtain ⟨Ao45, co45, eo45⟩ := Kd.R_slice HO_15.out; subst eo45) | ((with_reducible refine gate_callee (f := 12) rfl ?_); refine goesL_ (some 77) rfl rfl Tryd.func12 (by kernel_rfl) rfl #[.slice Ao45 y184.length co45, .string a2, .string a3] rfl (by (try simp only [List.map_toArray, List.map_cons, List.map_nil]); first | done | rfl | (simp only [List.length_drop, List.length_take]; rfl)) ?_; (with_reducible refine (acl_Which.calls _ _ y184 a2 a3 t196 _ ?side1 ?side2 ?side3 A38.out).mono ?_); (case side1 => repeat (first | exact (Kd.R_reads' HO_15.out).2.2 | (with_reducible refine Kd.C_alloc ?_ _) | (with_reducible refine Kd.C_drewN ?_ _) | (with_reducible refine Kd.C_drew ?_))); (case side2 => exact (Kd.R_reads' HO_15.out).2.1); (case side3 => exact HMET.out.below (by repeat (first | (with_reducible first | exact HB.out | apply below_alloc | apply pw_below_drewN | apply below_drew1) | exact HB.out))); rintro e w46 ⟨rfl, hb⟩; refine ⟨_, rfl, ?_⟩; have n0_ := Aside0.mk (Kd.R_below (by (with_reducible repeat (first | apply Kd.R_alloc | apply Kd.R_drewN | apply Kd.R_drew)); exact HO_15.out) hb); have n1_ := Aside0.mk (below_step (by repeat (first | (with_reducible first | exact HB.out | apply below_alloc | apply pw_below_drewN | apply below_drew1) | exact HB.out)) hb); clear HO_15; clear HB; have HO_15 := n0_; have HB := n1_; clear n0_ n1_; (try clear hb); (try clear hb2); (try clear hk); (try clear hi)))
                          go_ret
                          exact ⟨by first | rfl | (simp [errW_none, errW_some] <;> rfl) | (simp [*, errW_none, errW_some] <;> rfl), by repeat (first | (with_reducible first | exact HB.out | apply below_alloc | apply pw_below_drewN | apply below_drew1) | exact HB.out)⟩
                      · rw [if_neg c39] at H
                        have c39b0 : decide (t195 < 0) = false := decide_eq_false c39
                        clear c39
                        obtain rfl := Option.some.inj H
                        go_wp2_with (first | ((with_reducible refine gate_callee (f := 12) rfl ?_); refine goesL_ (some 73) rfl rfl Tryd.func12 (by kernel_rfl) rfl #[.slice A1 l1.length c1, .string a2, .string a3] rfl (by (try simp only [List.map_toArray, List.map_cons, List.map_nil]); first | done | rfl | (simp only [List.length_drop, List.length_take]; rfl)) ?_; (with_reducible refine (acl_Which.calls _ _ l1 a2 a3 t195 _ ?side1 ?side2 ?side3 A37.out).mono ?_); (case side1 => repeat (first | exact (Kd.C_below HR1.out HB.out) | (with_reducible refine Kd.C_alloc ?_ _) | (with_reducible refine Kd.C_drewN ?_ _) | (with_reducible refine Kd.C_drew ?_))); (case side2 => exact HC1.out); (case side3 => exact HMET.out.below (by repeat (first | (with_reducible first | exact HB.out | apply below_alloc | apply pw_below_drewN | apply below_drew1) | exact HB.out))); rintro e w47 ⟨rfl, hb⟩; refine ⟨_, rfl, ?_⟩; have n0_ := Aside0.mk (Kd.R_below (by (with_reducible repeat (first | apply Kd.R_alloc | apply Kd.R_drewN | apply Kd.R_drew)); exact HO_15.out) hb); have n1_ := Aside0.mk (below_step (by repeat (first | (with_reducible first | exact HB.out | apply below_alloc | apply pw_below_drewN | apply below_drew1) | exact HB.out)) hb); clear HO_15; clear HB; have HO_15 := n0_; have HB := n1_; clear n0_ n1_; (try clear hb); (try clear hb2); (try clear hk); (try clear hi); obtain ⟨Ao48, co48, eo48⟩ := Kd.R_slice HO_15.out; subst eo48) | ((with_reducible refine gate_callee (f := 12) rfl ?_); refine goesL_ (some 77) rfl rfl Tryd.func12 (by kernel_rfl) rfl #[.slice Ao48 y184.length co48, .string a2, .string a3] rfl (by (try simp only [List.map_toArray, List.map_cons, List.map_nil]); first | done | rfl | (simp only [List.length_drop, List.length_take]; rfl)) ?_; (with_reducible refine (acl_Which.calls _ _ y184 a2 a3 t196 _ ?side1 ?side2 ?side3 A38.out).mono ?_); (case side1 => repeat (first | exact (Kd.R_reads' HO_15.out).2.2 | (with_reducible refine Kd.C_alloc ?_ _) | (with_reducible refine Kd.C_drewN ?_ _) | (with_reducible refine Kd.C_drew ?_))); (case side2 => exact (Kd.R_reads' HO_15.out).2.1); (case side3 => exact HMET.out.below (by repeat (first | (with_reducible first | exact HB.out | apply below_alloc | apply pw_below_drewN | apply below_drew1) | exact HB.out))); rintro e w49 ⟨rfl, hb⟩; refine ⟨_, rfl, ?_⟩; have n0_ := Aside0.mk (Kd.R_below (by (with_reducible repeat (first | apply Kd.R_alloc | apply Kd.R_drewN | apply Kd.R_drew)); exact HO_15.out) hb); have n1_ := Aside0.mk (below_step (by repeat (first | (with_reducible first | exact HB.out | apply below_alloc | apply pw_below_drewN | apply below_drew1) | exact HB.out)) hb); clear HO_15; clear HB; have HO_15 := n0_; have HB := n1_; clear n0_ n1_; (try clear hb); (try clear hb2); (try clear hk); (try clear hi)))
                        go_ret
                        exact ⟨by first | rfl | (simp [errW_none, errW_some] <;> rfl) | (simp [*, errW_none, errW_some] <;> rfl), by repeat (first | (with_reducible first | exact HB.out | apply below_alloc | apply pw_below_drewN | apply below_drew1) | exact HB.out)⟩
                    · rw [if_neg c36] at H
                      have c36b0 : decide (t180 < 0) = false := decide_eq_false c36
                      clear c36
                      by_cases c50 : t180 < (l0.length : Int)
                      · rw [if_pos c50] at H
                        have c50b0 : decide (t180 < (l0.length : Int)) = true := decide_eq_true c50
                        clear c50
                        replace H := Option.bind_eq_some_iff.mp H
                        obtain ⟨t197, A510, H⟩ := H
                        replace H : (if t197 = t180 then (if 0 ≤ t180 then (if t180 ≤ (l0.length : Int) then ((acl_Which.f (l0.take (t180 : Int).toNat) a2 a3).bind fun t202 => (if t202 = (-1) then ((acl_Allowed.f y184 a2 a3).bind fun t203 => ((acl_Allowed.f l0 a2 a3).bind fun t204 => (some (t203 == t204)))) else (some false))) else (none)) else (none)) else (some false)) = some r := H
                        have A51 := Aside0.mk A510
                        clear A510
                        by_cases c52 : t197 = t180
                        · rw [if_pos c52] at H
                          have c52b0 : (t197 == t180) = true := beq_iff_eq.mpr c52
                          have c52b1 : (t197 != t180) = false := bne_eq_false_iff_eq.mpr c52
                          clear c52
                          by_cases c53 : 0 ≤ t180
                          · rw [if_pos c53] at H
                            have c53b0 := eq_true c53
                            have c53b1 : decide (0 ≤ t180) = true := decide_eq_true c53
                            clear c53
                            by_cases c54 : t180 ≤ (l0.length : Int)
                            · rw [if_pos c54] at H
                              have c54b0 := eq_true c54
                              have c54b1 : decide (t180 ≤ (l0.length : Int)) = true := decide_eq_true c54
                              clear c54
                              obtain ⟨y198, hy198⟩ : ∃ y_ : List (S28), y_ = (l0.take (t180 : Int).toNat) := ⟨_, rfl⟩
                              replace H : ((acl_Which.f y198 a2 a3).bind fun t202 => (if t202 = (-1) then ((acl_Allowed.f y184 a2 a3).bind fun t203 => ((acl_Allowed.f l0 a2 a3).bind fun t204 => (some (t203 == t204)))) else (some false))) = some r := by first | (rw [hy198]; with_reducible exact H) | (have H2_ := (Option.bind_some _ _).symm.trans H; rw [hy198]; with_reducible exact H2_) | (have H2_ := (Option.bind_some _ _).symm.trans H; with_reducible exact H2_) | with_reducible exact H | (rw [hy198]; exact H) | exact H
                              have Ny198 := Aside0.mk hy198
                              clear hy198
                              replace H := Option.bind_eq_some_iff.mp H
                              obtain ⟨t202, A550, H⟩ := H
                              replace H : (if t202 = (-1) then ((acl_Allowed.f y184 a2 a3).bind fun t203 => ((acl_Allowed.f l0 a2 a3).bind fun t204 => (some (t203 == t204)))) else (some false)) = some r := H
                              have A55 := Aside0.mk A550
                              clear A550
                              by_cases c56 : t202 = (-1)
                              · rw [if_pos c56] at H
                                have c56b0 : (t202 == (-1)) = true := beq_iff_eq.mpr c56
                                have c56b1 : (t202 != (-1)) = false := bne_eq_false_iff_eq.mpr c56
                                clear c56
                                replace H := Option.bind_eq_some_iff.mp H
                                obtain ⟨t203, A570, H⟩ := H
                                replace H : ((acl_Allowed.f l0 a2 a3).bind fun t204 => (some (t203 == t204))) = some r := H
                                have A57 := Aside0.mk A570
                                clear A570
                                replace H := Option.bind_eq_some_iff.mp H
                                obtain ⟨t204, A580, H⟩ := H
                                replace H : (some (t203 == t204)) = some r := H
                                have A58 := Aside0.mk A580
                                clear A580
                                obtain rfl := Option.some.inj H
                                obtain ⟨Ao59, co59, eo59⟩ := Kd.R_slice HO_15.out
                                subst eo59
                                go_wp2_with (first | (go_at_call 12; (with_reducible refine (acl_Which.calls _ _ y184 a2 a3 t197 _ ?side1 ?side2 ?side3 A51.out).mono ?_); (case side1 => repeat (first | exact (Kd.R_reads' HO_15.out).2.2 | (with_reducible refine Kd.C_alloc ?_ _) | (with_reducible refine Kd.C_drewN ?_ _) | (with_reducible refine Kd.C_drew ?_))); (case side2 => exact (Kd.R_reads' HO_15.out).2.1); (case side3 => exact HMET.out.below (by repeat (first | (with_reducible first | exact HB.out | apply below_alloc | apply pw_below_drewN | apply below_drew1) | exact HB.out))); rintro e w60 ⟨rfl, hb⟩; have n0_ := Aside0.mk (Kd.R_below (by (with_reducible repeat (first | apply Kd.R_alloc | apply Kd.R_drewN | apply Kd.R_drew)); exact HO_15.out) hb); have n1_ := Aside0.mk (below_step (by repeat (first | (with_reducible first | exact HB.out | apply below_alloc | apply pw_below_drewN | apply below_drew1) | exact HB.out)) hb); clear HO_15; clear HB; have HO_15 := n0_; have HB := n1_; clear n0_ n1_; (try clear hb); (try clear hb2); (try clear hk); (try clear hi); have q61 : (t180 : Int) ≤ ((l0.length : Int) : Int) := of_decide_eq_true (by first | (with_reducible assumption) | assumption); obtain ⟨i061, hi061, _, hsz61, _⟩ := info_parts info28; have hroom61 : l0.length ≤ c0 := HC0.out; have hC61 : Kd.C k28 _ A0 l0.length l0 := HR0.out; have hcut61 := cut_to (P := Tryd.prog) 22 28 .i64 Tryd.underlying22 hi061 A0 l0.length c0 t180 (of_decide_eq_true (by first | (with_reducible assumption) | assumption)) q61 hroom61; have hr61 := Kd.C_take (m := (t180 : Int).toNat) hC61 (by omega); have hy61 : y198.length = (t180 : Int).toNat := (by rw [Ny198.out, List.length_take]; omega); rw [← Ny198.out] at hr61; rw [← hy61] at hcut61; have HR201 := Aside0.mk hr61; have HC201 := Aside0.mk (show y198.length ≤ c0 from by omega); clear hr61 hC61 hroom61 hi061 hsz61; have KY61 := Aside0.mk hy61; clear hy61; replace q61 := eq_true q61) | (go_at_call 12; (with_reducible refine (acl_Which.calls _ _ y198 a2 a3 t202 _ ?side1 ?side2 ?side3 A55.out).mono ?_); (case side1 => repeat (first | exact (Kd.C_below HR201.out HB.out) | (with_reducible refine Kd.C_alloc ?_ _) | (with_reducible refine Kd.C_drewN ?_ _) | (with_reducible refine Kd.C_drew ?_))); (case side2 => exact HC201.out); (case side3 => exact HMET.out.below (by repeat (first | (with_reducible first | exact HB.out | apply below_alloc | apply pw_below_drewN | apply below_drew1) | exact HB.out))); rintro e w62 ⟨rfl, hb⟩; have n0_ := Aside0.mk (Kd.R_below (by (with_reducible repeat (first | apply Kd.R_alloc | apply Kd.R_drewN | apply Kd.R_drew)); exact HO_15.out) hb); have n1_ := Aside0.mk (below_step (by repeat (first | (with_reducible first | exact HB.out | apply below_alloc | apply pw_below_drewN | apply below_drew1) | exact HB.out)) hb); clear HO_15; clear HB; have HO_15 := n0_; have HB := n1_; clear n0_ n1_; (try clear hb); (try clear hb2); (try clear hk); (try clear hi)) | (go_at_call 14; (with_reducible refine (acl_Allowed.calls _ _ y184 a2 a3 t203 _ ?side1 ?side2 ?side3 A57.out).mono ?_); (case side1 => repeat (first | exact (Kd.R_reads' HO_15.out).2.2 | (with_reducible refine Kd.C_alloc ?_ _) | (with_reducible refine Kd.C_drewN ?_ _) | (with_reducible refine Kd.C_drew ?_))); (case side2 => exact (Kd.R_reads' HO_15.out).2.1); (case side3 => exact HMET.out.below (by repeat (first | (with_reducible first | exact HB.out | apply below_alloc | apply pw_below_drewN | apply below_drew1) | exact HB.out))); rintro e w63 ⟨rfl, hb⟩; have n0_ := Aside0.mk (Kd.R_below (by (with_reducible repeat (first | apply Kd.R_alloc | apply Kd.R_drewN | apply Kd.R_drew)); exact HO_15.out) hb); have n1_ := Aside0.mk (below_step (by repeat (first | (with_reducible first | exact HB.out | apply below_alloc | apply pw_below_drewN | apply below_drew1) | exact HB.out)) hb); clear HO_15; clear HB; have HO_15 := n0_; have HB := n1_; clear n0_ n1_; (try clear hb); (try clear hb2); (try clear hk); (try clear hi)) | (go_at_call 14; (with_reducible refine (acl_Allowed.calls _ _ l0 a2 a3 t204 _ ?side1 ?side2 ?side3 A58.out).mono ?_); (case side1 => repeat (first | exact (Kd.C_below HR0.out HB.out) | (with_reducible refine Kd.C_alloc ?_ _) | (with_reducible refine Kd.C_drewN ?_ _) | (with_reducible refine Kd.C_drew ?_))); (case side2 => exact HC0.out); (case side3 => exact HMET.out.below (by repeat (first | (with_reducible first | exact HB.out | apply below_alloc | apply pw_below_drewN | apply below_drew1) | exact HB.out))); rintro e w64 ⟨rfl, hb⟩; have n0_ := Aside0.mk (Kd.R_below (by (with_reducible repeat (first | apply Kd.R_alloc | apply Kd.R_drewN | apply Kd.R_drew)); exact HO_15.out) hb); have n1_ := Aside0.mk (below_step (by repeat (first | (with_reducible first | exact HB.out | apply below_alloc | apply pw_below_drewN | apply below_drew1) | exact HB.out)) hb); clear HO_15; clear HB; have HO_15 := n0_; have HB := n1_; clear n0_ n1_; (try clear hb); (try clear hb2); (try clear hk); (try clear hi)))
                                go_ret
                                exact ⟨by first | rfl | (simp [errW_none, errW_some] <;> rfl) | (simp [*, errW_none, errW_some] <;> rfl), by repeat (first | (with_reducible first | exact HB.out | apply below_alloc | apply pw_below_drewN | apply below_drew1) | exact HB.out)⟩
                              · rw [if_neg c56] at H
                                have c56b0 : (t202 == (-1)) = false := beq_eq_false_iff_ne.mpr c56
                                have c56b1 : (t202 != (-1)) = true := bne_iff_ne.mpr c56
                                obtain rfl := Option.some.inj H
                                obtain ⟨Ao65, co65, eo65⟩ := Kd.R_slice HO_15.out
                                subst eo65
                                go_wp2_with (first | (go_at_call 12; (with_reducible refine (acl_Which.calls _ _ y184 a2 a3 t197 _ ?side1 ?side2 ?side3 A51.out).mono ?_); (case side1 => repeat (first | exact (Kd.R_reads' HO_15.out).2.2 | (with_reducible refine Kd.C_alloc ?_ _) | (with_reducible refine Kd.C_drewN ?_ _) | (with_reducible refine Kd.C_drew ?_))); (case side2 => exact (Kd.R_reads' HO_15.out).2.1); (case side3 => exact HMET.out.below (by repeat (first | (with_reducible first | exact HB.out | apply below_alloc | apply pw_below_drewN | apply below_drew1) | exact HB.out))); rintro e w66 ⟨rfl, hb⟩; have n0_ := Aside0.mk (Kd.R_below (by (with_reducible repeat (first | apply Kd.R_alloc | apply Kd.R_drewN | apply Kd.R_drew)); exact HO_15.out) hb); have n1_ := Aside0.mk (below_step (by repeat (first | (with_reducible first | exact HB.out | apply below_alloc | apply pw_below_drewN | apply below_drew1) | exact HB.out)) hb); clear HO_15; clear HB; have HO_15 := n0_; have HB := n1_; clear n0_ n1_; (try clear hb); (try clear hb2); (try clear hk); (try clear hi); have q67 : (t180 : Int) ≤ ((l0.length : Int) : Int) := of_decide_eq_true (by first | (with_reducible assumption) | assumption); obtain ⟨i067, hi067, _, hsz67, _⟩ := info_parts info28; have hroom67 : l0.length ≤ c0 := HC0.out; have hC67 : Kd.C k28 _ A0 l0.length l0 := HR0.out; have hcut67 := cut_to (P := Tryd.prog) 22 28 .i64 Tryd.underlying22 hi067 A0 l0.length c0 t180 (of_decide_eq_true (by first | (with_reducible assumption) | assumption)) q67 hroom67; have hr67 := Kd.C_take (m := (t180 : Int).toNat) hC67 (by omega); have hy67 : y198.length = (t180 : Int).toNat := (by rw [Ny198.out, List.length_take]; omega); rw [← Ny198.out] at hr67; rw [← hy67] at hcut67; have HR201 := Aside0.mk hr67; have HC201 := Aside0.mk (show y198.length ≤ c0 from by omega); clear hr67 hC67 hroom67 hi067 hsz67; have KY67 := Aside0.mk hy67; clear hy67; replace q67 := eq_true q67) | (go_at_call 12; (with_reducible refine (acl_Which.calls _ _ y198 a2 a3 t202 _ ?side1 ?side2 ?side3 A55.out).mono ?_); (case side1 => repeat (first | exact (Kd.C_below HR201.out HB.out) | (with_reducible refine Kd.C_alloc ?_ _) | (with_reducible refine Kd.C_drewN ?_ _) | (with_reducible refine Kd.C_drew ?_))); (case side2 => exact HC201.out); (case side3 => exact HMET.out.below (by repeat (first | (with_reducible first | exact HB.out | apply below_alloc | apply pw_below_drewN | apply below_drew1) | exact HB.out))); rintro e w68 ⟨rfl, hb⟩; have n0_ := Aside0.mk (Kd.R_below (by (with_reducible repeat (first | apply Kd.R_alloc | apply Kd.R_drewN | apply Kd.R_drew)); exact HO_15.out) hb); have n1_ := Aside0.mk (below_step (by repeat (first | (with_reducible first | exact HB.out | apply below_alloc | apply pw_below_drewN | apply below_drew1) | exact HB.out)) hb); clear HO_15; clear HB; have HO_15 := n0_; have HB := n1_; clear n0_ n1_; (try clear hb); (try clear hb2); (try clear hk); (try clear hi)))
                                go_ret
                                exact ⟨by first | rfl | (simp [errW_none, errW_some] <;> rfl) | (simp [*, errW_none, errW_some] <;> rfl), by repeat (first | (with_reducible first | exact HB.out | apply below_alloc | apply pw_below_drewN | apply below_drew1) | exact HB.out)⟩
                            · rw [if_neg c54] at H
                              exact absurd H (by simp)
                          · rw [if_neg c53] at H
                            exact absurd H (by simp)
                        · rw [if_neg c52] at H
                          have c52b0 : (t197 == t180) = false := beq_eq_false_iff_ne.mpr c52
                          have c52b1 : (t197 != t180) = true := bne_iff_ne.mpr c52
                          obtain rfl := Option.some.inj H
                          obtain ⟨Ao69, co69, eo69⟩ := Kd.R_slice HO_15.out
                          subst eo69
                          go_wp2_with (first | (go_at_call 12; (with_reducible refine (acl_Which.calls _ _ y184 a2 a3 t197 _ ?side1 ?side2 ?side3 A51.out).mono ?_); (case side1 => repeat (first | exact (Kd.R_reads' HO_15.out).2.2 | (with_reducible refine Kd.C_alloc ?_ _) | (with_reducible refine Kd.C_drewN ?_ _) | (with_reducible refine Kd.C_drew ?_))); (case side2 => exact (Kd.R_reads' HO_15.out).2.1); (case side3 => exact HMET.out.below (by repeat (first | (with_reducible first | exact HB.out | apply below_alloc | apply pw_below_drewN | apply below_drew1) | exact HB.out))); rintro e w70 ⟨rfl, hb⟩; have n0_ := Aside0.mk (Kd.R_below (by (with_reducible repeat (first | apply Kd.R_alloc | apply Kd.R_drewN | apply Kd.R_drew)); exact HO_15.out) hb); have n1_ := Aside0.mk (below_step (by repeat (first | (with_reducible first | exact HB.out | apply below_alloc | apply pw_below_drewN | apply below_drew1) | exact HB.out)) hb); clear HO_15; clear HB; have HO_15 := n0_; have HB := n1_; clear n0_ n1_; (try clear hb); (try clear hb2); (try clear hk); (try clear hi)))
                          go_ret
                          exact ⟨by first | rfl | (simp [errW_none, errW_some] <;> rfl) | (simp [*, errW_none, errW_some] <;> rfl), by repeat (first | (with_reducible first | exact HB.out | apply below_alloc | apply pw_below_drewN | apply below_drew1) | exact HB.out)⟩
                      · rw [if_neg c50] at H
                        have c50b0 : decide (t180 < (l0.length : Int)) = false := decide_eq_false c50
                        clear c50
                        obtain rfl := Option.some.inj H
                        go_wp2
                        go_ret
                        exact ⟨by first | rfl | (simp [errW_none, errW_some] <;> rfl) | (simp [*, errW_none, errW_some] <;> rfl), by repeat (first | (with_reducible first | exact HB.out | apply below_alloc | apply pw_below_drewN | apply below_drew1) | exact HB.out)⟩
            · rw [if_neg c19] at H
              exact absurd H (by simp)
          · rw [if_neg c18] at H
            exact absurd H (by simp)
        · rw [if_neg c17] at H
          exact absurd H (by simp)

end Go.Proofs.YtdemfgijfnicpaaDoor.Q

namespace Go.Proofs.YtdemfgijfnicpaaDoor.Pure
open Go Go.RowKit Go.Proofs.YtdemfgijfnicpaaDoor.Q Go.Proofs.YtdemfgijfnicpaaDoor.Quad Go.Proofs.YtdemfgijfnicpaaDoorW.PrintWords Go.Proofs.YtdemfgijfnicpaaDoorW.PrintLast Go.Proofs.YtdemfgijfnicpaaDoorW.PrintMore
set_option linter.unusedVariables false
set_option linter.unusedSimpArgs false

theorem which_app (l m : List S28) (a b : ByteArray) : whichS (l ++ m) a b = if whichS l a b < 0 then (if whichS m a b < 0 then -1 else whichS m a b + l.length) else whichS l a b := by
  unfold whichS AclP.which
  rw [List.map_append, AclP.whichF_app]
  cases h : AclP.whichF 0 (l.map toR) a.data.toList b.data.toList with
  | some i =>
    show (i : Int) = if (i : Int) < 0 then _ else (i : Int)
    rw [if_neg (by omega)]
  | none =>
    show AclP.whichI (AclP.whichF (0 + (l.map toR).length) (m.map toR) a.data.toList b.data.toList) = if (-1 : Int) < 0 then _ else _
    rw [if_pos (by decide), AclP.whichF_shift 0 (l.map toR).length, List.length_map]
    cases h2 : AclP.whichF 0 (m.map toR) a.data.toList b.data.toList with
    | none => rfl
    | some j =>
      show ((j + l.length : Nat) : Int) = if (j : Int) < 0 then _ else (j : Int) + _
      rw [if_neg (by omega)]; omega
theorem allowed_first (l m : List S28) (a b : ByteArray) (h : ¬ whichS l a b < 0) : allowedS (l ++ m) a b = allowedS l a b := by
  unfold allowedS
  rw [List.map_append, AclP.allowed_app _ _ 0]
  unfold whichS AclP.which at h
  cases h2 : AclP.whichF 0 (l.map toR) a.data.toList b.data.toList with
  | none => rw [h2] at h; exact absurd (show AclP.whichI none < 0 by decide) h
  | some i => rfl
theorem take_which (l : List S28) (a b : ByteArray) (h : ¬ whichS l a b < 0) : whichS (l.take (whichS l a b).toNat) a b = -1 := by
  unfold whichS AclP.which at h ⊢
  cases h2 : AclP.whichF 0 (l.map toR) a.data.toList b.data.toList with
  | none => rw [h2] at h; exact absurd (show AclP.whichI none < 0 by decide) h
  | some i =>
    have := AclP.which_take h2
    show AclP.whichI (AclP.whichF 0 ((l.take (i : Int).toNat).map toR) a.data.toList b.data.toList) = -1
    rw [Int.toNat_natCast, List.map_take]
    rw [Nat.sub_zero] at this
    rw [this]; rfl
theorem all_allowed (l : List S28) (u : Bool) (a b : ByteArray) : allowedS ([⟨u, ⟨#[]⟩, ⟨#[47]⟩⟩] ++ l) a b = (u && PathP.may b.data.toList) := AclP.allowed_all (l.map toR) u a.data.toList b.data.toList
theorem first_end (l m : List S28) (a b : ByteArray) (u : Bool) (x : Bool) : Ev (fun k => wharfingerlaw11_AclFirst.j0 k l m a b u x true) x :=
  Ev.step (f := fun _ => some x) (fun k => by simp only [wharfingerlaw11_AclFirst.j0, if_true]) (Ev.now _)
theorem first_ev (l m : List S28) (a b : ByteArray) (u : Bool) : Ev (fun k => wharfingerlaw11_AclFirst.f k l m a b u) true := by
  unfold wharfingerlaw11_AclFirst.f
  refine Ev.bind awake_ev (Ev.bind (few_ev l) (Ev.bind (few_ev m) ?_))
  simp only [if_true]
  cases hf : fewS l
  · simp only [Bool.false_eq_true, if_false]; exact first_end ..
  cases hg : fewS m
  · simp only [Bool.false_eq_true, if_false, if_true]; exact first_end ..
  simp only [if_true]
  by_cases ha : (a.size : Int) > 300
  · simp only [if_pos ha]; exact first_end ..
  simp only [if_neg ha]
  by_cases hb : (b.size : Int) > 300
  · simp only [decide_eq_true hb]; exact first_end ..
  simp only [decide_eq_false hb]
  obtain ⟨hl20, hl⟩ := few_ok hf
  obtain ⟨hm20, hm⟩ := few_ok hg
  have hb6 : b.size ≤ 1000000 := by omega
  have hall : okL ([(⟨u, ⟨#[]⟩, ⟨#[47]⟩⟩ : S28)] ++ l) := okL_app (okL_one _ (show (⟨#[]⟩ : ByteArray).size ≤ 1000000 by decide) (show (⟨#[47]⟩ : ByteArray).size ≤ 1000000 by decide)) hl (by simp; omega)
  have hboth : okL (l ++ m) := okL_app hl hm (by omega)
  refine Ev.step (g := fun k => wharfingerlaw11_AclFirst.j0 k l m a b u true false) (fun k => by simp only [wharfingerlaw11_AclFirst.j0, Bool.false_eq_true, if_false]; rfl) ?_
  simp only [which_is l a b hl hb6, Option.bind_some, List.nil_append, List.length_nil, Nat.zero_add]
  simp only [if_pos (show l.length < 3518437208883 by omega), if_pos (show l.length + m.length < 3518437208883 by omega), if_pos (show ([(⟨u, ⟨#[]⟩, ⟨#[47]⟩⟩ : S28)] : List S28).length + l.length < 3518437208883 by simp; omega)]
  simp only [allowed_is _ a b hall hb6, Option.bind_some, path_may_is b hb6, all_allowed]
  have hgo : Ev (fun k => wharfingerlaw11_AclFirst.j1 k l m a b (whichS l a b) (l ++ m) false) true := by
    have hbd := which_bd l a b
    have hbm := which_bd m a b
    refine Ev.step (fun k => by simp only [wharfingerlaw11_AclFirst.j1, Bool.false_eq_true, if_false]; rfl) ?_
    simp only [which_is m a b hm hb6, which_is _ a b hboth hb6, Option.bind_some, which_app, which_is _ a b (okL_take hl _) hb6, allowed_is l a b hl hb6, allowed_is _ a b hboth hb6]
    by_cases h1 : whichS l a b < 0
    · simp only [if_pos h1]
      by_cases h2 : whichS m a b < 0
      · simp only [if_pos h2, if_pos (show (-1 : Int) < 0 by decide)]; exact Ev.now _
      · simp only [if_neg h2, show (wrap64 (whichS m a b + (l.length : Int))) = whichS m a b + (l.length : Int) from by unfold wrap64; omega, beq_self_eq_true]; exact Ev.now _
    · simp only [if_neg h1, if_pos hbd.2, if_true, if_pos (show 0 ≤ whichS l a b by omega), if_pos (show whichS l a b ≤ (l.length : Int) by omega), take_which l a b h1, allowed_first l m a b h1, beq_self_eq_true]
      exact Ev.now _
  cases u
  · simp only [Bool.false_and, bne_self_eq_false, Bool.false_eq_true, if_false]; exact hgo
  · simp only [Bool.true_and, bne_self_eq_false, if_true]; exact hgo

end Go.Proofs.YtdemfgijfnicpaaDoor.Pure
namespace Go.Proofs.YtdemfgijfnicpaaDoor.AclOpen
open Go Go.RowKit Go.Proofs.YtdemfgijfnicpaaDoorW.PrintWords Go.Proofs.YtdemfgijfnicpaaDoor.Opens Go.Proofs.YtdemfgijfnicpaaDoor.Q
set_option linter.unusedVariables false

theorem first_walk (A0 : Option Addr) (c0 : Nat) (l0 : List S28) (A1 : Option Addr) (c1 : Nat) (l1 : List S28) (a b : ByteArray) (u : Bool) (w : World) (hr : Kd.C k28 w A0 l0.length l0) (hc : l0.length ≤ c0) (hr1 : Kd.C k28 w A1 l1.length l1) (hc1 : l1.length ≤ c1) (hm : Quad.Mx w) :
    Calls Tryd.prog 4 #[.slice A0 l0.length c0, .slice A1 l1.length c1, .string a, .string b, .bool u] w fun e w' => e = .returned (.bool true) ∧ Below w.heap.size w w' := by
  obtain ⟨k, h⟩ := (Pure.first_ev l0 l1 a b u).rounds
  exact wharfingerlaw11_AclFirst.calls k A0 c0 l0 A1 c1 l1 a b u true w hr hc hr1 hc1 hm h
end Go.Proofs.YtdemfgijfnicpaaDoor.AclOpen
