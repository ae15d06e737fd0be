/- Contracts and plain facts that the law's proof needs. -/
import Derived.Test.YtdemfgijfnicpaaDoorM1
import Derived.Test.YtdemfgijfnicpaaDoorM2
import Derived.Test.YtdemfgijfnicpaaDoorM3
import Derived.Test.YtdemfgijfnicpaaDoorM4
namespace Go.Proofs.YtdemfgijfnicpaaDoor.Q
open Go.RowKit Go.Proofs.YtdemfgijfnicpaaDoor.AclMet Go.Proofs.YtdemfgijfnicpaaDoorW.PrintWords Go.Proofs.YtdemfgijfnicpaaDoorW.PrintLast Go.Proofs.YtdemfgijfnicpaaDoorW.PrintMore
attribute [local go_sem] max2_int min2_int max_two min_two max_three min_three max_four min_four   -- for this text's walks alone
set_option linter.unusedVariables false
set_option linter.unusedSimpArgs false

/-! ### wharfingerlaw11_AclTells: function 3 -/
def wharfingerlaw11_AclTells.j0 : Nat → List (S28) → ByteArray → ByteArray → Bool → Bool → Option (Bool)
  | 0, _, _, _, _, _ => none
  | k + 1, x0, x1, x2, x7, x29 => if x29 = true then (some x7) else ((wharfingerref11_May.f k x0).bind fun t171 => ((wharfingerref11_Allowed.f k x0 x1 x2).bind fun t172 => ((acl_May.f k x0).bind fun t173 => (if (t173 == t171) = true then ((acl_Which.f x0 x1 x2).bind fun t174 => ((wharfingerref11_Which.f k x0 x1 x2).bind fun t175 => (if t174 = t175 then ((acl_Allowed.f x0 x1 x2).bind fun t176 => (some (t176 == t172))) else (some false)))) else (some false)))))
def wharfingerlaw11_AclTells.f (k : Nat) (l0 : List (S28)) (a1 : ByteArray) (a2 : ByteArray) : Option (Bool) := (wharfingerlaw11_awake.f k).bind fun t169 => ((wharfingerlaw11_Few.f k l0).bind fun t170 => (if t169 = true then (if t170 = true then (if (a1.size : Int) > 300 then (wharfingerlaw11_AclTells.j0 k l0 a1 a2 t169 true) else (wharfingerlaw11_AclTells.j0 k l0 a1 a2 t169 (decide ((a2.size : Int) > 300)))) else (wharfingerlaw11_AclTells.j0 k l0 a1 a2 t169 true)) else (wharfingerlaw11_AclTells.j0 k l0 a1 a2 t169 true)))
theorem wharfingerlaw11_AclTells.mono_l : ∀ k, (∀ y0 y1 y2 y3 y4, LeO (wharfingerlaw11_AclTells.j0 k y0 y1 y2 y3 y4) (wharfingerlaw11_AclTells.j0 (k + 1) y0 y1 y2 y3 y4))
  | 0 => fun _ _ _ _ _ r h => by simp [wharfingerlaw11_AclTells.j0] at h
  | k + 1 => by
    have ih0 := wharfingerlaw11_AclTells.mono_l k
    · intro y0 y1 y2 y3 y4
      unfold wharfingerlaw11_AclTells.j0
      repeat' first
      | (with_reducible exact ih0 _ _ _ _ _)
      | (with_reducible exact acl_May.mono _ _)
      | (with_reducible exact wharfingerlaw11_Few.mono _ _)
      | (with_reducible exact wharfingerlaw11_awake.mono _)
      | (with_reducible exact wharfingerref11_Allowed.mono _ _ _ _)
      | (with_reducible exact wharfingerref11_May.mono _ _)
      | (with_reducible exact wharfingerref11_Which.mono _ _ _ _)
      | (with_reducible exact LeO.refl _)
      | (with_reducible exact LeO.none _)
      | (with_reducible refine LeO.ite ?_ ?_)
      | (with_reducible refine LeO.bind ?_ (fun _ => ?_))
      | exact ih0 _ _ _ _ _
      | exact acl_May.mono _ _
      | exact wharfingerlaw11_Few.mono _ _
      | exact wharfingerlaw11_awake.mono _
      | exact wharfingerref11_Allowed.mono _ _ _ _
      | exact wharfingerref11_May.mono _ _
      | exact wharfingerref11_Which.mono _ _ _ _
      | exact LeO.none _
      | refine LeO.ite ?_ ?_
      | refine LeO.bind ?_ (fun _ => ?_)
theorem wharfingerlaw11_AclTells.mono : ∀ a0 a1 a2 k, LeO (wharfingerlaw11_AclTells.f k a0 a1 a2) (wharfingerlaw11_AclTells.f (k + 1) a0 a1 a2) := by
  intro a0 a1 a2 k
  have ih0 := wharfingerlaw11_AclTells.mono_l k
  unfold wharfingerlaw11_AclTells.f
  repeat' first
      | (with_reducible exact ih0 _ _ _ _ _)
      | (with_reducible exact acl_May.mono _ _)
      | (with_reducible exact wharfingerlaw11_Few.mono _ _)
      | (with_reducible exact wharfingerlaw11_awake.mono _)
      | (with_reducible exact wharfingerref11_Allowed.mono _ _ _ _)
      | (with_reducible exact wharfingerref11_May.mono _ _)
      | (with_reducible exact wharfingerref11_Which.mono _ _ _ _)
      | (with_reducible exact LeO.refl _)
      | (with_reducible exact LeO.none _)
      | (with_reducible refine LeO.ite ?_ ?_)
      | (with_reducible refine LeO.bind ?_ (fun _ => ?_))
      | exact ih0 _ _ _ _ _
      | exact acl_May.mono _ _
      | exact wharfingerlaw11_Few.mono _ _
      | exact wharfingerlaw11_awake.mono _
      | exact wharfingerref11_Allowed.mono _ _ _ _
      | exact wharfingerref11_May.mono _ _
      | exact wharfingerref11_Which.mono _ _ _ _
      | exact LeO.none _
      | refine LeO.ite ?_ ?_
      | refine LeO.bind ?_ (fun _ => ?_)
set_option maxHeartbeats 8000000 in
set_option maxRecDepth 100000 in
theorem wharfingerlaw11_AclTells.calls (k : Nat) (A0 : Option Addr) (c0 : Nat) (l0 : List (S28)) (a1 : ByteArray) (a2 : ByteArray) (r : Bool) (w : World) (hr0 : Kd.C k28 w A0 l0.length l0) (hc0 : l0.length ≤ c0) (hmet : WMet w) (h : wharfingerlaw11_AclTells.f k l0 a1 a2 = some r) :
    Calls Tryd.prog 3 #[.slice A0 l0.length c0, .string a1, .string a2] w fun e w' => e = .returned (.bool r) ∧ Below w.heap.size w w' := by
  have HMET := Aside0.mk hmet
  clear hmet
  have HR0 := Aside0.mk hr0
  have HC0 := Aside0.mk hc0
  clear hr0 hc0
  have HB := Aside0.mk (Below.refl w.heap.size w)
  have H : ((wharfingerlaw11_awake.f k).bind fun t169 => ((wharfingerlaw11_Few.f k l0).bind fun t170 => (if t169 = true then (if t170 = true then (if (a1.size : Int) > 300 then (wharfingerlaw11_AclTells.j0 k l0 a1 a2 t169 true) else (wharfingerlaw11_AclTells.j0 k l0 a1 a2 t169 (decide ((a2.size : Int) > 300)))) else (wharfingerlaw11_AclTells.j0 k l0 a1 a2 t169 true)) else (wharfingerlaw11_AclTells.j0 k l0 a1 a2 t169 true)))) = some r := h
  clear h
  replace H := Option.bind_eq_some_iff.mp H
  obtain ⟨t169, A40, H⟩ := H
  replace H : ((wharfingerlaw11_Few.f k l0).bind fun t170 => (if t169 = true then (if t170 = true then (if (a1.size : Int) > 300 then (wharfingerlaw11_AclTells.j0 k l0 a1 a2 t169 true) else (wharfingerlaw11_AclTells.j0 k l0 a1 a2 t169 (decide ((a2.size : Int) > 300)))) else (wharfingerlaw11_AclTells.j0 k l0 a1 a2 t169 true)) else (wharfingerlaw11_AclTells.j0 k l0 a1 a2 t169 true))) = some r := H
  have A4 := Aside0.mk A40
  clear A40
  replace H := Option.bind_eq_some_iff.mp H
  obtain ⟨t170, A50, H⟩ := H
  replace H : (if t169 = true then (if t170 = true then (if (a1.size : Int) > 300 then (wharfingerlaw11_AclTells.j0 k l0 a1 a2 t169 true) else (wharfingerlaw11_AclTells.j0 k l0 a1 a2 t169 (decide ((a2.size : Int) > 300)))) else (wharfingerlaw11_AclTells.j0 k l0 a1 a2 t169 true)) else (wharfingerlaw11_AclTells.j0 k l0 a1 a2 t169 true)) = some r := H
  have A5 := Aside0.mk A50
  clear A50
  have HC6 := Aside0.mk H
  clear H
  go_enter Tryd.func3, Tryd.ntmps3
  go_upto_region 3 with (first | ((with_reducible refine gate_callee (f := 7) rfl ?_); refine goesL_ (some 11) rfl rfl Tryd.func7 (by kernel_rfl) rfl #[] rfl (by (try simp only [List.map_toArray, List.map_cons, List.map_nil]); first | done | rfl | (simp only [List.length_drop, List.length_take]; rfl)) ?_; (with_reducible refine (wharfingerlaw11_awake.calls k  t169 _ ?side1 A4.out).mono ?_); (case side1 => exact HMET.out.below (by repeat (first | (with_reducible first | exact HB.out | apply below_alloc | apply pw_below_drewN | apply below_drew1) | exact HB.out))); rintro e w7 ⟨rfl, hb⟩; refine ⟨_, rfl, ?_⟩; have n0_ := Aside0.mk (below_step (by repeat (first | (with_reducible first | exact HB.out | apply below_alloc | apply pw_below_drewN | apply below_drew1) | exact HB.out)) hb); clear HB; have HB := n0_; clear n0_; (try clear hb); (try clear hb2); (try clear hk); (try clear hi)) | ((with_reducible refine gate_callee (f := 8) rfl ?_); refine goesL_ (some 13) rfl rfl Tryd.func8 (by kernel_rfl) rfl #[.slice A0 l0.length c0] rfl (by (try simp only [List.map_toArray, List.map_cons, List.map_nil]); first | done | rfl | (simp only [List.length_drop, List.length_take]; rfl)) ?_; (with_reducible refine (wharfingerlaw11_Few.calls k _ _ l0 t170 _ ?side1 ?side2 A5.out).mono ?_); (case side1 => repeat (first | exact (Kd.C_below HR0.out HB.out) | (with_reducible refine Kd.C_alloc ?_ _) | (with_reducible refine Kd.C_drewN ?_ _) | (with_reducible refine Kd.C_drew ?_))); (case side2 => exact HC0.out); rintro e w' ⟨rfl, ⟨nd, rfl⟩⟩; refine ⟨_, rfl, ?_⟩))
  (try simp only [Act.put, List.setIfInBounds_toArray, List.set_cons_zero, List.set_cons_succ])
  go_cut [29] (fun v29 wc => ∃ (kq : Nat) (x29_5 : Bool), v29 = .bool x29_5 ∧ Aside0 (wharfingerlaw11_AclTells.j0 kq l0 a1 a2 t169 x29_5 = some r) ∧ Aside0 (kq ≤ k) ∧ Aside0 (Below w.heap.size w wc))
  case first =>
    have H := HC6.out
    clear HC6
    by_cases c8 : t169 = true
    · subst c8
      have H1 : (if t170 = true then (if (a1.size : Int) > 300 then (wharfingerlaw11_AclTells.j0 k l0 a1 a2 true true) else (wharfingerlaw11_AclTells.j0 k l0 a1 a2 true (decide ((a2.size : Int) > 300)))) else (wharfingerlaw11_AclTells.j0 k l0 a1 a2 true true)) = some r := by rw [if_pos rfl] at H; exact H
      clear H
      have H := H1
      clear H1
      by_cases c9 : t170 = true
      · subst c9
        have H1 : (if (a1.size : Int) > 300 then (wharfingerlaw11_AclTells.j0 k l0 a1 a2 true true) else (wharfingerlaw11_AclTells.j0 k l0 a1 a2 true (decide ((a2.size : Int) > 300)))) = some r := by rw [if_pos rfl] at H; exact H
        clear H
        have H := H1
        clear H1
        by_cases c10 : (a1.size : Int) > 300
        · rw [if_pos c10] at H
          have c10b0 : decide (300 < (a1.size : Int)) = true := decide_eq_true c10
          have c10b1 : decide (300 < a1.size) = true := decide_eq_true (by omega)
          clear c10
          (first | rw [c10b0] | (simp only [i64_w, i32_w]; rw [c10b0]) | skip)
          have H' := Aside0.mk H
          clear H
          go_wp2
          go_meet
          case rel => exact ⟨_, (true), (by first | rfl | (simp; done) | (simp [*]; done)), H', ⟨by first | omega | exact Nat.le_refl _⟩, ⟨by repeat (first | (with_reducible first | exact HB.out | apply below_alloc | apply pw_below_drewN | apply below_drew1) | exact HB.out)⟩⟩
        · rw [if_neg c10] at H
          have c10b0 : decide (300 < (a1.size : Int)) = false := decide_eq_false c10
          have c10b1 : decide (300 < a1.size) = false := decide_eq_false (by omega)
          clear c10
          (first | rw [c10b0] | (simp only [i64_w, i32_w]; rw [c10b0]) | skip)
          have H' := Aside0.mk H
          clear H
          go_wp2
          go_meet
          case rel => exact ⟨_, (decide ((a2.size : Int) > 300)), (by first | rfl | (simp; done) | (simp [*]; done)), H', ⟨by first | omega | exact Nat.le_refl _⟩, ⟨by repeat (first | (with_reducible first | exact HB.out | apply below_alloc | apply pw_below_drewN | apply below_drew1) | exact HB.out)⟩⟩
      · replace c9 := Bool.eq_false_iff.mpr c9
        subst c9
        have H1 : (wharfingerlaw11_AclTells.j0 k l0 a1 a2 true true) = some r := by rw [if_neg (show ¬ (false = true) by decide)] at H; exact H
        clear H
        have H := H1
        clear H1
        have H' := Aside0.mk H
        clear H
        go_wp2
        go_meet
        case rel => exact ⟨_, (true), (by first | rfl | (simp; done) | (simp [*]; done)), H', ⟨by first | omega | exact Nat.le_refl _⟩, ⟨by repeat (first | (with_reducible first | exact HB.out | apply below_alloc | apply pw_below_drewN | apply below_drew1) | exact HB.out)⟩⟩
    · replace c8 := Bool.eq_false_iff.mpr c8
      subst c8
      have H1 : (wharfingerlaw11_AclTells.j0 k l0 a1 a2 false true) = some r := by rw [if_neg (show ¬ (false = true) by decide)] at H; exact H
      clear H
      have H := H1
      clear H1
      have H' := Aside0.mk H
      clear H
      go_wp2
      go_meet
      case rel => exact ⟨_, (true), (by first | rfl | (simp; done) | (simp [*]; done)), H', ⟨by first | omega | exact Nat.le_refl _⟩, ⟨by repeat (first | (with_reducible first | exact HB.out | apply below_alloc | apply pw_below_drewN | apply below_drew1) | exact HB.out)⟩⟩
  case rest =>
    clear HC6
    try clear c1
    try clear p2
    try clear c3
    try clear c7
    try clear c8
    try clear c9
    try clear c10
    try clear c10b0
    try clear c10b1
    obtain ⟨kq, x29_5, rfl, HA, HJ5, HB⟩ := hcut
    cases kq with
    | zero => exact absurd HA.out (by simp [wharfingerlaw11_AclTells.j0])
    | succ kj5 =>
      have H := HA.out
      clear HA
      simp only [wharfingerlaw11_AclTells.j0] at H
      by_cases c11 : x29_5 = true
      · subst c11
        have H1 : (some t169) = some r := by rw [if_pos rfl] at H; exact H
        clear H
        have H := H1
        clear H1
        obtain rfl := Option.some.inj H
        go_wp2
        go_ret
        exact ⟨by first | rfl | (simp [errW_none, errW_some] <;> rfl) | (simp [*, errW_none, errW_some] <;> rfl), by repeat (first | (with_reducible first | exact HB.out | apply below_alloc | apply pw_below_drewN | apply below_drew1) | exact HB.out)⟩
      · replace c11 := Bool.eq_false_iff.mpr c11
        subst c11
        have H1 : ((wharfingerref11_May.f kj5 l0).bind fun t171 => ((wharfingerref11_Allowed.f kj5 l0 a1 a2).bind fun t172 => ((acl_May.f kj5 l0).bind fun t173 => (if (t173 == t171) = true then ((acl_Which.f l0 a1 a2).bind fun t174 => ((wharfingerref11_Which.f kj5 l0 a1 a2).bind fun t175 => (if t174 = t175 then ((acl_Allowed.f l0 a1 a2).bind fun t176 => (some (t176 == t172))) else (some false)))) else (some false))))) = some r := by rw [if_neg (show ¬ (false = true) by decide)] at H; exact H
        clear H
        have H := H1
        clear H1
        replace H := Option.bind_eq_some_iff.mp H
        obtain ⟨t171, A120, H⟩ := H
        replace H : ((wharfingerref11_Allowed.f kj5 l0 a1 a2).bind fun t172 => ((acl_May.f kj5 l0).bind fun t173 => (if (t173 == t171) = true then ((acl_Which.f l0 a1 a2).bind fun t174 => ((wharfingerref11_Which.f kj5 l0 a1 a2).bind fun t175 => (if t174 = t175 then ((acl_Allowed.f l0 a1 a2).bind fun t176 => (some (t176 == t172))) else (some false)))) else (some false)))) = some r := H
        have A12 := Aside0.mk A120
        clear A120
        replace H := Option.bind_eq_some_iff.mp H
        obtain ⟨t172, A130, H⟩ := H
        replace H : ((acl_May.f kj5 l0).bind fun t173 => (if (t173 == t171) = true then ((acl_Which.f l0 a1 a2).bind fun t174 => ((wharfingerref11_Which.f kj5 l0 a1 a2).bind fun t175 => (if t174 = t175 then ((acl_Allowed.f l0 a1 a2).bind fun t176 => (some (t176 == t172))) else (some false)))) else (some false))) = some r := H
        have A13 := Aside0.mk A130
        clear A130
        replace H := Option.bind_eq_some_iff.mp H
        obtain ⟨t173, A140, H⟩ := H
        replace H : (if (t173 == t171) = true then ((acl_Which.f l0 a1 a2).bind fun t174 => ((wharfingerref11_Which.f kj5 l0 a1 a2).bind fun t175 => (if t174 = t175 then ((acl_Allowed.f l0 a1 a2).bind fun t176 => (some (t176 == t172))) else (some false)))) else (some false)) = some r := H
        have A14 := Aside0.mk A140
        clear A140
        by_cases c15 : (t173 == t171) = true
        · rw [if_pos c15] at H
          have c15b0 : (t173 == t171) = true := c15
          (try (have c15b1 : decide (t173 = t171) = true := by simpa using c15))
          (try (have c15b2 : (t173 == t171) = true := by simpa using c15))
          clear c15
          replace H := Option.bind_eq_some_iff.mp H
          obtain ⟨t174, A160, H⟩ := H
          replace H : ((wharfingerref11_Which.f kj5 l0 a1 a2).bind fun t175 => (if t174 = t175 then ((acl_Allowed.f l0 a1 a2).bind fun t176 => (some (t176 == t172))) else (some false))) = some r := H
          have A16 := Aside0.mk A160
          clear A160
          replace H := Option.bind_eq_some_iff.mp H
          obtain ⟨t175, A170, H⟩ := H
          replace H : (if t174 = t175 then ((acl_Allowed.f l0 a1 a2).bind fun t176 => (some (t176 == t172))) else (some false)) = some r := H
          have A17 := Aside0.mk A170
          clear A170
          by_cases c18 : t174 = t175
          · rw [if_pos c18] at H
            have c18b0 : (t174 == t175) = true := beq_iff_eq.mpr c18
            have c18b1 : (t174 != t175) = false := bne_eq_false_iff_eq.mpr c18
            clear c18
            replace H := Option.bind_eq_some_iff.mp H
            obtain ⟨t176, A190, H⟩ := H
            replace H : (some (t176 == t172)) = some r := H
            have A19 := Aside0.mk A190
            clear A190
            obtain rfl := Option.some.inj H
            go_wp2_with (first | ((with_reducible refine gate_callee (f := 9) rfl ?_); refine goesL_ (some 32) rfl rfl Tryd.func9 (by kernel_rfl) rfl #[.slice A0 l0.length c0] rfl (by (try simp only [List.map_toArray, List.map_cons, List.map_nil]); first | done | rfl | (simp only [List.length_drop, List.length_take]; rfl)) ?_; (with_reducible refine (wharfingerref11_May.calls kj5 _ _ l0 t171 _ ?side1 ?side2 A12.out).mono ?_); (case side1 => repeat (first | exact (Kd.C_below HR0.out HB.out) | (with_reducible refine Kd.C_alloc ?_ _) | (with_reducible refine Kd.C_drewN ?_ _) | (with_reducible refine Kd.C_drew ?_))); (case side2 => exact HC0.out); rintro e w20 ⟨rfl, hb⟩; refine ⟨_, rfl, ?_⟩; have n0_ := Aside0.mk (below_step (by repeat (first | (with_reducible first | exact HB.out | apply below_alloc | apply pw_below_drewN | apply below_drew1) | exact HB.out)) hb); clear HB; have HB := n0_; clear n0_; (try clear hb); (try clear hb2); (try clear hk); (try clear hi)) | ((with_reducible refine gate_callee (f := 10) rfl ?_); refine goesL_ (some 36) rfl rfl Tryd.func10 (by kernel_rfl) rfl #[.slice A0 l0.length c0, .string a1, .string a2] rfl (by (try simp only [List.map_toArray, List.map_cons, List.map_nil]); first | done | rfl | (simp only [List.length_drop, List.length_take]; rfl)) ?_; (with_reducible refine (wharfingerref11_Allowed.calls kj5 _ _ l0 a1 a2 t172 _ ?side1 ?side2 A13.out).mono ?_); (case side1 => repeat (first | exact (Kd.C_below HR0.out HB.out) | (with_reducible refine Kd.C_alloc ?_ _) | (with_reducible refine Kd.C_drewN ?_ _) | (with_reducible refine Kd.C_drew ?_))); (case side2 => exact HC0.out); rintro e w21 ⟨rfl, hb⟩; refine ⟨_, rfl, ?_⟩; have n0_ := Aside0.mk (below_step (by repeat (first | (with_reducible first | exact HB.out | apply below_alloc | apply pw_below_drewN | apply below_drew1) | exact HB.out)) hb); clear HB; have HB := n0_; clear n0_; (try clear hb); (try clear hb2); (try clear hk); (try clear hi)) | ((with_reducible refine gate_callee (f := 11) rfl ?_); refine goesL_ (some 38) rfl rfl Tryd.func11 (by kernel_rfl) rfl #[.slice A0 l0.length c0] rfl (by (try simp only [List.map_toArray, List.map_cons, List.map_nil]); first | done | rfl | (simp only [List.length_drop, List.length_take]; rfl)) ?_; (with_reducible refine (acl_May.calls kj5 _ _ l0 t173 _ ?side1 ?side2 ?side3 A14.out).mono ?_); (case side1 => repeat (first | exact (Kd.C_below HR0.out HB.out) | (with_reducible refine Kd.C_alloc ?_ _) | (with_reducible refine Kd.C_drewN ?_ _) | (with_reducible refine Kd.C_drew ?_))); (case side2 => exact HC0.out); (case side3 => exact HMET.out.below (by repeat (first | (with_reducible first | exact HB.out | apply below_alloc | apply pw_below_drewN | apply below_drew1) | exact HB.out))); rintro e w22 ⟨rfl, hb⟩; refine ⟨_, rfl, ?_⟩; have n0_ := Aside0.mk (below_step (by repeat (first | (with_reducible first | exact HB.out | apply below_alloc | apply pw_below_drewN | apply below_drew1) | exact HB.out)) hb); clear HB; have HB := n0_; clear n0_; (try clear hb); (try clear hb2); (try clear hk); (try clear hi)) | (go_at_call 12; (with_reducible refine (acl_Which.calls _ _ l0 a1 a2 t174 _ ?side1 ?side2 ?side3 A16.out).mono ?_); (case side1 => repeat (first | exact (Kd.C_below HR0.out HB.out) | (with_reducible refine Kd.C_alloc ?_ _) | (with_reducible refine Kd.C_drewN ?_ _) | (with_reducible refine Kd.C_drew ?_))); (case side2 => exact HC0.out); (case side3 => exact HMET.out.below (by repeat (first | (with_reducible first | exact HB.out | apply below_alloc | apply pw_below_drewN | apply below_drew1) | exact HB.out))); rintro e w23 ⟨rfl, hb⟩; have n0_ := Aside0.mk (below_step (by repeat (first | (with_reducible first | exact HB.out | apply below_alloc | apply pw_below_drewN | apply below_drew1) | exact HB.out)) hb); clear HB; have HB := n0_; clear n0_; (try clear hb); (try clear hb2); (try clear hk); (try clear hi)) | (go_at_call 13; (with_reducible refine (wharfingerref11_Which.calls kj5 _ _ l0 a1 a2 t175 _ ?side1 ?side2 A17.out).mono ?_); (case side1 => repeat (first | exact (Kd.C_below HR0.out HB.out) | (with_reducible refine Kd.C_alloc ?_ _) | (with_reducible refine Kd.C_drewN ?_ _) | (with_reducible refine Kd.C_drew ?_))); (case side2 => exact HC0.out); rintro e w24 ⟨rfl, hb⟩; have n0_ := Aside0.mk (below_step (by repeat (first | (with_reducible first | exact HB.out | apply below_alloc | apply pw_below_drewN | apply below_drew1) | exact HB.out)) hb); clear HB; have HB := n0_; clear n0_; (try clear hb); (try clear hb2); (try clear hk); (try clear hi)) | (go_at_call 14; (with_reducible refine (acl_Allowed.calls _ _ l0 a1 a2 t176 _ ?side1 ?side2 ?side3 A19.out).mono ?_); (case side1 => repeat (first | exact (Kd.C_below HR0.out HB.out) | (with_reducible refine Kd.C_alloc ?_ _) | (with_reducible refine Kd.C_drewN ?_ _) | (with_reducible refine Kd.C_drew ?_))); (case side2 => exact HC0.out); (case side3 => exact HMET.out.below (by repeat (first | (with_reducible first | exact HB.out | apply below_alloc | apply pw_below_drewN | apply below_drew1) | exact HB.out))); rintro e w25 ⟨rfl, hb⟩; have n0_ := Aside0.mk (below_step (by repeat (first | (with_reducible first | exact HB.out | apply below_alloc | apply pw_below_drewN | apply below_drew1) | exact HB.out)) hb); clear HB; have HB := n0_; clear n0_; (try clear hb); (try clear hb2); (try clear hk); (try clear hi)))
            go_ret
            exact ⟨by first | rfl | (simp [errW_none, errW_some] <;> rfl) | (simp [*, errW_none, errW_some] <;> rfl), by repeat (first | (with_reducible first | exact HB.out | apply below_alloc | apply pw_below_drewN | apply below_drew1) | exact HB.out)⟩
          · rw [if_neg c18] at H
            have c18b0 : (t174 == t175) = false := beq_eq_false_iff_ne.mpr c18
            have c18b1 : (t174 != t175) = true := bne_iff_ne.mpr c18
            obtain rfl := Option.some.inj H
            go_wp2_with (first | ((with_reducible refine gate_callee (f := 9) rfl ?_); refine goesL_ (some 32) rfl rfl Tryd.func9 (by kernel_rfl) rfl #[.slice A0 l0.length c0] rfl (by (try simp only [List.map_toArray, List.map_cons, List.map_nil]); first | done | rfl | (simp only [List.length_drop, List.length_take]; rfl)) ?_; (with_reducible refine (wharfingerref11_May.calls kj5 _ _ l0 t171 _ ?side1 ?side2 A12.out).mono ?_); (case side1 => repeat (first | exact (Kd.C_below HR0.out HB.out) | (with_reducible refine Kd.C_alloc ?_ _) | (with_reducible refine Kd.C_drewN ?_ _) | (with_reducible refine Kd.C_drew ?_))); (case side2 => exact HC0.out); rintro e w26 ⟨rfl, hb⟩; refine ⟨_, rfl, ?_⟩; have n0_ := Aside0.mk (below_step (by repeat (first | (with_reducible first | exact HB.out | apply below_alloc | apply pw_below_drewN | apply below_drew1) | exact HB.out)) hb); clear HB; have HB := n0_; clear n0_; (try clear hb); (try clear hb2); (try clear hk); (try clear hi)) | ((with_reducible refine gate_callee (f := 10) rfl ?_); refine goesL_ (some 36) rfl rfl Tryd.func10 (by kernel_rfl) rfl #[.slice A0 l0.length c0, .string a1, .string a2] rfl (by (try simp only [List.map_toArray, List.map_cons, List.map_nil]); first | done | rfl | (simp only [List.length_drop, List.length_take]; rfl)) ?_; (with_reducible refine (wharfingerref11_Allowed.calls kj5 _ _ l0 a1 a2 t172 _ ?side1 ?side2 A13.out).mono ?_); (case side1 => repeat (first | exact (Kd.C_below HR0.out HB.out) | (with_reducible refine Kd.C_alloc ?_ _) | (with_reducible refine Kd.C_drewN ?_ _) | (with_reducible refine Kd.C_drew ?_))); (case side2 => exact HC0.out); rintro e w27 ⟨rfl, hb⟩; refine ⟨_, rfl, ?_⟩; have n0_ := Aside0.mk (below_step (by repeat (first | (with_reducible first | exact HB.out | apply below_alloc | apply pw_below_drewN | apply below_drew1) | exact HB.out)) hb); clear HB; have HB := n0_; clear n0_; (try clear hb); (try clear hb2); (try clear hk); (try clear hi)) | ((with_reducible refine gate_callee (f := 11) rfl ?_); refine goesL_ (some 38) rfl rfl Tryd.func11 (by kernel_rfl) rfl #[.slice A0 l0.length c0] rfl (by (try simp only [List.map_toArray, List.map_cons, List.map_nil]); first | done | rfl | (simp only [List.length_drop, List.length_take]; rfl)) ?_; (with_reducible refine (acl_May.calls kj5 _ _ l0 t173 _ ?side1 ?side2 ?side3 A14.out).mono ?_); (case side1 => repeat (first | exact (Kd.C_below HR0.out HB.out) | (with_reducible refine Kd.C_alloc ?_ _) | (with_reducible refine Kd.C_drewN ?_ _) | (with_reducible refine Kd.C_drew ?_))); (case side2 => exact HC0.out); (case side3 => exact HMET.out.below (by repeat (first | (with_reducible first | exact HB.out | apply below_alloc | apply pw_below_drewN | apply below_drew1) | exact HB.out))); rintro e w28 ⟨rfl, hb⟩; refine ⟨_, rfl, ?_⟩; have n0_ := Aside0.mk (below_step (by repeat (first | (with_reducible first | exact HB.out | apply below_alloc | apply pw_below_drewN | apply below_drew1) | exact HB.out)) hb); clear HB; have HB := n0_; clear n0_; (try clear hb); (try clear hb2); (try clear hk); (try clear hi)) | (go_at_call 12; (with_reducible refine (acl_Which.calls _ _ l0 a1 a2 t174 _ ?side1 ?side2 ?side3 A16.out).mono ?_); (case side1 => repeat (first | exact (Kd.C_below HR0.out HB.out) | (with_reducible refine Kd.C_alloc ?_ _) | (with_reducible refine Kd.C_drewN ?_ _) | (with_reducible refine Kd.C_drew ?_))); (case side2 => exact HC0.out); (case side3 => exact HMET.out.below (by repeat (first | (with_reducible first | exact HB.out | apply below_alloc | apply pw_below_drewN | apply below_drew1) | exact HB.out))); rintro e w29 ⟨rfl, hb⟩; have n0_ := Aside0.mk (below_step (by repeat (first | (with_reducible first | exact HB.out | apply below_alloc | apply pw_below_drewN | apply below_drew1) | exact HB.out)) hb); clear HB; have HB := n0_; clear n0_; (try clear hb); (try clear hb2); (try clear hk); (try clear hi)) | (go_at_call 13; (with_reducible refine (wharfingerref11_Which.calls kj5 _ _ l0 a1 a2 t175 _ ?side1 ?side2 A17.out).mono ?_); (case side1 => repeat (first | exact (Kd.C_below HR0.out HB.out) | (with_reducible refine Kd.C_alloc ?_ _) | (with_reducible refine Kd.C_drewN ?_ _) | (with_reducible refine Kd.C_drew ?_))); (case side2 => exact HC0.out); rintro e w30 ⟨rfl, hb⟩; have n0_ := Aside0.mk (below_step (by repeat (first | (with_reducible first | exact HB.out | apply below_alloc | apply pw_below_drewN | apply below_drew1) | exact HB.out)) hb); clear HB; have HB := n0_; clear n0_; (try clear hb); (try clear hb2); (try clear hk); (try clear hi)))
            go_ret
            exact ⟨by first | rfl | (simp [errW_none, errW_some] <;> rfl) | (simp [*, errW_none, errW_some] <;> rfl), by repeat (first | (with_reducible first | exact HB.out | apply below_alloc | apply pw_below_drewN | apply below_drew1) | exact HB.out)⟩
        · rw [if_neg c15] at H
          have c15b0 : (t173 == t171) = false := by simpa using c15
          (try (have c15b1 : decide (t173 = t171) = false := by simpa using c15))
          (try (have c15b2 : (t173 == t171) = false := by simpa using c15))
          (try (have c15b3 : ¬ (t173 = t171) := by simpa using c15))
          clear c15
          obtain rfl := Option.some.inj H
          go_wp2_with (first | ((with_reducible refine gate_callee (f := 9) rfl ?_); refine goesL_ (some 32) rfl rfl Tryd.func9 (by kernel_rfl) rfl #[.slice A0 l0.length c0] rfl (by (try simp only [List.map_toArray, List.map_cons, List.map_nil]); first | done | rfl | (simp only [List.length_drop, List.length_take]; rfl)) ?_; (with_reducible refine (wharfingerref11_May.calls kj5 _ _ l0 t171 _ ?side1 ?side2 A12.out).mono ?_); (case side1 => repeat (first | exact (Kd.C_below HR0.out HB.out) | (with_reducible refine Kd.C_alloc ?_ _) | (with_reducible refine Kd.C_drewN ?_ _) | (with_reducible refine Kd.C_drew ?_))); (case side2 => exact HC0.out); rintro e w31 ⟨rfl, hb⟩; refine ⟨_, rfl, ?_⟩; have n0_ := Aside0.mk (below_step (by repeat (first | (with_reducible first | exact HB.out | apply below_alloc | apply pw_below_drewN | apply below_drew1) | exact HB.out)) hb); clear HB; have HB := n0_; clear n0_; (try clear hb); (try clear hb2); (try clear hk); (try clear hi)) | ((with_reducible refine gate_callee (f := 10) rfl ?_); refine goesL_ (some 36) rfl rfl Tryd.func10 (by kernel_rfl) rfl #[.slice A0 l0.length c0, .string a1, .string a2] rfl (by (try simp only [List.map_toArray, List.map_cons, List.map_nil]); first | done | rfl | (simp only [List.length_drop, List.length_take]; rfl)) ?_; (with_reducible refine (wharfingerref11_Allowed.calls kj5 _ _ l0 a1 a2 t172 _ ?side1 ?side2 A13.out).mono ?_); (case side1 => repeat (first | exact (Kd.C_below HR0.out HB.out) | (with_reducible refine Kd.C_alloc ?_ _) | (with_reducible refine Kd.C_drewN ?_ _) | (with_reducible refine Kd.C_drew ?_))); (case side2 => exact HC0.out); rintro e w32 ⟨rfl, hb⟩; refine ⟨_, rfl, ?_⟩; have n0_ := Aside0.mk (below_step (by repeat (first | (with_reducible first | exact HB.out | apply below_alloc | apply pw_below_drewN | apply below_drew1) | exact HB.out)) hb); clear HB; have HB := n0_; clear n0_; (try clear hb); (try clear hb2); (try clear hk); (try clear hi)) | ((with_reducible refine gate_callee (f := 11) rfl ?_); refine goesL_ (some 38) rfl rfl Tryd.func11 (by kernel_rfl) rfl #[.slice A0 l0.length c0] rfl (by (try simp only [List.map_toArray, List.map_cons, List.map_nil]); first | done | rfl | (simp only [List.length_drop, List.length_take]; rfl)) ?_; (with_reducible refine (acl_May.calls kj5 _ _ l0 t173 _ ?side1 ?side2 ?side3 A14.out).mono ?_); (case side1 => repeat (first | exact (Kd.C_below HR0.out HB.out) | (with_reducible refine Kd.C_alloc ?_ _) | (with_reducible refine Kd.C_drewN ?_ _) | (with_reducible refine Kd.C_drew ?_))); (case side2 => exact HC0.out); (case side3 => exact HMET.out.below (by repeat (first | (with_reducible first | exact HB.out | apply below_alloc | apply pw_below_drewN | apply below_drew1) | exact HB.out))); rintro e w33 ⟨rfl, hb⟩; refine ⟨_, rfl, ?_⟩; have n0_ := Aside0.mk (below_step (by repeat (first | (with_reducible first | exact HB.out | apply below_alloc | apply pw_below_drewN | apply below_drew1) | exact HB.out)) hb); clear HB; have HB := n0_; clear n0_; (try clear hb); (try clear hb2); (try clear hk); (try clear hi)))
          go_ret
          exact ⟨by first | rfl | (simp [errW_none, errW_some] <;> rfl) | (simp [*, errW_none, errW_some] <;> rfl), by repeat (first | (with_reducible first | exact HB.out | apply below_alloc | apply pw_below_drewN | apply below_drew1) | exact HB.out)⟩

end Go.Proofs.YtdemfgijfnicpaaDoor.Q

namespace Go.Proofs.YtdemfgijfnicpaaDoor.Pure
open Go Go.RowKit Go.Proofs.YtdemfgijfnicpaaDoor.Q Go.Proofs.YtdemfgijfnicpaaDoor.Quad Go.Proofs.YtdemfgijfnicpaaDoorW.PrintWords Go.Proofs.YtdemfgijfnicpaaDoorW.PrintLast Go.Proofs.YtdemfgijfnicpaaDoorW.PrintMore
set_option linter.unusedVariables false
set_option linter.unusedSimpArgs false

theorem tells_end (l : List S28) (a b : ByteArray) (u : Bool) : Ev (fun k => wharfingerlaw11_AclTells.j0 k l a b u true) u :=
  Ev.step (f := fun _ => some u) (fun k => by simp only [wharfingerlaw11_AclTells.j0, if_true]) (Ev.now _)
theorem tells_ev (l : List S28) (a b : ByteArray) : Ev (fun k => wharfingerlaw11_AclTells.f k l a b) true := by
  unfold wharfingerlaw11_AclTells.f
  refine Ev.bind awake_ev (Ev.bind (few_ev l) ?_)
  simp only [if_true]
  cases hf : fewS l
  · simp only [Bool.false_eq_true, if_false]; exact tells_end l a b true
  · have hl := (few_ok hf).2
    simp only [if_true]
    by_cases ha : (a.size : Int) > 300
    · simp only [if_pos ha]; exact tells_end l a b true
    · simp only [if_neg ha]
      by_cases hb : (b.size : Int) > 300
      · simp only [decide_eq_true hb]; exact tells_end l a b true
      · simp only [decide_eq_false hb]
        have hb6 : b.size ≤ 1000000 := by omega
        refine Ev.step (g := fun k => wharfingerlaw11_AclTells.j0 k l a b true false) (fun k => by simp only [wharfingerlaw11_AclTells.j0, Bool.false_eq_true, if_false]; rfl) ?_
        refine Ev.bind (rmay_ev l hl) (Ev.bind (rallowed_ev l a b hl hb6) (Ev.bind (may_ev l hl) ?_))
        simp only [beq_self_eq_true, if_true, which_is l a b hl hb6, allowed_is l a b hl hb6, Option.bind_some]
        refine Ev.bind (rwhich_ev l a b hl hb6) ?_
        simp only [if_true, beq_self_eq_true]
        exact Ev.now _

end Go.Proofs.YtdemfgijfnicpaaDoor.Pure
namespace Go.Proofs.YtdemfgijfnicpaaDoor.AclOpen
open Go Go.RowKit Go.Proofs.YtdemfgijfnicpaaDoorW.PrintWords Go.Proofs.YtdemfgijfnicpaaDoor.Opens Go.Proofs.YtdemfgijfnicpaaDoor.Q
set_option linter.unusedVariables false

theorem tells_walk (A0 : Option Addr) (c0 : Nat) (l0 : List S28) (a b : ByteArray) (w : World) (hr : Kd.C k28 w A0 l0.length l0) (hc : l0.length ≤ c0) (hm : Quad.Mx w) :
    Calls Tryd.prog 3 #[.slice A0 l0.length c0, .string a, .string b] w fun e w' => e = .returned (.bool true) ∧ Below w.heap.size w w' := by
  obtain ⟨k, h⟩ := (Pure.tells_ev l0 a b).rounds
  exact wharfingerlaw11_AclTells.calls k A0 c0 l0 a b true w hr hc hm h
end Go.Proofs.YtdemfgijfnicpaaDoor.AclOpen
