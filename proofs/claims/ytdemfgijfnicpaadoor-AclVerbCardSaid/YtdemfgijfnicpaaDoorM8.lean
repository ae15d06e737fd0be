/- Contracts and plain facts that the law's proof needs. -/
import Derived.Test.YtdemfgijfnicpaaDoorM1
import Derived.Test.YtdemfgijfnicpaaDoorM2
import Derived.Test.YtdemfgijfnicpaaDoorM3
import Derived.Test.YtdemfgijfnicpaaDoorM4
namespace Go.Proofs.YtdemfgijfnicpaaDoor.Q
open Go.RowKit Go.Proofs.YtdemfgijfnicpaaDoor.AclMet Go.Proofs.YtdemfgijfnicpaaDoorW.PrintWords Go.Proofs.YtdemfgijfnicpaaDoorW.PrintLast Go.Proofs.YtdemfgijfnicpaaDoorW.PrintMore
attribute [local go_sem] max2_int min2_int max_two min_two max_three min_three max_four min_four   -- for this text's walks alone
set_option linter.unusedVariables false
set_option linter.unusedSimpArgs false

/-! ### wharfingerlaw11_AclVerb: function 6 -/
def wharfingerlaw11_AclVerb.j0 : Nat → List (S28) → Int → ByteArray → ByteArray → Bool → Bool → Bool → ByteArray → ByteArray → Option (Bool)
  | 0, _, _, _, _, _, _, _, _, _ => none
  | k + 1, x0, x2, x3, x4, x11, x67, x216000, x216001, x216002 => if x67 = true then (some x11) else (if 0 ≤ x2 then (if x2 ≤ (x0.length : Int) then ((some (x0.take (x2 : Int).toNat : List (S28))).bind fun y218 => (if ([] : List (S28)).length + y218.length < 3518437208883 then ((some (([] : List (S28)) ++ y218 : List (S28))).bind fun y222 => ((some (([(⟨x216000, x216001, x216002⟩ : S28)] : List (S28)) : List (S28))).bind fun y225 => (if y222.length + y225.length < 3518437208883 then ((some (y222 ++ y225 : List (S28))).bind fun y228 => ((some (x0.drop (x2 : Int).toNat : List (S28))).bind fun y231 => (if y228.length + y231.length < 3518437208883 then ((some (y228 ++ y231 : List (S28))).bind fun y235 => ((acl_Which.f x0 x3 x4).bind fun t238 => ((acl_Which.f y235 x3 x4).bind fun t239 => (if t238 ≥ x2 then (if t239 = (wrap64 (t238 + 1)) then ((acl_Allowed.f y235 x3 x4).bind fun t240 => ((acl_Allowed.f x0 x3 x4).bind fun t241 => (some (t240 == t241)))) else (some false)) else (if t239 = t238 then ((acl_Allowed.f y235 x3 x4).bind fun t242 => ((acl_Allowed.f x0 x3 x4).bind fun t243 => (some (t242 == t243)))) else (some false)))))) else (none)))) else (none)))) else (none))) else (none)) else (none))
def wharfingerlaw11_AclVerb.f (k : Nat) (l0 : List (S28)) (a1_0 : Bool) (a1_1 : ByteArray) (a1_2 : ByteArray) (a2 : Int) (a3 : ByteArray) (a4 : ByteArray) : Option (Bool) := (wharfingerlaw11_awake.f k).bind fun t216 => ((wharfingerlaw11_Few.f k l0).bind fun t217 => (if t216 = true then (if t217 = true then (if (a1_1.size : Int) > 300 then (wharfingerlaw11_AclVerb.j0 k l0 a2 a3 a4 t216 true a1_0 a1_1 a1_2) else (if (a1_2.size : Int) > 300 then (wharfingerlaw11_AclVerb.j0 k l0 a2 a3 a4 t216 true a1_0 a1_1 a1_2) else (if (a3.size : Int) > 300 then (wharfingerlaw11_AclVerb.j0 k l0 a2 a3 a4 t216 true a1_0 a1_1 a1_2) else (if (a4.size : Int) > 300 then (wharfingerlaw11_AclVerb.j0 k l0 a2 a3 a4 t216 true a1_0 a1_1 a1_2) else (if a2 < 0 then (wharfingerlaw11_AclVerb.j0 k l0 a2 a3 a4 t216 true a1_0 a1_1 a1_2) else (if a2 > (l0.length : Int) then (wharfingerlaw11_AclVerb.j0 k l0 a2 a3 a4 t216 true a1_0 a1_1 a1_2) else (if a1_1.toList = ([] : List UInt8) then (wharfingerlaw11_AclVerb.j0 k l0 a2 a3 a4 t216 true a1_0 a1_1 a1_2) else (wharfingerlaw11_AclVerb.j0 k l0 a2 a3 a4 t216 (a1_1.toList == a3.toList) a1_0 a1_1 a1_2)))))))) else (wharfingerlaw11_AclVerb.j0 k l0 a2 a3 a4 t216 true a1_0 a1_1 a1_2)) else (wharfingerlaw11_AclVerb.j0 k l0 a2 a3 a4 t216 true a1_0 a1_1 a1_2)))
theorem wharfingerlaw11_AclVerb.mono_l : ∀ k, (∀ y0 y1 y2 y3 y4 y5 y6 y7 y8, LeO (wharfingerlaw11_AclVerb.j0 k y0 y1 y2 y3 y4 y5 y6 y7 y8) (wharfingerlaw11_AclVerb.j0 (k + 1) y0 y1 y2 y3 y4 y5 y6 y7 y8))
  | 0 => fun _ _ _ _ _ _ _ _ _ r h => by simp [wharfingerlaw11_AclVerb.j0] at h
  | k + 1 => by
    have ih0 := wharfingerlaw11_AclVerb.mono_l k
    · intro y0 y1 y2 y3 y4 y5 y6 y7 y8
      unfold wharfingerlaw11_AclVerb.j0
      repeat' first
      | (with_reducible exact ih0 _ _ _ _ _ _ _ _ _)
      | (with_reducible exact wharfingerlaw11_Few.mono _ _)
      | (with_reducible exact wharfingerlaw11_awake.mono _)
      | (with_reducible exact LeO.refl _)
      | (with_reducible exact LeO.none _)
      | (with_reducible refine LeO.ite ?_ ?_)
      | (with_reducible refine LeO.bind ?_ (fun _ => ?_))
      | exact ih0 _ _ _ _ _ _ _ _ _
      | exact wharfingerlaw11_Few.mono _ _
      | exact wharfingerlaw11_awake.mono _
      | exact LeO.none _
      | refine LeO.ite ?_ ?_
      | refine LeO.bind ?_ (fun _ => ?_)
theorem wharfingerlaw11_AclVerb.mono : ∀ a0 a1 a2 a3 a4 a5 a6 k, LeO (wharfingerlaw11_AclVerb.f k a0 a1 a2 a3 a4 a5 a6) (wharfingerlaw11_AclVerb.f (k + 1) a0 a1 a2 a3 a4 a5 a6) := by
  intro a0 a1 a2 a3 a4 a5 a6 k
  have ih0 := wharfingerlaw11_AclVerb.mono_l k
  unfold wharfingerlaw11_AclVerb.f
  repeat' first
      | (with_reducible exact ih0 _ _ _ _ _ _ _ _ _)
      | (with_reducible exact wharfingerlaw11_Few.mono _ _)
      | (with_reducible exact wharfingerlaw11_awake.mono _)
      | (with_reducible exact LeO.refl _)
      | (with_reducible exact LeO.none _)
      | (with_reducible refine LeO.ite ?_ ?_)
      | (with_reducible refine LeO.bind ?_ (fun _ => ?_))
      | exact ih0 _ _ _ _ _ _ _ _ _
      | exact wharfingerlaw11_Few.mono _ _
      | exact wharfingerlaw11_awake.mono _
      | exact LeO.none _
      | refine LeO.ite ?_ ?_
      | refine LeO.bind ?_ (fun _ => ?_)
def wharfingerlaw11_AclVerb.T5 : Bool × List (List Nat × List Nat) := (true, [([], []), ([], []), ([0, 1], [0, 1]), ([2], [2]), ([], []), ([4], [4]), ([3, 5, 3], [3, 5]), ([6, 6, 0, 1, 2, 3, 4, 5, 6], [6])])
def wharfingerlaw11_AclVerb.B5 : List Nat := [0, 0, 3, 7, 0, 16, 63, 127]
theorem wharfingerlaw11_AclVerb.tab5 : rtab .any (opsOf Tryd.f6 5) = wharfingerlaw11_AclVerb.T5 := by kernel_rfl
theorem wharfingerlaw11_AclVerb.bits5 : waitsOk wharfingerlaw11_AclVerb.T5.2 wharfingerlaw11_AclVerb.B5 = true := by kernel_rfl
set_option maxHeartbeats 8000000 in
set_option maxRecDepth 100000 in
theorem wharfingerlaw11_AclVerb.calls (k : Nat) (A0 : Option Addr) (c0 : Nat) (l0 : List (S28)) (a1_0 : Bool) (a1_1 : ByteArray) (a1_2 : ByteArray) (a2 : Int) (a3 : ByteArray) (a4 : ByteArray) (r : Bool) (w : World) (hr0 : Kd.C k28 w A0 l0.length l0) (hc0 : l0.length ≤ c0) (hmet : WMet w) (h : wharfingerlaw11_AclVerb.f k l0 a1_0 a1_1 a1_2 a2 a3 a4 = some r) :
    Calls Tryd.prog 6 #[.slice A0 l0.length c0, .agg #[.bool a1_0, .string a1_1, .string a1_2], .int .i64 a2, .string a3, .string a4] w fun e w' => e = .returned (.bool r) ∧ Below w.heap.size w w' := by
  have HMET := Aside0.mk hmet
  clear hmet
  have hu28 := Tryd.underlying28
  have HR0 := Aside0.mk hr0
  have HC0 := Aside0.mk hc0
  clear hr0 hc0
  have HB := Aside0.mk (Below.refl w.heap.size w)
  have H : ((wharfingerlaw11_awake.f k).bind fun t216 => ((wharfingerlaw11_Few.f k l0).bind fun t217 => (if t216 = true then (if t217 = true then (if (a1_1.size : Int) > 300 then (wharfingerlaw11_AclVerb.j0 k l0 a2 a3 a4 t216 true a1_0 a1_1 a1_2) else (if (a1_2.size : Int) > 300 then (wharfingerlaw11_AclVerb.j0 k l0 a2 a3 a4 t216 true a1_0 a1_1 a1_2) else (if (a3.size : Int) > 300 then (wharfingerlaw11_AclVerb.j0 k l0 a2 a3 a4 t216 true a1_0 a1_1 a1_2) else (if (a4.size : Int) > 300 then (wharfingerlaw11_AclVerb.j0 k l0 a2 a3 a4 t216 true a1_0 a1_1 a1_2) else (if a2 < 0 then (wharfingerlaw11_AclVerb.j0 k l0 a2 a3 a4 t216 true a1_0 a1_1 a1_2) else (if a2 > (l0.length : Int) then (wharfingerlaw11_AclVerb.j0 k l0 a2 a3 a4 t216 true a1_0 a1_1 a1_2) else (if a1_1.toList = ([] : List UInt8) then (wharfingerlaw11_AclVerb.j0 k l0 a2 a3 a4 t216 true a1_0 a1_1 a1_2) else (wharfingerlaw11_AclVerb.j0 k l0 a2 a3 a4 t216 (a1_1.toList == a3.toList) a1_0 a1_1 a1_2)))))))) else (wharfingerlaw11_AclVerb.j0 k l0 a2 a3 a4 t216 true a1_0 a1_1 a1_2)) else (wharfingerlaw11_AclVerb.j0 k l0 a2 a3 a4 t216 true a1_0 a1_1 a1_2)))) = some r := h
  clear h
  replace H := Option.bind_eq_some_iff.mp H
  obtain ⟨t216, A60, H⟩ := H
  replace H : ((wharfingerlaw11_Few.f k l0).bind fun t217 => (if t216 = true then (if t217 = true then (if (a1_1.size : Int) > 300 then (wharfingerlaw11_AclVerb.j0 k l0 a2 a3 a4 t216 true a1_0 a1_1 a1_2) else (if (a1_2.size : Int) > 300 then (wharfingerlaw11_AclVerb.j0 k l0 a2 a3 a4 t216 true a1_0 a1_1 a1_2) else (if (a3.size : Int) > 300 then (wharfingerlaw11_AclVerb.j0 k l0 a2 a3 a4 t216 true a1_0 a1_1 a1_2) else (if (a4.size : Int) > 300 then (wharfingerlaw11_AclVerb.j0 k l0 a2 a3 a4 t216 true a1_0 a1_1 a1_2) else (if a2 < 0 then (wharfingerlaw11_AclVerb.j0 k l0 a2 a3 a4 t216 true a1_0 a1_1 a1_2) else (if a2 > (l0.length : Int) then (wharfingerlaw11_AclVerb.j0 k l0 a2 a3 a4 t216 true a1_0 a1_1 a1_2) else (if a1_1.toList = ([] : List UInt8) then (wharfingerlaw11_AclVerb.j0 k l0 a2 a3 a4 t216 true a1_0 a1_1 a1_2) else (wharfingerlaw11_AclVerb.j0 k l0 a2 a3 a4 t216 (a1_1.toList == a3.toList) a1_0 a1_1 a1_2)))))))) else (wharfingerlaw11_AclVerb.j0 k l0 a2 a3 a4 t216 true a1_0 a1_1 a1_2)) else (wharfingerlaw11_AclVerb.j0 k l0 a2 a3 a4 t216 true a1_0 a1_1 a1_2))) = some r := H
  have A6 := Aside0.mk A60
  clear A60
  replace H := Option.bind_eq_some_iff.mp H
  obtain ⟨t217, A70, H⟩ := H
  replace H : (if t216 = true then (if t217 = true then (if (a1_1.size : Int) > 300 then (wharfingerlaw11_AclVerb.j0 k l0 a2 a3 a4 t216 true a1_0 a1_1 a1_2) else (if (a1_2.size : Int) > 300 then (wharfingerlaw11_AclVerb.j0 k l0 a2 a3 a4 t216 true a1_0 a1_1 a1_2) else (if (a3.size : Int) > 300 then (wharfingerlaw11_AclVerb.j0 k l0 a2 a3 a4 t216 true a1_0 a1_1 a1_2) else (if (a4.size : Int) > 300 then (wharfingerlaw11_AclVerb.j0 k l0 a2 a3 a4 t216 true a1_0 a1_1 a1_2) else (if a2 < 0 then (wharfingerlaw11_AclVerb.j0 k l0 a2 a3 a4 t216 true a1_0 a1_1 a1_2) else (if a2 > (l0.length : Int) then (wharfingerlaw11_AclVerb.j0 k l0 a2 a3 a4 t216 true a1_0 a1_1 a1_2) else (if a1_1.toList = ([] : List UInt8) then (wharfingerlaw11_AclVerb.j0 k l0 a2 a3 a4 t216 true a1_0 a1_1 a1_2) else (wharfingerlaw11_AclVerb.j0 k l0 a2 a3 a4 t216 (a1_1.toList == a3.toList) a1_0 a1_1 a1_2)))))))) else (wharfingerlaw11_AclVerb.j0 k l0 a2 a3 a4 t216 true a1_0 a1_1 a1_2)) else (wharfingerlaw11_AclVerb.j0 k l0 a2 a3 a4 t216 true a1_0 a1_1 a1_2)) = some r := H
  have A7 := Aside0.mk A70
  clear A70
  have HC8 := Aside0.mk H
  clear H
  go_enter Tryd.func6, Tryd.ntmps6
  go_upto_region 3 with (first | ((with_reducible refine gate_dst (N := 6) rfl ?_); (try (refine gate_guard (by rfl) ?_; dsimp only)); refine box_event ?hg (N := 6) ?hd (cs := #[.bool a1_0, .string a1_1, .string a1_2]) (t := 28) ?hr ?_; (case hd => rfl); (case hg => rfl); (case hr => first | (go_simp; done) | (go_simp; rfl)); intro gb215 hg w9 hbox hb; have n0_ := Aside0.mk (below_step (by repeat (first | (with_reducible first | exact HB.out | apply below_alloc | apply pw_below_drewN | apply below_drew1) | exact HB.out)) hb); have n1_ := Aside0.mk (hbox); have n2_ := Aside0.mk ((by rw [hg]; exact (below_size (by repeat (first | (with_reducible first | exact HB.out | apply below_alloc | apply pw_below_drewN | apply below_drew1) | exact HB.out))) : w.heap.size ≤ gb215)); have n3_ := Aside0.mk ((by rw [hg]; exact (below_size (by repeat (first | (with_reducible first | exact HB.out | apply below_alloc | apply pw_below_drewN | apply below_drew1) | exact HB.out))) : w.heap.size ≤ gb215)); clear HB; have HB := n0_; have BK215 := n1_; have GW215 := n2_; have GE215 := n3_; clear n0_ n1_ n2_ n3_; clear hb hbox hg) | ((with_reducible refine gate_callee (f := 7) rfl ?_); refine goesL_ (some 16) rfl rfl Tryd.func7 (by kernel_rfl) rfl #[] rfl (by (try simp only [List.map_toArray, List.map_cons, List.map_nil]); first | done | rfl | (simp only [List.length_drop, List.length_take]; rfl)) ?_; (with_reducible refine (wharfingerlaw11_awake.calls k  t216 _ ?side1 A6.out).mono ?_); (case side1 => exact HMET.out.below (by repeat (first | (with_reducible first | exact HB.out | apply below_alloc | apply pw_below_drewN | apply below_drew1 | refine below_set ?_ GE215.out) | exact HB.out))); rintro e w10 ⟨rfl, hb⟩; refine ⟨_, rfl, ?_⟩; have n0_ := Aside0.mk (blk_below (g := gb215) (o := .cells #[.bool a1_0, .string a1_1, .string a1_2] 28 (0, 0)) (by (with_reducible repeat (first | refine blk_drewN ?_ _ | refine blk_drew ?_ | refine blk_alloc ?_ _)); exact BK215.out) hb); have n1_ := Aside0.mk (below_step (by repeat (first | (with_reducible first | exact HB.out | apply below_alloc | apply pw_below_drewN | apply below_drew1 | refine below_set ?_ GE215.out) | exact HB.out)) hb); clear BK215; clear HB; have BK215 := n0_; have HB := n1_; clear n0_ n1_; (try clear hb); (try clear hb2); (try clear hk); (try clear hi)) | ((with_reducible refine gate_callee (f := 8) rfl ?_); refine goesL_ (some 18) rfl rfl Tryd.func8 (by kernel_rfl) rfl #[.slice A0 l0.length c0] rfl (by (try simp only [List.map_toArray, List.map_cons, List.map_nil]); first | done | rfl | (simp only [List.length_drop, List.length_take]; rfl)) ?_; (with_reducible refine (wharfingerlaw11_Few.calls k _ _ l0 t217 _ ?side1 ?side2 A7.out).mono ?_); (case side1 => repeat (first | exact (Kd.C_below HR0.out HB.out) | (with_reducible refine Kd.C_alloc ?_ _) | (with_reducible refine Kd.C_drewN ?_ _) | (with_reducible refine Kd.C_drew ?_))); (case side2 => exact HC0.out); rintro e w' ⟨rfl, ⟨nd, rfl⟩⟩; refine ⟨_, rfl, ?_⟩))
  (try simp only [Act.put, List.setIfInBounds_toArray, List.set_cons_zero, List.set_cons_succ])
  go_cut [67] (fun v67 wc => ∃ (kq : Nat) (x67_7 : Bool), v67 = .bool x67_7 ∧ Aside0 (wharfingerlaw11_AclVerb.j0 kq l0 a2 a3 a4 t216 x67_7 a1_0 a1_1 a1_2 = some r) ∧ Aside0 (kq ≤ k) ∧ Aside0 (wc.heap[gb215]? = some (.cells #[.bool a1_0, .string a1_1, .string a1_2] 28 (0, 0))) ∧ Aside0 (Below w.heap.size w wc))
  case first =>
    have H := HC8.out
    clear HC8
    by_cases c11 : t216 = true
    · subst c11
      have H1 : (if t217 = true then (if (a1_1.size : Int) > 300 then (wharfingerlaw11_AclVerb.j0 k l0 a2 a3 a4 true true a1_0 a1_1 a1_2) else (if (a1_2.size : Int) > 300 then (wharfingerlaw11_AclVerb.j0 k l0 a2 a3 a4 true true a1_0 a1_1 a1_2) else (if (a3.size : Int) > 300 then (wharfingerlaw11_AclVerb.j0 k l0 a2 a3 a4 true true a1_0 a1_1 a1_2) else (if (a4.size : Int) > 300 then (wharfingerlaw11_AclVerb.j0 k l0 a2 a3 a4 true true a1_0 a1_1 a1_2) else (if a2 < 0 then (wharfingerlaw11_AclVerb.j0 k l0 a2 a3 a4 true true a1_0 a1_1 a1_2) else (if a2 > (l0.length : Int) then (wharfingerlaw11_AclVerb.j0 k l0 a2 a3 a4 true true a1_0 a1_1 a1_2) else (if a1_1.toList = ([] : List UInt8) then (wharfingerlaw11_AclVerb.j0 k l0 a2 a3 a4 true true a1_0 a1_1 a1_2) else (wharfingerlaw11_AclVerb.j0 k l0 a2 a3 a4 true (a1_1.toList == a3.toList) a1_0 a1_1 a1_2)))))))) else (wharfingerlaw11_AclVerb.j0 k l0 a2 a3 a4 true true a1_0 a1_1 a1_2)) = some r := by rw [if_pos rfl] at H; exact H
      clear H
      have H := H1
      clear H1
      by_cases c12 : t217 = true
      · subst c12
        have H1 : (if (a1_1.size : Int) > 300 then (wharfingerlaw11_AclVerb.j0 k l0 a2 a3 a4 true true a1_0 a1_1 a1_2) else (if (a1_2.size : Int) > 300 then (wharfingerlaw11_AclVerb.j0 k l0 a2 a3 a4 true true a1_0 a1_1 a1_2) else (if (a3.size : Int) > 300 then (wharfingerlaw11_AclVerb.j0 k l0 a2 a3 a4 true true a1_0 a1_1 a1_2) else (if (a4.size : Int) > 300 then (wharfingerlaw11_AclVerb.j0 k l0 a2 a3 a4 true true a1_0 a1_1 a1_2) else (if a2 < 0 then (wharfingerlaw11_AclVerb.j0 k l0 a2 a3 a4 true true a1_0 a1_1 a1_2) else (if a2 > (l0.length : Int) then (wharfingerlaw11_AclVerb.j0 k l0 a2 a3 a4 true true a1_0 a1_1 a1_2) else (if a1_1.toList = ([] : List UInt8) then (wharfingerlaw11_AclVerb.j0 k l0 a2 a3 a4 true true a1_0 a1_1 a1_2) else (wharfingerlaw11_AclVerb.j0 k l0 a2 a3 a4 true (a1_1.toList == a3.toList) a1_0 a1_1 a1_2)))))))) = some r := by rw [if_pos rfl] at H; exact H
        clear H
        have H := H1
        clear H1
        by_cases c13 : (a1_1.size : Int) > 300
        · rw [if_pos c13] at H
          have c13b0 : decide (300 < (a1_1.size : Int)) = true := decide_eq_true c13
          have c13b1 : decide (300 < a1_1.size) = true := decide_eq_true (by omega)
          clear c13
          (first | rw [c13b0] | (simp only [i64_w, i32_w]; rw [c13b0]) | skip)
          have H' := Aside0.mk H
          clear H
          have hcz14_0 : w10.cell? ⟨gb215, 0, none⟩ = some (.bool a1_0) := (blk_cell BK215.out 0).trans rfl
          have hcz14_1 : w10.cell? ⟨gb215, 1, none⟩ = some (.string a1_1) := (blk_cell BK215.out 1).trans rfl
          have hcz14_2 : w10.cell? ⟨gb215, 2, none⟩ = some (.string a1_2) := (blk_cell BK215.out 2).trans rfl
          have hfz14_0 := blk_frozen BK215.out 0
          have hfz14_1 := blk_frozen BK215.out 1
          have hfz14_2 := blk_frozen BK215.out 2
          go_wp2
          go_meet
          case rel => exact ⟨_, (true), (by first | rfl | (simp; done) | (simp [*]; done)), H', ⟨by first | omega | exact Nat.le_refl _⟩, ⟨by (with_reducible repeat (first | refine blk_drewN ?_ _ | refine blk_drew ?_ | refine blk_alloc ?_ _)); exact BK215.out⟩, ⟨by repeat (first | (with_reducible first | exact HB.out | apply below_alloc | apply pw_below_drewN | apply below_drew1 | refine below_set ?_ GE215.out) | exact HB.out)⟩⟩
        · rw [if_neg c13] at H
          have c13b0 : decide (300 < (a1_1.size : Int)) = false := decide_eq_false c13
          have c13b1 : decide (300 < a1_1.size) = false := decide_eq_false (by omega)
          clear c13
          (first | rw [c13b0] | (simp only [i64_w, i32_w]; rw [c13b0]) | skip)
          by_cases c15 : (a1_2.size : Int) > 300
          · rw [if_pos c15] at H
            have c15b0 : decide (300 < (a1_2.size : Int)) = true := decide_eq_true c15
            have c15b1 : decide (300 < a1_2.size) = true := decide_eq_true (by omega)
            clear c15
            have H' := Aside0.mk H
            clear H
            have hcz16_0 : w10.cell? ⟨gb215, 0, none⟩ = some (.bool a1_0) := (blk_cell BK215.out 0).trans rfl
            have hcz16_1 : w10.cell? ⟨gb215, 1, none⟩ = some (.string a1_1) := (blk_cell BK215.out 1).trans rfl
            have hcz16_2 : w10.cell? ⟨gb215, 2, none⟩ = some (.string a1_2) := (blk_cell BK215.out 2).trans rfl
            have hfz16_0 := blk_frozen BK215.out 0
            have hfz16_1 := blk_frozen BK215.out 1
            have hfz16_2 := blk_frozen BK215.out 2
            go_wp2
            go_meet
            case rel => exact ⟨_, (true), (by first | rfl | (simp; done) | (simp [*]; done)), H', ⟨by first | omega | exact Nat.le_refl _⟩, ⟨by (with_reducible repeat (first | refine blk_drewN ?_ _ | refine blk_drew ?_ | refine blk_alloc ?_ _)); exact BK215.out⟩, ⟨by repeat (first | (with_reducible first | exact HB.out | apply below_alloc | apply pw_below_drewN | apply below_drew1 | refine below_set ?_ GE215.out) | exact HB.out)⟩⟩
          · rw [if_neg c15] at H
            have c15b0 : decide (300 < (a1_2.size : Int)) = false := decide_eq_false c15
            have c15b1 : decide (300 < a1_2.size) = false := decide_eq_false (by omega)
            clear c15
            by_cases c17 : (a3.size : Int) > 300
            · rw [if_pos c17] at H
              have c17b0 : decide (300 < (a3.size : Int)) = true := decide_eq_true c17
              have c17b1 : decide (300 < a3.size) = true := decide_eq_true (by omega)
              clear c17
              have H' := Aside0.mk H
              clear H
              have hcz18_0 : w10.cell? ⟨gb215, 0, none⟩ = some (.bool a1_0) := (blk_cell BK215.out 0).trans rfl
              have hcz18_1 : w10.cell? ⟨gb215, 1, none⟩ = some (.string a1_1) := (blk_cell BK215.out 1).trans rfl
              have hcz18_2 : w10.cell? ⟨gb215, 2, none⟩ = some (.string a1_2) := (blk_cell BK215.out 2).trans rfl
              have hfz18_0 := blk_frozen BK215.out 0
              have hfz18_1 := blk_frozen BK215.out 1
              have hfz18_2 := blk_frozen BK215.out 2
              go_wp2
              go_meet
              case rel => exact ⟨_, (true), (by first | rfl | (simp; done) | (simp [*]; done)), H', ⟨by first | omega | exact Nat.le_refl _⟩, ⟨by (with_reducible repeat (first | refine blk_drewN ?_ _ | refine blk_drew ?_ | refine blk_alloc ?_ _)); exact BK215.out⟩, ⟨by repeat (first | (with_reducible first | exact HB.out | apply below_alloc | apply pw_below_drewN | apply below_drew1 | refine below_set ?_ GE215.out) | exact HB.out)⟩⟩
            · rw [if_neg c17] at H
              have c17b0 : decide (300 < (a3.size : Int)) = false := decide_eq_false c17
              have c17b1 : decide (300 < a3.size) = false := decide_eq_false (by omega)
              clear c17
              by_cases c19 : (a4.size : Int) > 300
              · rw [if_pos c19] at H
                have c19b0 : decide (300 < (a4.size : Int)) = true := decide_eq_true c19
                have c19b1 : decide (300 < a4.size) = true := decide_eq_true (by omega)
                clear c19
                have H' := Aside0.mk H
                clear H
                have hcz20_0 : w10.cell? ⟨gb215, 0, none⟩ = some (.bool a1_0) := (blk_cell BK215.out 0).trans rfl
                have hcz20_1 : w10.cell? ⟨gb215, 1, none⟩ = some (.string a1_1) := (blk_cell BK215.out 1).trans rfl
                have hcz20_2 : w10.cell? ⟨gb215, 2, none⟩ = some (.string a1_2) := (blk_cell BK215.out 2).trans rfl
                have hfz20_0 := blk_frozen BK215.out 0
                have hfz20_1 := blk_frozen BK215.out 1
                have hfz20_2 := blk_frozen BK215.out 2
                go_wp2
                go_meet
                case rel => exact ⟨_, (true), (by first | rfl | (simp; done) | (simp [*]; done)), H', ⟨by first | omega | exact Nat.le_refl _⟩, ⟨by (with_reducible repeat (first | refine blk_drewN ?_ _ | refine blk_drew ?_ | refine blk_alloc ?_ _)); exact BK215.out⟩, ⟨by repeat (first | (with_reducible first | exact HB.out | apply below_alloc | apply pw_below_drewN | apply below_drew1 | refine below_set ?_ GE215.out) | exact HB.out)⟩⟩
              · rw [if_neg c19] at H
                have c19b0 : decide (300 < (a4.size : Int)) = false := decide_eq_false c19
                have c19b1 : decide (300 < a4.size) = false := decide_eq_false (by omega)
                clear c19
                by_cases c21 : a2 < 0
                · rw [if_pos c21] at H
                  have c21b0 : decide (a2 < 0) = true := decide_eq_true c21
                  clear c21
                  have H' := Aside0.mk H
                  clear H
                  have hcz22_0 : w10.cell? ⟨gb215, 0, none⟩ = some (.bool a1_0) := (blk_cell BK215.out 0).trans rfl
                  have hcz22_1 : w10.cell? ⟨gb215, 1, none⟩ = some (.string a1_1) := (blk_cell BK215.out 1).trans rfl
                  have hcz22_2 : w10.cell? ⟨gb215, 2, none⟩ = some (.string a1_2) := (blk_cell BK215.out 2).trans rfl
                  have hfz22_0 := blk_frozen BK215.out 0
                  have hfz22_1 := blk_frozen BK215.out 1
                  have hfz22_2 := blk_frozen BK215.out 2
                  go_wp2
                  go_meet
                  case rel => exact ⟨_, (true), (by first | rfl | (simp; done) | (simp [*]; done)), H', ⟨by first | omega | exact Nat.le_refl _⟩, ⟨by (with_reducible repeat (first | refine blk_drewN ?_ _ | refine blk_drew ?_ | refine blk_alloc ?_ _)); exact BK215.out⟩, ⟨by repeat (first | (with_reducible first | exact HB.out | apply below_alloc | apply pw_below_drewN | apply below_drew1 | refine below_set ?_ GE215.out) | exact HB.out)⟩⟩
                · rw [if_neg c21] at H
                  have c21b0 : decide (a2 < 0) = false := decide_eq_false c21
                  clear c21
                  by_cases c23 : a2 > (l0.length : Int)
                  · rw [if_pos c23] at H
                    have c23b0 : decide ((l0.length : Int) < a2) = true := decide_eq_true c23
                    clear c23
                    have H' := Aside0.mk H
                    clear H
                    have hcz24_0 : w10.cell? ⟨gb215, 0, none⟩ = some (.bool a1_0) := (blk_cell BK215.out 0).trans rfl
                    have hcz24_1 : w10.cell? ⟨gb215, 1, none⟩ = some (.string a1_1) := (blk_cell BK215.out 1).trans rfl
                    have hcz24_2 : w10.cell? ⟨gb215, 2, none⟩ = some (.string a1_2) := (blk_cell BK215.out 2).trans rfl
                    have hfz24_0 := blk_frozen BK215.out 0
                    have hfz24_1 := blk_frozen BK215.out 1
                    have hfz24_2 := blk_frozen BK215.out 2
                    go_wp2
                    go_meet
                    case rel => exact ⟨_, (true), (by first | rfl | (simp; done) | (simp [*]; done)), H', ⟨by first | omega | exact Nat.le_refl _⟩, ⟨by (with_reducible repeat (first | refine blk_drewN ?_ _ | refine blk_drew ?_ | refine blk_alloc ?_ _)); exact BK215.out⟩, ⟨by repeat (first | (with_reducible first | exact HB.out | apply below_alloc | apply pw_below_drewN | apply below_drew1 | refine below_set ?_ GE215.out) | exact HB.out)⟩⟩
                  · rw [if_neg c23] at H
                    have c23b0 : decide ((l0.length : Int) < a2) = false := decide_eq_false c23
                    clear c23
                    by_cases c25 : a1_1.toList = ([] : List UInt8)
                    · rw [if_pos c25] at H
                      have c25b0 : (a1_1.toList == ([] : List UInt8)) = true := beq_iff_eq.mpr c25
                      have c25b1 : (a1_1.toList != ([] : List UInt8)) = false := bne_eq_false_iff_eq.mpr c25
                      clear c25
                      have H' := Aside0.mk H
                      clear H
                      have hcz26_0 : w10.cell? ⟨gb215, 0, none⟩ = some (.bool a1_0) := (blk_cell BK215.out 0).trans rfl
                      have hcz26_1 : w10.cell? ⟨gb215, 1, none⟩ = some (.string a1_1) := (blk_cell BK215.out 1).trans rfl
                      have hcz26_2 : w10.cell? ⟨gb215, 2, none⟩ = some (.string a1_2) := (blk_cell BK215.out 2).trans rfl
                      have hfz26_0 := blk_frozen BK215.out 0
                      have hfz26_1 := blk_frozen BK215.out 1
                      have hfz26_2 := blk_frozen BK215.out 2
                      go_wp2
                      go_meet
                      case rel => exact ⟨_, (true), (by first | rfl | (simp; done) | (simp [*]; done)), H', ⟨by first | omega | exact Nat.le_refl _⟩, ⟨by (with_reducible repeat (first | refine blk_drewN ?_ _ | refine blk_drew ?_ | refine blk_alloc ?_ _)); exact BK215.out⟩, ⟨by repeat (first | (with_reducible first | exact HB.out | apply below_alloc | apply pw_below_drewN | apply below_drew1 | refine below_set ?_ GE215.out) | exact HB.out)⟩⟩
                    · rw [if_neg c25] at H
                      have c25b0 : (a1_1.toList == ([] : List UInt8)) = false := beq_eq_false_iff_ne.mpr c25
                      have c25b1 : (a1_1.toList != ([] : List UInt8)) = true := bne_iff_ne.mpr c25
                      have H' := Aside0.mk H
                      clear H
                      have hcz27_0 : w10.cell? ⟨gb215, 0, none⟩ = some (.bool a1_0) := (blk_cell BK215.out 0).trans rfl
                      have hcz27_1 : w10.cell? ⟨gb215, 1, none⟩ = some (.string a1_1) := (blk_cell BK215.out 1).trans rfl
                      have hcz27_2 : w10.cell? ⟨gb215, 2, none⟩ = some (.string a1_2) := (blk_cell BK215.out 2).trans rfl
                      have hfz27_0 := blk_frozen BK215.out 0
                      have hfz27_1 := blk_frozen BK215.out 1
                      have hfz27_2 := blk_frozen BK215.out 2
                      go_wp2
                      go_meet
                      case rel => exact ⟨_, ((a1_1.toList == a3.toList)), (by first | rfl | (simp; done) | (simp [*]; done)), H', ⟨by first | omega | exact Nat.le_refl _⟩, ⟨by (with_reducible repeat (first | refine blk_drewN ?_ _ | refine blk_drew ?_ | refine blk_alloc ?_ _)); exact BK215.out⟩, ⟨by repeat (first | (with_reducible first | exact HB.out | apply below_alloc | apply pw_below_drewN | apply below_drew1 | refine below_set ?_ GE215.out) | exact HB.out)⟩⟩
      · replace c12 := Bool.eq_false_iff.mpr c12
        subst c12
        have H1 : (wharfingerlaw11_AclVerb.j0 k l0 a2 a3 a4 true true a1_0 a1_1 a1_2) = some r := by rw [if_neg (show ¬ (false = true) by decide)] at H; exact H
        clear H
        have H := H1
        clear H1
        have H' := Aside0.mk H
        clear H
        go_wp2
        go_meet
        case rel => exact ⟨_, (true), (by first | rfl | (simp; done) | (simp [*]; done)), H', ⟨by first | omega | exact Nat.le_refl _⟩, ⟨by (with_reducible repeat (first | refine blk_drewN ?_ _ | refine blk_drew ?_ | refine blk_alloc ?_ _)); exact BK215.out⟩, ⟨by repeat (first | (with_reducible first | exact HB.out | apply below_alloc | apply pw_below_drewN | apply below_drew1 | refine below_set ?_ GE215.out) | exact HB.out)⟩⟩
    · replace c11 := Bool.eq_false_iff.mpr c11
      subst c11
      have H1 : (wharfingerlaw11_AclVerb.j0 k l0 a2 a3 a4 false true a1_0 a1_1 a1_2) = some r := by rw [if_neg (show ¬ (false = true) by decide)] at H; exact H
      clear H
      have H := H1
      clear H1
      have H' := Aside0.mk H
      clear H
      go_wp2
      go_meet
      case rel => exact ⟨_, (true), (by first | rfl | (simp; done) | (simp [*]; done)), H', ⟨by first | omega | exact Nat.le_refl _⟩, ⟨by (with_reducible repeat (first | refine blk_drewN ?_ _ | refine blk_drew ?_ | refine blk_alloc ?_ _)); exact BK215.out⟩, ⟨by repeat (first | (with_reducible first | exact HB.out | apply below_alloc | apply pw_below_drewN | apply below_drew1 | refine below_set ?_ GE215.out) | exact HB.out)⟩⟩
  case rest =>
    clear HC8
    try clear c1
    try clear c2
    try clear p2
    try clear c6
    try clear c7
    try clear c8
    try clear c11
    try clear c12
    try clear c13
    try clear c13b0
    try clear c13b1
    try clear c15
    try clear c15b0
    try clear c15b1
    try clear c17
    try clear c17b0
    try clear c17b1
    try clear c19
    try clear c19b0
    try clear c19b1
    try clear c21
    try clear c21b0
    try clear c23
    try clear c23b0
    try clear c25
    try clear c25b0
    try clear c25b1
    try clear hcz14_0
    try clear hcz14_1
    try clear hcz14_2
    try clear hcz16_0
    try clear hcz16_1
    try clear hcz16_2
    try clear hcz18_0
    try clear hcz18_1
    try clear hcz18_2
    try clear hcz20_0
    try clear hcz20_1
    try clear hcz20_2
    try clear hcz22_0
    try clear hcz22_1
    try clear hcz22_2
    try clear hcz24_0
    try clear hcz24_1
    try clear hcz24_2
    try clear hcz26_0
    try clear hcz26_1
    try clear hcz26_2
    try clear hcz27_0
    try clear hcz27_1
    try clear hcz27_2
    try clear hfz14_0
    try clear hfz14_1
    try clear hfz14_2
    try clear hfz16_0
    try clear hfz16_1
    try clear hfz16_2
    try clear hfz18_0
    try clear hfz18_1
    try clear hfz18_2
    try clear hfz20_0
    try clear hfz20_1
    try clear hfz20_2
    try clear hfz22_0
    try clear hfz22_1
    try clear hfz22_2
    try clear hfz24_0
    try clear hfz24_1
    try clear hfz24_2
    try clear hfz26_0
    try clear hfz26_1
    try clear hfz26_2
    try clear hfz27_0
    try clear hfz27_1
    try clear hfz27_2
    obtain ⟨kq, x67_7, rfl, HA, HJ7, BK215, HB⟩ := hcut
    cases kq with
    | zero => exact absurd HA.out (by simp [wharfingerlaw11_AclVerb.j0])
    | succ kj7 =>
      have H := HA.out
      clear HA
      simp only [wharfingerlaw11_AclVerb.j0] at H
      by_cases c28 : x67_7 = true
      · subst c28
        have H1 : (some t216) = some r := by rw [if_pos rfl] at H; exact H
        clear H
        have H := H1
        clear H1
        obtain rfl := Option.some.inj H
        go_wp2
        go_ret
        exact ⟨by first | rfl | (simp [errW_none, errW_some] <;> rfl) | (simp [*, errW_none, errW_some] <;> rfl), by repeat (first | (with_reducible first | exact HB.out | apply below_alloc | apply pw_below_drewN | apply below_drew1 | refine below_set ?_ GE215.out) | exact HB.out)⟩
      · replace c28 := Bool.eq_false_iff.mpr c28
        subst c28
        have H1 : (if 0 ≤ a2 then (if a2 ≤ (l0.length : Int) then ((some (l0.take (a2 : Int).toNat : List (S28))).bind fun y218 => (if ([] : List (S28)).length + y218.length < 3518437208883 then ((some (([] : List (S28)) ++ y218 : List (S28))).bind fun y222 => ((some (([(⟨a1_0, a1_1, a1_2⟩ : S28)] : List (S28)) : List (S28))).bind fun y225 => (if y222.length + y225.length < 3518437208883 then ((some (y222 ++ y225 : List (S28))).bind fun y228 => ((some (l0.drop (a2 : Int).toNat : List (S28))).bind fun y231 => (if y228.length + y231.length < 3518437208883 then ((some (y228 ++ y231 : List (S28))).bind fun y235 => ((acl_Which.f l0 a3 a4).bind fun t238 => ((acl_Which.f y235 a3 a4).bind fun t239 => (if t238 ≥ a2 then (if t239 = (wrap64 (t238 + 1)) then ((acl_Allowed.f y235 a3 a4).bind fun t240 => ((acl_Allowed.f l0 a3 a4).bind fun t241 => (some (t240 == t241)))) else (some false)) else (if t239 = t238 then ((acl_Allowed.f y235 a3 a4).bind fun t242 => ((acl_Allowed.f l0 a3 a4).bind fun t243 => (some (t242 == t243)))) else (some false)))))) else (none)))) else (none)))) else (none))) else (none)) else (none)) = some r := by rw [if_neg (show ¬ (false = true) by decide)] at H; exact H
        clear H
        have H := H1
        clear H1
        by_cases c29 : 0 ≤ a2
        · rw [if_pos c29] at H
          have c29b0 := eq_true c29
          have c29b1 : decide (0 ≤ a2) = true := decide_eq_true c29
          clear c29
          by_cases c30 : a2 ≤ (l0.length : Int)
          · rw [if_pos c30] at H
            have c30b0 := eq_true c30
            have c30b1 : decide (a2 ≤ (l0.length : Int)) = true := decide_eq_true c30
            clear c30
            obtain ⟨y218, hy218⟩ : ∃ y_ : List (S28), y_ = (l0.take (a2 : Int).toNat) := ⟨_, rfl⟩
            replace H : (if ([] : List (S28)).length + y218.length < 3518437208883 then ((some (([] : List (S28)) ++ y218 : List (S28))).bind fun y222 => ((some (([(⟨a1_0, a1_1, a1_2⟩ : S28)] : List (S28)) : List (S28))).bind fun y225 => (if y222.length + y225.length < 3518437208883 then ((some (y222 ++ y225 : List (S28))).bind fun y228 => ((some (l0.drop (a2 : Int).toNat : List (S28))).bind fun y231 => (if y228.length + y231.length < 3518437208883 then ((some (y228 ++ y231 : List (S28))).bind fun y235 => ((acl_Which.f l0 a3 a4).bind fun t238 => ((acl_Which.f y235 a3 a4).bind fun t239 => (if t238 ≥ a2 then (if t239 = (wrap64 (t238 + 1)) then ((acl_Allowed.f y235 a3 a4).bind fun t240 => ((acl_Allowed.f l0 a3 a4).bind fun t241 => (some (t240 == t241)))) else (some false)) else (if t239 = t238 then ((acl_Allowed.f y235 a3 a4).bind fun t242 => ((acl_Allowed.f l0 a3 a4).bind fun t243 => (some (t242 == t243)))) else (some false)))))) else (none)))) else (none)))) else (none)) = some r := by first | (rw [hy218]; with_reducible exact H) | (have H2_ := (Option.bind_some _ _).symm.trans H; rw [hy218]; with_reducible exact H2_) | (have H2_ := (Option.bind_some _ _).symm.trans H; with_reducible exact H2_) | with_reducible exact H | (rw [hy218]; exact H) | exact H
            have Ny218 := Aside0.mk hy218
            clear hy218
            by_cases c31 : ([] : List (S28)).length + y218.length < 3518437208883
            · rw [if_pos c31] at H
              have LMc31 := Aside0.mk c31
              clear c31
              obtain ⟨y222, hy222⟩ : ∃ y_ : List (S28), y_ = (([] : List (S28)) ++ y218) := ⟨_, rfl⟩
              replace H : ((some (([(⟨a1_0, a1_1, a1_2⟩ : S28)] : List (S28)) : List (S28))).bind fun y225 => (if y222.length + y225.length < 3518437208883 then ((some (y222 ++ y225 : List (S28))).bind fun y228 => ((some (l0.drop (a2 : Int).toNat : List (S28))).bind fun y231 => (if y228.length + y231.length < 3518437208883 then ((some (y228 ++ y231 : List (S28))).bind fun y235 => ((acl_Which.f l0 a3 a4).bind fun t238 => ((acl_Which.f y235 a3 a4).bind fun t239 => (if t238 ≥ a2 then (if t239 = (wrap64 (t238 + 1)) then ((acl_Allowed.f y235 a3 a4).bind fun t240 => ((acl_Allowed.f l0 a3 a4).bind fun t241 => (some (t240 == t241)))) else (some false)) else (if t239 = t238 then ((acl_Allowed.f y235 a3 a4).bind fun t242 => ((acl_Allowed.f l0 a3 a4).bind fun t243 => (some (t242 == t243)))) else (some false)))))) else (none)))) else (none))) = some r := by first | (rw [hy222]; with_reducible exact H) | (have H2_ := (Option.bind_some _ _).symm.trans H; rw [hy222]; with_reducible exact H2_) | (have H2_ := (Option.bind_some _ _).symm.trans H; with_reducible exact H2_) | with_reducible exact H | (rw [hy222]; exact H) | exact H
              have Ny222 := Aside0.mk hy222
              clear hy222
              obtain ⟨y225, hy225⟩ : ∃ y_ : List (S28), y_ = (([(⟨a1_0, a1_1, a1_2⟩ : S28)] : List (S28))) := ⟨_, rfl⟩
              replace H : (if y222.length + y225.length < 3518437208883 then ((some (y222 ++ y225 : List (S28))).bind fun y228 => ((some (l0.drop (a2 : Int).toNat : List (S28))).bind fun y231 => (if y228.length + y231.length < 3518437208883 then ((some (y228 ++ y231 : List (S28))).bind fun y235 => ((acl_Which.f l0 a3 a4).bind fun t238 => ((acl_Which.f y235 a3 a4).bind fun t239 => (if t238 ≥ a2 then (if t239 = (wrap64 (t238 + 1)) then ((acl_Allowed.f y235 a3 a4).bind fun t240 => ((acl_Allowed.f l0 a3 a4).bind fun t241 => (some (t240 == t241)))) else (some false)) else (if t239 = t238 then ((acl_Allowed.f y235 a3 a4).bind fun t242 => ((acl_Allowed.f l0 a3 a4).bind fun t243 => (some (t242 == t243)))) else (some false)))))) else (none)))) else (none)) = some r := by first | (rw [hy225]; with_reducible exact H) | (have H2_ := (Option.bind_some _ _).symm.trans H; rw [hy225]; with_reducible exact H2_) | (have H2_ := (Option.bind_some _ _).symm.trans H; with_reducible exact H2_) | with_reducible exact H | (rw [hy225]; exact H) | exact H
              have Ny225 := Aside0.mk hy225
              clear hy225
              by_cases c32 : y222.length + y225.length < 3518437208883
              · rw [if_pos c32] at H
                have LMc32 := Aside0.mk c32
                clear c32
                obtain ⟨y228, hy228⟩ : ∃ y_ : List (S28), y_ = (y222 ++ y225) := ⟨_, rfl⟩
                replace H : ((some (l0.drop (a2 : Int).toNat : List (S28))).bind fun y231 => (if y228.length + y231.length < 3518437208883 then ((some (y228 ++ y231 : List (S28))).bind fun y235 => ((acl_Which.f l0 a3 a4).bind fun t238 => ((acl_Which.f y235 a3 a4).bind fun t239 => (if t238 ≥ a2 then (if t239 = (wrap64 (t238 + 1)) then ((acl_Allowed.f y235 a3 a4).bind fun t240 => ((acl_Allowed.f l0 a3 a4).bind fun t241 => (some (t240 == t241)))) else (some false)) else (if t239 = t238 then ((acl_Allowed.f y235 a3 a4).bind fun t242 => ((acl_Allowed.f l0 a3 a4).bind fun t243 => (some (t242 == t243)))) else (some false)))))) else (none))) = some r := by first | (rw [hy228]; with_reducible exact H) | (have H2_ := (Option.bind_some _ _).symm.trans H; rw [hy228]; with_reducible exact H2_) | (have H2_ := (Option.bind_some _ _).symm.trans H; with_reducible exact H2_) | with_reducible exact H | (rw [hy228]; exact H) | exact H
                have Ny228 := Aside0.mk hy228
                clear hy228
                have c33b0 := eq_true (of_decide_eq_true (by first | (with_reducible assumption) | assumption) : 0 ≤ a2)
                have c34b0 := eq_true (of_decide_eq_true (by first | (with_reducible assumption) | assumption) : a2 ≤ (l0.length : Int))
                obtain ⟨y231, hy231⟩ : ∃ y_ : List (S28), y_ = (l0.drop (a2 : Int).toNat) := ⟨_, rfl⟩
                replace H : (if y228.length + y231.length < 3518437208883 then ((some (y228 ++ y231 : List (S28))).bind fun y235 => ((acl_Which.f l0 a3 a4).bind fun t238 => ((acl_Which.f y235 a3 a4).bind fun t239 => (if t238 ≥ a2 then (if t239 = (wrap64 (t238 + 1)) then ((acl_Allowed.f y235 a3 a4).bind fun t240 => ((acl_Allowed.f l0 a3 a4).bind fun t241 => (some (t240 == t241)))) else (some false)) else (if t239 = t238 then ((acl_Allowed.f y235 a3 a4).bind fun t242 => ((acl_Allowed.f l0 a3 a4).bind fun t243 => (some (t242 == t243)))) else (some false)))))) else (none)) = some r := by first | (rw [hy231]; with_reducible exact H) | (have H2_ := (Option.bind_some _ _).symm.trans H; rw [hy231]; with_reducible exact H2_) | (have H2_ := (Option.bind_some _ _).symm.trans H; with_reducible exact H2_) | with_reducible exact H | (rw [hy231]; exact H) | exact H
                have Ny231 := Aside0.mk hy231
                clear hy231
                by_cases c35 : y228.length + y231.length < 3518437208883
                · rw [if_pos c35] at H
                  have LMc35 := Aside0.mk c35
                  clear c35
                  obtain ⟨y235, hy235⟩ : ∃ y_ : List (S28), y_ = (y228 ++ y231) := ⟨_, rfl⟩
                  replace H : ((acl_Which.f l0 a3 a4).bind fun t238 => ((acl_Which.f y235 a3 a4).bind fun t239 => (if t238 ≥ a2 then (if t239 = (wrap64 (t238 + 1)) then ((acl_Allowed.f y235 a3 a4).bind fun t240 => ((acl_Allowed.f l0 a3 a4).bind fun t241 => (some (t240 == t241)))) else (some false)) else (if t239 = t238 then ((acl_Allowed.f y235 a3 a4).bind fun t242 => ((acl_Allowed.f l0 a3 a4).bind fun t243 => (some (t242 == t243)))) else (some false))))) = some r := by first | (rw [hy235]; with_reducible exact H) | (have H2_ := (Option.bind_some _ _).symm.trans H; rw [hy235]; with_reducible exact H2_) | (have H2_ := (Option.bind_some _ _).symm.trans H; with_reducible exact H2_) | with_reducible exact H | (rw [hy235]; exact H) | exact H
                  have Ny235 := Aside0.mk hy235
                  clear hy235
                  replace H := Option.bind_eq_some_iff.mp H
                  obtain ⟨t238, A360, H⟩ := H
                  replace H : ((acl_Which.f y235 a3 a4).bind fun t239 => (if t238 ≥ a2 then (if t239 = (wrap64 (t238 + 1)) then ((acl_Allowed.f y235 a3 a4).bind fun t240 => ((acl_Allowed.f l0 a3 a4).bind fun t241 => (some (t240 == t241)))) else (some false)) else (if t239 = t238 then ((acl_Allowed.f y235 a3 a4).bind fun t242 => ((acl_Allowed.f l0 a3 a4).bind fun t243 => (some (t242 == t243)))) else (some false)))) = some r := H
                  have A36 := Aside0.mk A360
                  clear A360
                  replace H := Option.bind_eq_some_iff.mp H
                  obtain ⟨t239, A370, H⟩ := H
                  replace H : (if t238 ≥ a2 then (if t239 = (wrap64 (t238 + 1)) then ((acl_Allowed.f y235 a3 a4).bind fun t240 => ((acl_Allowed.f l0 a3 a4).bind fun t241 => (some (t240 == t241)))) else (some false)) else (if t239 = t238 then ((acl_Allowed.f y235 a3 a4).bind fun t242 => ((acl_Allowed.f l0 a3 a4).bind fun t243 => (some (t242 == t243)))) else (some false))) = some r := H
                  have A37 := Aside0.mk A370
                  clear A370
                  by_cases c38 : t238 ≥ a2
                  · rw [if_pos c38] at H
                    have c38b0 : decide (a2 ≤ t238) = true := decide_eq_true c38
                    clear c38
                    by_cases c39 : t239 = (wrap64 (t238 + 1))
                    · rw [if_pos c39] at H
                      have c39b0 : (t239 == (wrap64 (t238 + 1))) = true := beq_iff_eq.mpr c39
                      have c39b1 : (t239 != (wrap64 (t238 + 1))) = false := bne_eq_false_iff_eq.mpr c39
                      clear c39
                      replace H := Option.bind_eq_some_iff.mp H
                      obtain ⟨t240, A400, H⟩ := H
                      replace H : ((acl_Allowed.f l0 a3 a4).bind fun t241 => (some (t240 == t241))) = some r := H
                      have A40 := Aside0.mk A400
                      clear A400
                      replace H := Option.bind_eq_some_iff.mp H
                      obtain ⟨t241, A410, H⟩ := H
                      replace H : (some (t240 == t241)) = some r := H
                      have A41 := Aside0.mk A410
                      clear A410
                      obtain rfl := Option.some.inj H
                      try go_wp2
                      have n0_ := Aside0.mk (blk_drew BK215.out)
                      have n1_ := Aside0.mk (below_drew1 HB.out)
                      clear BK215
                      clear HB
                      have BK215 := n0_
                      have HB := n1_
                      clear n0_ n1_
                      have q43 : (a2 : Int) ≤ ((l0.length : Int) : Int) := of_decide_eq_true (by first | (with_reducible assumption) | assumption)
                      obtain ⟨i043, hi043, _, hsz43, _⟩ := info_parts info28
                      have hroom43 : l0.length ≤ c0 := HC0.out
                      have hC43 : Kd.C k28 _ A0 l0.length l0 := HR0.out
                      have hcut43 := cut_to (P := Tryd.prog) 22 28 .i64 Tryd.underlying22 hi043 A0 l0.length c0 a2 (of_decide_eq_true (by first | (with_reducible assumption) | assumption)) q43 hroom43
                      have hr43 := Kd.C_take (m := (a2 : Int).toNat) hC43 (by omega)
                      have hy43 : y218.length = (a2 : Int).toNat := (by rw [Ny218.out, List.length_take]; omega)
                      rw [← Ny218.out] at hr43
                      rw [← hy43] at hcut43
                      have HR221 := Aside0.mk hr43
                      have HC221 := Aside0.mk (show y218.length ≤ c0 from by omega)
                      clear hr43 hC43 hroom43 hi043 hsz43
                      have KY43 := Aside0.mk hy43
                      clear hy43
                      replace q43 := eq_true q43
                      refine start_ (n := 8) (S := fun w' => w'.cell? ⟨gb215, 0, none⟩ = some (.bool a1_0) ∧ w'.cell? ⟨gb215, 1, none⟩ = some (.string a1_1) ∧ w'.cell? ⟨gb215, 2, none⟩ = some (.string a1_2)) (ds := []) #[false, false, false, false, false, false, false, false] (by kernel_rfl) rfl rfl ⟨(blk_cell BK215.out 0).trans rfl, (blk_cell BK215.out 1).trans rfl, (blk_cell BK215.out 2).trans rfl⟩ (fun hHeld => ?_); refine with_tabW wharfingerlaw11_AclVerb.tab5 wharfingerlaw11_AclVerb.bits5 (fun HT_ HW_ => ?_)
                      generalize wc.drew = w42 at BK215 HB HR221 hHeld ⊢
                      refine pure_ (i := 0) (N := some 69) (v := ?_) (a' := ?_) #[true, false, false, false, false, false, false, false] rfl rfl (any_of HT_.out (by kernel_rfl)) (fun _ _ _ h => h) (Or.inl ⟨by rfl, ?_⟩) ?_ ?_
                      rotate_left
                      · intro w'
                        go_simp
                        with_reducible rfl
                      rotate_left
                      · simp only [Act.put, List.setIfInBounds_toArray, List.set_cons_zero, List.set_cons_succ, i64_w, i32_w]
                        rfl
                      refine pure_ (i := 1) (N := some 70) (v := ?_) (a' := ?_) #[true, true, false, false, false, false, false, false] rfl rfl (any_of HT_.out (by kernel_rfl)) (fun _ _ _ h => h) (Or.inl ⟨by rfl, ?_⟩) ?_ ?_
                      rotate_left
                      · intro w'
                        go_simp
                        with_reducible rfl
                      rotate_left
                      · simp only [Act.put, List.setIfInBounds_toArray, List.set_cons_zero, List.set_cons_succ, i64_w, i32_w]
                        rfl
                      refine pure_ (i := 2) (N := some 71) (v := ?_) (a' := ?_) #[true, true, true, false, false, false, false, false] rfl rfl (any_of HT_.out (by kernel_rfl)) (fun _ _ _ h => h) (Or.inl ⟨by rfl, ?_⟩) ?_ ?_
                      rotate_left
                      · intro w'
                        go_simp
                        with_reducible rfl
                      rotate_left
                      · simp only [Act.put, List.setIfInBounds_toArray, List.set_cons_zero, List.set_cons_succ, i64_w, i32_w]
                        rfl
                      refine take_ (i := 4) (N := some 73) (v := ?_) (a' := ?_) #[true, true, true, false, true, false, false, false] rfl rfl (take_ofW HT_.out HW_.out (by kernel_rfl)) (fun _ _ _ h => h) (Or.inl ⟨by rfl, ?_⟩) hHeld ?_ ?_
                      rotate_left
                      · rintro w' ⟨s0, s1, s2⟩
                        go_simp
                        with_reducible rfl
                      rotate_left
                      · simp only [Act.put, List.setIfInBounds_toArray, List.set_cons_zero, List.set_cons_succ, i64_w, i32_w]
                        rfl
                      refine join_ (σ := Value × Value) 2 #[true, true, true, true, true, true, false, false] (fun s_ => [(72, s_.1), (74, s_.2)]) (fun s_ w' => (w'.cell? ⟨gb215, 0, none⟩ = some (.bool a1_0) ∧ w'.cell? ⟨gb215, 1, none⟩ = some (.string a1_1) ∧ w'.cell? ⟨gb215, 2, none⟩ = some (.string a1_2)) ∧ (Kd.R k28 28 w' w.heap.size (fun k_ => some k_ ≠ (s_.2 : Value).ownBlock ∧ k_ ≠ gb215) s_.1 y222) ∧ (Kd.R k28 28 w' w.heap.size (fun k_ => some k_ ≠ (s_.1 : Value).ownBlock ∧ k_ ≠ gb215) s_.2 y225) ∧ (w'.heap[gb215]? = some (.cells #[.bool a1_0, .string a1_1, .string a1_2] 28 (0, 0))) ∧ (Below w.heap.size w w')) ?_ ?_
                      rotate_left
                      · intro hCont
                        refine two_ (i := 3) (j := 5) (Ni := some 72) (Nj := some 74) #[true, true, true, true, true, false, false, false] #[true, true, true, false, true, true, false, false] rfl rfl rfl rfl (two_of HT_.out (by kernel_rfl)) (by decide) (by decide) (fun K hK => ?_) (fun K hK => ?_)
                        · skip
                          refine Kd.R_append_rows_step k28 (w0 := w) w.heap.size rfl (.const (.slice none 0 0)) (.tmp 71) 22 28 (.agg #[(.bool false), (.string ⟨#[]⟩), (.string ⟨#[]⟩)]) 40 rfl Tryd.underlying22 info28 rfl (by decide) (by omega) (.slice none 0 0) ([] : List (S28)) y218 _ _ _ (fun k_ => k_ ≠ gb215) (fun _ => False) rfl rfl ?aO ?aR (fun _ _ h => h) (fun _ h => h.elim) ?aF ?aB ?aS ?aL ?_
                          (case aR => repeat (first | exact (Kd.C_below HR221.out HB.out) | (with_reducible refine Kd.C_alloc ?_ _) | (with_reducible refine Kd.C_drewN ?_ _) | (with_reducible refine Kd.C_drew ?_)))
                          (case aB => exact (by repeat (first | (with_reducible first | exact HB.out | apply below_alloc | apply pw_below_drewN | apply below_drew1 | refine below_set ?_ GE215.out) | exact HB.out)))
                          (case aF => exact (fun k_ hk => Kd.freshB (g := gb215) (o := .cells #[.bool a1_0, .string a1_1, .string a1_2] 28 (0, 0)) (by (with_reducible repeat (first | refine blk_drewN ?_ _ | refine blk_drew ?_ | refine blk_alloc ?_ _)); exact BK215.out) k_ hk))
                          (case aO => exact ((Kd.R_nil _ _ _ _ (fun k_ => k_ ≠ gb215))))
                          (case aS => exact (below_size (by repeat (first | (with_reducible first | exact HB.out | apply below_alloc | apply pw_below_drewN | apply below_drew1 | refine below_set ?_ GE215.out) | exact HB.out))))
                          (case aL => have := LMc31.out; omega)
                          intro v223 w44 ho hb hg hat
                          rw [← Ny222.out] at ho
                          have n0_ := Aside0.mk (blk_grown (g := gb215) (o := .cells #[.bool a1_0, .string a1_1, .string a1_2] 28 (0, 0)) (by (with_reducible repeat (first | refine blk_drewN ?_ _ | refine blk_drew ?_ | refine blk_alloc ?_ _)); exact BK215.out) hg (by simp [Value.ownBlock]))
                          have n1_ := Aside0.mk (hb)
                          have n2_ := Aside0.mk (ho)
                          clear BK215
                          clear HB
                          have BK215 := n0_
                          have HB := n1_
                          have HO224 := n2_
                          clear n0_ n1_ n2_
                          clear ho hb hg hat
                          refine hK.out _ _ ⟨(blk_cell BK215.out 0).trans rfl, (blk_cell BK215.out 1).trans rfl, (blk_cell BK215.out 2).trans rfl⟩ (fun hHeld => ?_)
                          clear hK K
                          refine norm_ (a' := ?_) ?_ ?_
                          rotate_left
                          · show Act.put _ (some 72) _ = _
                            simp only [Act.put, List.setIfInBounds_toArray, List.set_cons_zero, List.set_cons_succ, i64_w, i32_w]
                            rfl
                          refine one_ (i := 5) (N := some 74) #[true, true, true, true, true, true, false, false] rfl rfl (one_of HT_.out (by kernel_rfl)) (by decide) (fun K hK => ?_)
                          refine Kd.R_lit_step k28 _ 28 ?hg (N := 74) ?hd (xs := ([(⟨a1_0, a1_1, a1_2⟩ : S28)] : List (S28))) (inner := [.bool a1_0, .string a1_1, .string a1_2]) (ok := fun _ => True) (okp := fun _ => True) ?hr ?hp (fun _ hk => hk) trivial (Below.refl _ _) (Nat.le_refl _) (by simp) ?_; (case hd => rfl); (case hg => rfl); (case hr => first | (go_simp; done) | (go_simp; rfl)); (case hp => exact (Reps.c3 (show Kd.M k28 _ _ _ (⟨a1_0, a1_1, a1_2⟩ : S28) [.bool a1_0, .string a1_1, .string a1_2] from (k28_mkM _ _ _ (⟨a1_0, a1_1, a1_2⟩ : S28) )) (Reps.none _ _)))
                          intro v226 w45 ho46 hb hg_ hnew_
                          clear hg_ hnew_
                          (first | rw [← Ny225.out] at ho46 | (simp only [Int.reduceToNat] at ho46; rw [← Ny225.out] at ho46))
                          have n0_ := Aside0.mk (Kd.R_elder' (by (with_reducible repeat (first | apply Kd.R_alloc | apply Kd.R_drewN | apply Kd.R_drew)); exact HO224.out) (Kd.R_base ho46) hb)
                          have n1_ := Aside0.mk (Kd.R_lower (Kd.R_newB (Kd.R_new' ho46 (Kd.R_lt (by (with_reducible repeat (first | apply Kd.R_alloc | apply Kd.R_drewN | apply Kd.R_drew)); exact HO224.out))) (g := gb215) (o := .cells #[.bool a1_0, .string a1_1, .string a1_2] 28 (0, 0)) (by (with_reducible repeat (first | refine blk_drewN ?_ _ | refine blk_drew ?_ | refine blk_alloc ?_ _)); exact BK215.out)) (below_size (by repeat (first | (with_reducible first | exact HB.out | apply below_alloc | apply pw_below_drewN | apply below_drew1 | refine below_set ?_ GE215.out) | exact HB.out))))
                          have n2_ := Aside0.mk (blk_below (g := gb215) (o := .cells #[.bool a1_0, .string a1_1, .string a1_2] 28 (0, 0)) (by (with_reducible repeat (first | refine blk_drewN ?_ _ | refine blk_drew ?_ | refine blk_alloc ?_ _)); exact BK215.out) hb)
                          have n3_ := Aside0.mk (below_step (by repeat (first | (with_reducible first | exact HB.out | apply below_alloc | apply pw_below_drewN | apply below_drew1 | refine below_set ?_ GE215.out) | exact HB.out)) hb)
                          clear HO224
                          clear BK215
                          clear HB
                          have HO224 := n0_
                          have HO227 := n1_
                          have BK215 := n2_
                          have HB := n3_
                          clear n0_ n1_ n2_ n3_
                          clear hb ho46
                          refine hK.out _ _ ⟨(blk_cell BK215.out 0).trans rfl, (blk_cell BK215.out 1).trans rfl, (blk_cell BK215.out 2).trans rfl⟩ (fun hHeld => ?_)
                          clear hK K
                          refine norm_ (a' := ?_) ?_ ?_
                          rotate_left
                          · show Act.put _ (some 74) _ = _
                            simp only [Act.put, List.setIfInBounds_toArray, List.set_cons_zero, List.set_cons_succ, i64_w, i32_w]
                            rfl
                          exact norm_ (by simp only [putAll, Act.put, List.setIfInBounds_toArray, List.set_cons_zero, List.set_cons_succ]) (hCont (v223, v226) _ ⟨hHeld, (by (with_reducible repeat (first | apply Kd.R_alloc | apply Kd.R_drewN | apply Kd.R_drew)); exact Kd.R_mono HO224.out (fun _ hk => ⟨hk.2, hk.1⟩)), (by (with_reducible repeat (first | apply Kd.R_alloc | apply Kd.R_drewN | apply Kd.R_drew)); exact Kd.R_mono HO227.out (fun _ hk => ⟨hk.1.2, hk.2⟩)), (by (with_reducible repeat (first | refine blk_drewN ?_ _ | refine blk_drew ?_ | refine blk_alloc ?_ _)); exact BK215.out), (by repeat (first | (with_reducible first | exact HB.out | apply below_alloc | apply pw_below_drewN | apply below_drew1 | refine below_set ?_ GE215.out) | exact HB.out))⟩)
                        · skip
                          refine Kd.R_lit_step k28 _ 28 ?hg (N := 74) ?hd (xs := ([(⟨a1_0, a1_1, a1_2⟩ : S28)] : List (S28))) (inner := [.bool a1_0, .string a1_1, .string a1_2]) (ok := fun _ => True) (okp := fun _ => True) ?hr ?hp (fun _ hk => hk) trivial (Below.refl _ _) (Nat.le_refl _) (by simp) ?_; (case hd => rfl); (case hg => rfl); (case hr => first | (go_simp; done) | (go_simp; rfl)); (case hp => exact (Reps.c3 (show Kd.M k28 _ _ _ (⟨a1_0, a1_1, a1_2⟩ : S28) [.bool a1_0, .string a1_1, .string a1_2] from (k28_mkM _ _ _ (⟨a1_0, a1_1, a1_2⟩ : S28) )) (Reps.none _ _)))
                          intro v226 w44 ho45 hb hg_ hnew_
                          clear hg_ hnew_
                          (first | rw [← Ny225.out] at ho45 | (simp only [Int.reduceToNat] at ho45; rw [← Ny225.out] at ho45))
                          have n0_ := Aside0.mk (Kd.R_lower (Kd.R_newB ho45 (g := gb215) (o := .cells #[.bool a1_0, .string a1_1, .string a1_2] 28 (0, 0)) (by (with_reducible repeat (first | refine blk_drewN ?_ _ | refine blk_drew ?_ | refine blk_alloc ?_ _)); exact BK215.out)) (below_size (by repeat (first | (with_reducible first | exact HB.out | apply below_alloc | apply pw_below_drewN | apply below_drew1 | refine below_set ?_ GE215.out) | exact HB.out))))
                          have n1_ := Aside0.mk (blk_below (g := gb215) (o := .cells #[.bool a1_0, .string a1_1, .string a1_2] 28 (0, 0)) (by (with_reducible repeat (first | refine blk_drewN ?_ _ | refine blk_drew ?_ | refine blk_alloc ?_ _)); exact BK215.out) hb)
                          have n2_ := Aside0.mk (below_step (by repeat (first | (with_reducible first | exact HB.out | apply below_alloc | apply pw_below_drewN | apply below_drew1 | refine below_set ?_ GE215.out) | exact HB.out)) hb)
                          clear BK215
                          clear HB
                          have HO227 := n0_
                          have BK215 := n1_
                          have HB := n2_
                          clear n0_ n1_ n2_
                          clear hb ho45
                          refine hK.out _ _ ⟨(blk_cell BK215.out 0).trans rfl, (blk_cell BK215.out 1).trans rfl, (blk_cell BK215.out 2).trans rfl⟩ (fun hHeld => ?_)
                          clear hK K
                          refine norm_ (a' := ?_) ?_ ?_
                          rotate_left
                          · show Act.put _ (some 74) _ = _
                            simp only [Act.put, List.setIfInBounds_toArray, List.set_cons_zero, List.set_cons_succ, i64_w, i32_w]
                            rfl
                          refine one_ (i := 3) (N := some 72) #[true, true, true, true, true, true, false, false] rfl rfl (one_of HT_.out (by kernel_rfl)) (by decide) (fun K hK => ?_)
                          refine Kd.R_append_rows_step k28 (w0 := w) w.heap.size rfl (.const (.slice none 0 0)) (.tmp 71) 22 28 (.agg #[(.bool false), (.string ⟨#[]⟩), (.string ⟨#[]⟩)]) 40 rfl Tryd.underlying22 info28 rfl (by decide) (by omega) (.slice none 0 0) ([] : List (S28)) y218 _ _ _ (fun k_ => some k_ ≠ (v226 : Value).ownBlock ∧ k_ ≠ gb215) (fun _ => False) rfl rfl ?aO ?aR (fun _ _ h => h) (fun _ h => h.elim) ?aF ?aB ?aS ?aL ?_
                          (case aR => repeat (first | exact (Kd.C_below HR221.out HB.out) | (with_reducible refine Kd.C_alloc ?_ _) | (with_reducible refine Kd.C_drewN ?_ _) | (with_reducible refine Kd.C_drew ?_)))
                          (case aB => exact (by repeat (first | (with_reducible first | exact HB.out | apply below_alloc | apply pw_below_drewN | apply below_drew1 | refine below_set ?_ GE215.out) | exact HB.out)))
                          (case aF => exact (fun k_ hk => ⟨Kd.fresh' (Kd.R_lt (by (with_reducible repeat (first | apply Kd.R_alloc | apply Kd.R_drewN | apply Kd.R_drew)); exact HO227.out)) k_ hk, Kd.freshB (g := gb215) (o := .cells #[.bool a1_0, .string a1_1, .string a1_2] 28 (0, 0)) (by (with_reducible repeat (first | refine blk_drewN ?_ _ | refine blk_drew ?_ | refine blk_alloc ?_ _)); exact BK215.out) k_ hk⟩))
                          (case aO => exact ((Kd.R_nil _ _ _ _ (fun k_ => some k_ ≠ (v226 : Value).ownBlock ∧ k_ ≠ gb215))))
                          (case aS => exact (below_size (by repeat (first | (with_reducible first | exact HB.out | apply below_alloc | apply pw_below_drewN | apply below_drew1 | refine below_set ?_ GE215.out) | exact HB.out))))
                          (case aL => have := LMc31.out; omega)
                          intro v223 w46 ho hb hg hat
                          rw [← Ny222.out] at ho
                          have n0_ := Aside0.mk (blk_grown (g := gb215) (o := .cells #[.bool a1_0, .string a1_1, .string a1_2] 28 (0, 0)) (by (with_reducible repeat (first | refine blk_drewN ?_ _ | refine blk_drew ?_ | refine blk_alloc ?_ _)); exact BK215.out) hg (by simp [Value.ownBlock]))
                          have n1_ := Aside0.mk (Kd.R_after (Kd.R_apart_nil (by (with_reducible repeat (first | apply Kd.R_alloc | apply Kd.R_drewN | apply Kd.R_drew)); exact HO227.out)) hg hat)
                          have n2_ := Aside0.mk (hb)
                          have n3_ := Aside0.mk (ho)
                          clear BK215
                          clear HO227
                          clear HB
                          have BK215 := n0_
                          have HO227 := n1_
                          have HB := n2_
                          have HO224 := n3_
                          clear n0_ n1_ n2_ n3_
                          clear ho hb hg hat
                          refine hK.out _ _ ⟨(blk_cell BK215.out 0).trans rfl, (blk_cell BK215.out 1).trans rfl, (blk_cell BK215.out 2).trans rfl⟩ (fun hHeld => ?_)
                          clear hK K
                          refine norm_ (a' := ?_) ?_ ?_
                          rotate_left
                          · show Act.put _ (some 72) _ = _
                            simp only [Act.put, List.setIfInBounds_toArray, List.set_cons_zero, List.set_cons_succ, i64_w, i32_w]
                            rfl
                          exact norm_ (by simp only [putAll, Act.put, List.setIfInBounds_toArray, List.set_cons_zero, List.set_cons_succ]) (hCont (v223, v226) _ ⟨hHeld, (by (with_reducible repeat (first | apply Kd.R_alloc | apply Kd.R_drewN | apply Kd.R_drew)); exact HO224.out), (by (with_reducible repeat (first | apply Kd.R_alloc | apply Kd.R_drewN | apply Kd.R_drew)); exact Kd.R_mono HO227.out (fun _ hk => ⟨hk.2, hk.1.2⟩)), (by (with_reducible repeat (first | refine blk_drewN ?_ _ | refine blk_drew ?_ | refine blk_alloc ?_ _)); exact BK215.out), (by repeat (first | (with_reducible first | exact HB.out | apply below_alloc | apply pw_below_drewN | apply below_drew1 | refine below_set ?_ GE215.out) | exact HB.out))⟩)
                      rintro ⟨v223, v226⟩ w47 ⟨hS_, h0_, h1_, h2_, h3_⟩
                      have n0_ : Aside0 (Kd.R k28 28 w47 w.heap.size (fun k_ => some k_ ≠ (v226 : Value).ownBlock ∧ k_ ≠ gb215) v223 y222) := ⟨h0_⟩
                      have n1_ : Aside0 (Kd.R k28 28 w47 w.heap.size (fun k_ => some k_ ≠ (v223 : Value).ownBlock ∧ k_ ≠ gb215) v226 y225) := ⟨h1_⟩
                      have n2_ : Aside0 (w47.heap[gb215]? = some (.cells #[.bool a1_0, .string a1_1, .string a1_2] 28 (0, 0))) := ⟨h2_⟩
                      have n3_ : Aside0 (Below w.heap.size w w47) := ⟨h3_⟩
                      clear BK215
                      clear HB
                      clear h0_ h1_ h2_ h3_
                      have HO224 := n0_
                      have HO227 := n1_
                      have BK215 := n2_
                      have HB := n3_
                      clear n0_ n1_ n2_ n3_
                      have hHeld : w47.cell? ⟨gb215, 0, none⟩ = some (.bool a1_0) ∧ w47.cell? ⟨gb215, 1, none⟩ = some (.string a1_1) ∧ w47.cell? ⟨gb215, 2, none⟩ = some (.string a1_2) := hS_
                      obtain ⟨Ao49, co49, eo49⟩ := Kd.R_slice HO227.out
                      (first | subst eo49 | (injection eo49 with f1_ f2_ f3_; have f4_ := f1_.symm; have f5_ := f3_.symm; clear f1_ f2_ f3_; subst f4_; subst f5_))
                      refine norm_ (a' := ?_) ?_ ?_
                      rotate_left
                      · simp only [putAll, Act.put, List.setIfInBounds_toArray, List.set_cons_zero, List.set_cons_succ]
                        rfl
                      refine one_ (i := 6) (N := some 75) #[true, true, true, true, true, true, true, false] rfl rfl (one_of HT_.out (by kernel_rfl)) (by decide) (fun K hK => ?_)
                      refine Kd.R_append_rows_step k28 (w0 := w) w.heap.size (by rfl) (.tmp 72) (.tmp 74) 22 28 (.agg #[(.bool false), (.string ⟨#[]⟩), (.string ⟨#[]⟩)]) 40 rfl Tryd.underlying22 info28 rfl (by decide) (by omega) v223 y222 y225 _ _ _ (fun k_ => some k_ ≠ (.slice Ao49 y225.length co49 : Value).ownBlock ∧ k_ ≠ gb215) (fun _ => False) rfl rfl ?aO ?aR (fun _ _ h => h) (fun _ h => h.elim) ?aF ?aB ?aS ?aL ?_
                      (case aR => repeat (first | exact (Kd.R_reads' HO227.out).2.2 | (with_reducible refine Kd.C_alloc ?_ _) | (with_reducible refine Kd.C_drewN ?_ _) | (with_reducible refine Kd.C_drew ?_)))
                      (case aB => exact (by repeat (first | (with_reducible first | exact HB.out | apply below_alloc | apply pw_below_drewN | apply below_drew1 | refine below_set ?_ GE215.out) | exact HB.out)))
                      (case aF => exact (fun k_ hk => ⟨Kd.fresh' (Kd.R_lt (by (with_reducible repeat (first | apply Kd.R_alloc | apply Kd.R_drewN | apply Kd.R_drew)); exact HO227.out)) k_ hk, Kd.freshB (g := gb215) (o := .cells #[.bool a1_0, .string a1_1, .string a1_2] 28 (0, 0)) (by (with_reducible repeat (first | refine blk_drewN ?_ _ | refine blk_drew ?_ | refine blk_alloc ?_ _)); exact BK215.out) k_ hk⟩))
                      (case aO => exact (by (with_reducible repeat (first | apply Kd.R_alloc | apply Kd.R_drewN | apply Kd.R_drew)); exact HO224.out))
                      (case aS => exact (below_size (by repeat (first | (with_reducible first | exact HB.out | apply below_alloc | apply pw_below_drewN | apply below_drew1 | refine below_set ?_ GE215.out) | exact HB.out))))
                      (case aL => have := LMc32.out; omega)
                      intro v229 w48 ho hb hg hat
                      rw [← Ny228.out] at ho
                      have n0_ := Aside0.mk (blk_grown (g := gb215) (o := .cells #[.bool a1_0, .string a1_1, .string a1_2] 28 (0, 0)) (by (with_reducible repeat (first | refine blk_drewN ?_ _ | refine blk_drew ?_ | refine blk_alloc ?_ _)); exact BK215.out) hg (Kd.R_away HO224.out (fun _ hk => hk.2)))
                      have n1_ := Aside0.mk (Kd.R_after (ok := (fun k_ => k_ ≠ gb215)) (by (with_reducible repeat (first | apply Kd.R_alloc | apply Kd.R_drewN | apply Kd.R_drew)); exact Kd.R_mono HO227.out (fun _ hk => ⟨hk.2, hk.1⟩)) hg hat)
                      have n2_ := Aside0.mk (hb)
                      have n3_ := Aside0.mk (ho)
                      clear BK215
                      clear HO227
                      clear HB
                      clear HO224
                      have BK215 := n0_
                      have HO227 := n1_
                      have HB := n2_
                      have HO230 := n3_
                      clear n0_ n1_ n2_ n3_
                      clear ho hb hg hat
                      refine hK.out _ _ ⟨(blk_cell BK215.out 0).trans rfl, (blk_cell BK215.out 1).trans rfl, (blk_cell BK215.out 2).trans rfl⟩ (fun hHeld => ?_)
                      clear hK K
                      refine norm_ (a' := ?_) ?_ ?_
                      rotate_left
                      · show Act.put _ (some 75) _ = _
                        simp only [Act.put, List.setIfInBounds_toArray, List.set_cons_zero, List.set_cons_succ, i64_w, i32_w]
                        rfl
                      refine pure_ (i := 7) (N := some 13) (v := ?_) (a' := ?_) #[true, true, true, true, true, true, true, true] rfl rfl (any_of HT_.out (by kernel_rfl)) (fun _ _ _ h => h) (Or.inl ⟨by rfl, ?_⟩) ?_ ?_
                      rotate_left
                      · intro w'
                        go_simp
                        with_reducible rfl
                      rotate_left
                      · simp only [Act.put, List.setIfInBounds_toArray, List.set_cons_zero, List.set_cons_succ, i64_w, i32_w]
                        rfl
                      refine done_ (done_of HT_.out (by kernel_rfl)) ?_
                      have q50 : (a2 : Int) ≤ ((l0.length : Int) : Int) := of_decide_eq_true (by first | (with_reducible assumption) | assumption)
                      obtain ⟨i050, hi050, _, hsz50, _⟩ := info_parts info28
                      have hroom50 : l0.length ≤ c0 := HC0.out
                      have hC50 : Kd.C k28 _ A0 l0.length l0 := HR0.out
                      have q050 : (0 : Int) ≤ (a2 : Int) := of_decide_eq_true (by first | (with_reducible assumption) | assumption)
                      have hcut50 := cut_from (P := Tryd.prog) 22 28 .i64 Tryd.underlying22 hi050 3 hsz50 A0 l0.length c0 a2 q050 q50
                      have hr50 := Kd.C_drop (m := (a2 : Int).toNat) (c := c0) hC50 (by omega) hroom50
                      obtain ⟨A50, hA50⟩ : ∃ A1, A1 = (if c0 = (a2 : Int).toNat then A0 else (A0 : Option Addr).map (·.add ((a2 : Int).toNat * 3))) := ⟨_, rfl⟩
                      obtain ⟨c50, hc50⟩ : ∃ c1, c1 = c0 - (a2 : Int).toNat := ⟨_, rfl⟩
                      have hy50 : y231.length = l0.length - (a2 : Int).toNat := (by rw [Ny231.out, List.length_drop] <;> omega)
                      rw [show (l0).drop (a2 : Int).toNat = y231 from Ny231.out.symm] at hr50
                      replace hr50 : Kd.C k28 _ A50 y231.length y231 := (by rw [hA50]; exact hr50)
                      rw [← hy50, ← hA50, ← hc50] at hcut50
                      have HR234 := Aside0.mk hr50
                      have HC234 := Aside0.mk (show y231.length ≤ c50 from by rw [hy50, hc50]; exact Nat.sub_le_sub_right hroom50 _)
                      clear hr50 hC50 hroom50 hi050 hsz50 hc50
                      have KY50 := Aside0.mk hy50
                      have KA50 := Aside0.mk hA50
                      clear hy50 hA50
                      replace q50 := eq_true q50
                      try go_wp2_with (first | ((with_reducible refine gate_builtin (b := .append) (xs := #[.tmp 76, .tmp 79]) rfl ?_); (try (refine gate_guard (by rfl) ?_; dsimp only)); at_builtin; refine Kd.R_append_rows k28 (w0 := w) w.heap.size rfl (.tmp 76) (.tmp 79) 22 28 (.agg #[(.bool false), (.string ⟨#[]⟩), (.string ⟨#[]⟩)]) 40 rfl Tryd.underlying22 info28 rfl (by decide) (by omega) v229 y228 y231 _ _ _ (fun k_ => some k_ ≠ (.slice Ao49 y225.length co49 : Value).ownBlock ∧ k_ ≠ gb215) (fun _ => False) rfl rfl ?aO ?aR (fun _ _ h => h) (fun _ h => h.elim) ?aF ?aB ?aS ?aL ?_; (case aR => repeat (first | exact (Kd.C_below HR234.out HB.out) | (with_reducible refine Kd.C_alloc ?_ _) | (with_reducible refine Kd.C_drewN ?_ _) | (with_reducible refine Kd.C_drew ?_))); (case aB => exact (by repeat (first | (with_reducible first | exact HB.out | apply below_alloc | apply pw_below_drewN | apply below_drew1 | refine below_set ?_ GE215.out) | exact HB.out))); (case aF => exact (fun k_ hk => ⟨Kd.fresh' (Kd.R_lt (by (with_reducible repeat (first | apply Kd.R_alloc | apply Kd.R_drewN | apply Kd.R_drew)); exact HO227.out)) k_ hk, Kd.freshB (g := gb215) (o := .cells #[.bool a1_0, .string a1_1, .string a1_2] 28 (0, 0)) (by (with_reducible repeat (first | refine blk_drewN ?_ _ | refine blk_drew ?_ | refine blk_alloc ?_ _)); exact BK215.out) k_ hk⟩)); (case aO => exact (by (with_reducible repeat (first | apply Kd.R_alloc | apply Kd.R_drewN | apply Kd.R_drew)); exact HO230.out)); (case aS => exact (below_size (by repeat (first | (with_reducible first | exact HB.out | apply below_alloc | apply pw_below_drewN | apply below_drew1 | refine below_set ?_ GE215.out) | exact HB.out)))); (case aL => have := LMc35.out; omega); intro v236 w51 ho hb hg hat; rw [← Ny235.out] at ho; have n0_ := Aside0.mk (blk_grown (g := gb215) (o := .cells #[.bool a1_0, .string a1_1, .string a1_2] 28 (0, 0)) (by (with_reducible repeat (first | refine blk_drewN ?_ _ | refine blk_drew ?_ | refine blk_alloc ?_ _)); exact BK215.out) hg (Kd.R_away HO230.out (fun _ hk => hk.2))); have n1_ := Aside0.mk (Kd.R_after (ok := (fun k_ => k_ ≠ gb215)) (by (with_reducible repeat (first | apply Kd.R_alloc | apply Kd.R_drewN | apply Kd.R_drew)); exact HO227.out) hg hat); have n2_ := Aside0.mk (hb); have n3_ := Aside0.mk (ho); clear BK215; clear HO227; clear HB; clear HO230; have BK215 := n0_; have HO227 := n1_; have HB := n2_; have HO237 := n3_; clear n0_ n1_ n2_ n3_; clear ho hb hg hat) | ((with_reducible refine gate_callee (f := 12) rfl ?_); refine goesL_ (some 84) rfl rfl Tryd.func12 (by kernel_rfl) rfl #[.slice A0 l0.length c0, .string a3, .string a4] rfl (by (try simp only [List.map_toArray, List.map_cons, List.map_nil]); first | done | rfl | (simp only [List.length_drop, List.length_take]; rfl)) ?_; (with_reducible refine (acl_Which.calls _ _ l0 a3 a4 t238 _ ?side1 ?side2 ?side3 A36.out).mono ?_); (case side1 => repeat (first | exact (Kd.C_below HR0.out HB.out) | (with_reducible refine Kd.C_alloc ?_ _) | (with_reducible refine Kd.C_drewN ?_ _) | (with_reducible refine Kd.C_drew ?_))); (case side2 => exact HC0.out); (case side3 => exact HMET.out.below (by repeat (first | (with_reducible first | exact HB.out | apply below_alloc | apply pw_below_drewN | apply below_drew1 | refine below_set ?_ GE215.out) | exact HB.out))); rintro e w52 ⟨rfl, hb⟩; refine ⟨_, rfl, ?_⟩; have n0_ := Aside0.mk (Kd.R_below (by (with_reducible repeat (first | apply Kd.R_alloc | apply Kd.R_drewN | apply Kd.R_drew)); exact HO227.out) hb); have n1_ := Aside0.mk (Kd.R_below (by (with_reducible repeat (first | apply Kd.R_alloc | apply Kd.R_drewN | apply Kd.R_drew)); exact HO237.out) hb); have n2_ := Aside0.mk (blk_below (g := gb215) (o := .cells #[.bool a1_0, .string a1_1, .string a1_2] 28 (0, 0)) (by (with_reducible repeat (first | refine blk_drewN ?_ _ | refine blk_drew ?_ | refine blk_alloc ?_ _)); exact BK215.out) hb); have n3_ := Aside0.mk (below_step (by repeat (first | (with_reducible first | exact HB.out | apply below_alloc | apply pw_below_drewN | apply below_drew1 | refine below_set ?_ GE215.out) | exact HB.out)) hb); clear HO227; clear HO237; clear BK215; clear HB; have HO227 := n0_; have HO237 := n1_; have BK215 := n2_; have HB := n3_; clear n0_ n1_ n2_ n3_; (try clear hb); (try clear hb2); (try clear hk); (try clear hi); obtain ⟨Ao53, co53, eo53⟩ := Kd.R_slice HO237.out; subst eo53) | ((with_reducible refine gate_callee (f := 12) rfl ?_); refine goesL_ (some 88) rfl rfl Tryd.func12 (by kernel_rfl) rfl #[.slice Ao53 y235.length co53, .string a3, .string a4] rfl (by (try simp only [List.map_toArray, List.map_cons, List.map_nil]); first | done | rfl | (simp only [List.length_drop, List.length_take]; rfl)) ?_; (with_reducible refine (acl_Which.calls _ _ y235 a3 a4 t239 _ ?side1 ?side2 ?side3 A37.out).mono ?_); (case side1 => repeat (first | exact (Kd.R_reads' HO237.out).2.2 | (with_reducible refine Kd.C_alloc ?_ _) | (with_reducible refine Kd.C_drewN ?_ _) | (with_reducible refine Kd.C_drew ?_))); (case side2 => exact (Kd.R_reads' HO237.out).2.1); (case side3 => exact HMET.out.below (by repeat (first | (with_reducible first | exact HB.out | apply below_alloc | apply pw_below_drewN | apply below_drew1 | refine below_set ?_ GE215.out) | exact HB.out))); rintro e w54 ⟨rfl, hb⟩; refine ⟨_, rfl, ?_⟩; have n0_ := Aside0.mk (Kd.R_below (by (with_reducible repeat (first | apply Kd.R_alloc | apply Kd.R_drewN | apply Kd.R_drew)); exact HO227.out) hb); have n1_ := Aside0.mk (Kd.R_below (by (with_reducible repeat (first | apply Kd.R_alloc | apply Kd.R_drewN | apply Kd.R_drew)); exact HO237.out) hb); have n2_ := Aside0.mk (blk_below (g := gb215) (o := .cells #[.bool a1_0, .string a1_1, .string a1_2] 28 (0, 0)) (by (with_reducible repeat (first | refine blk_drewN ?_ _ | refine blk_drew ?_ | refine blk_alloc ?_ _)); exact BK215.out) hb); have n3_ := Aside0.mk (below_step (by repeat (first | (with_reducible first | exact HB.out | apply below_alloc | apply pw_below_drewN | apply below_drew1 | refine below_set ?_ GE215.out) | exact HB.out)) hb); clear HO227; clear HO237; clear BK215; clear HB; have HO227 := n0_; have HO237 := n1_; have BK215 := n2_; have HB := n3_; clear n0_ n1_ n2_ n3_; (try clear hb); (try clear hb2); (try clear hk); (try clear hi)) | (go_at_call 14; (with_reducible refine (acl_Allowed.calls _ _ y235 a3 a4 t240 _ ?side1 ?side2 ?side3 A40.out).mono ?_); (case side1 => repeat (first | exact (Kd.R_reads' HO237.out).2.2 | (with_reducible refine Kd.C_alloc ?_ _) | (with_reducible refine Kd.C_drewN ?_ _) | (with_reducible refine Kd.C_drew ?_))); (case side2 => exact (Kd.R_reads' HO237.out).2.1); (case side3 => exact HMET.out.below (by repeat (first | (with_reducible first | exact HB.out | apply below_alloc | apply pw_below_drewN | apply below_drew1 | refine below_set ?_ GE215.out) | exact HB.out))); rintro e w55 ⟨rfl, hb⟩; have n0_ := Aside0.mk (Kd.R_below (by (with_reducible repeat (first | apply Kd.R_alloc | apply Kd.R_drewN | apply Kd.R_drew)); exact HO227.out) hb); have n1_ := Aside0.mk (Kd.R_below (by (with_reducible repeat (first | apply Kd.R_alloc | apply Kd.R_drewN | apply Kd.R_drew)); exact HO237.out) hb); have n2_ := Aside0.mk (blk_below (g := gb215) (o := .cells #[.bool a1_0, .string a1_1, .string a1_2] 28 (0, 0)) (by (with_reducible repeat (first | refine blk_drewN ?_ _ | refine blk_drew ?_ | refine blk_alloc ?_ _)); exact BK215.out) hb); have n3_ := Aside0.mk (below_step (by repeat (first | (with_reducible first | exact HB.out | apply below_alloc | apply pw_below_drewN | apply below_drew1 | refine below_set ?_ GE215.out) | exact HB.out)) hb); clear HO227; clear HO237; clear BK215; clear HB; have HO227 := n0_; have HO237 := n1_; have BK215 := n2_; have HB := n3_; clear n0_ n1_ n2_ n3_; (try clear hb); (try clear hb2); (try clear hk); (try clear hi)) | (go_at_call 14; (with_reducible refine (acl_Allowed.calls _ _ l0 a3 a4 t241 _ ?side1 ?side2 ?side3 A41.out).mono ?_); (case side1 => repeat (first | exact (Kd.C_below HR0.out HB.out) | (with_reducible refine Kd.C_alloc ?_ _) | (with_reducible refine Kd.C_drewN ?_ _) | (with_reducible refine Kd.C_drew ?_))); (case side2 => exact HC0.out); (case side3 => exact HMET.out.below (by repeat (first | (with_reducible first | exact HB.out | apply below_alloc | apply pw_below_drewN | apply below_drew1 | refine below_set ?_ GE215.out) | exact HB.out))); rintro e w56 ⟨rfl, hb⟩; have n0_ := Aside0.mk (Kd.R_below (by (with_reducible repeat (first | apply Kd.R_alloc | apply Kd.R_drewN | apply Kd.R_drew)); exact HO227.out) hb); have n1_ := Aside0.mk (Kd.R_below (by (with_reducible repeat (first | apply Kd.R_alloc | apply Kd.R_drewN | apply Kd.R_drew)); exact HO237.out) hb); have n2_ := Aside0.mk (blk_below (g := gb215) (o := .cells #[.bool a1_0, .string a1_1, .string a1_2] 28 (0, 0)) (by (with_reducible repeat (first | refine blk_drewN ?_ _ | refine blk_drew ?_ | refine blk_alloc ?_ _)); exact BK215.out) hb); have n3_ := Aside0.mk (below_step (by repeat (first | (with_reducible first | exact HB.out | apply below_alloc | apply pw_below_drewN | apply below_drew1 | refine below_set ?_ GE215.out) | exact HB.out)) hb); clear HO227; clear HO237; clear BK215; clear HB; have HO227 := n0_; have HO237 := n1_; have BK215 := n2_; have HB := n3_; clear n0_ n1_ n2_ n3_; (try clear hb); (try clear hb2); (try clear hk); (try clear hi)))
                      go_ret
                      exact ⟨by first | rfl | (simp [errW_none, errW_some] <;> rfl) | (simp [*, errW_none, errW_some] <;> rfl), by repeat (first | (with_reducible first | exact HB.out | apply below_alloc | apply pw_below_drewN | apply below_drew1 | refine below_set ?_ GE215.out) | exact HB.out)⟩
                    · rw [if_neg c39] at H
                      have c39b0 : (t239 == (wrap64 (t238 + 1))) = false := beq_eq_false_iff_ne.mpr c39
                      have c39b1 : (t239 != (wrap64 (t238 + 1))) = true := bne_iff_ne.mpr c39
                      obtain rfl := Option.some.inj H
                      try go_wp2
                      have n0_ := Aside0.mk (blk_drew BK215.out)
                      have n1_ := Aside0.mk (below_drew1 HB.out)
                      clear BK215
                      clear HB
                      have BK215 := n0_
                      have HB := n1_
                      clear n0_ n1_
                      have q58 : (a2 : Int) ≤ ((l0.length : Int) : Int) := of_decide_eq_true (by first | (with_reducible assumption) | assumption)
                      obtain ⟨i058, hi058, _, hsz58, _⟩ := info_parts info28
                      have hroom58 : l0.length ≤ c0 := HC0.out
                      have hC58 : Kd.C k28 _ A0 l0.length l0 := HR0.out
                      have hcut58 := cut_to (P := Tryd.prog) 22 28 .i64 Tryd.underlying22 hi058 A0 l0.length c0 a2 (of_decide_eq_true (by first | (with_reducible assumption) | assumption)) q58 hroom58
                      have hr58 := Kd.C_take (m := (a2 : Int).toNat) hC58 (by omega)
                      have hy58 : y218.length = (a2 : Int).toNat := (by rw [Ny218.out, List.length_take]; omega)
                      rw [← Ny218.out] at hr58
                      rw [← hy58] at hcut58
                      have HR221 := Aside0.mk hr58
                      have HC221 := Aside0.mk (show y218.length ≤ c0 from by omega)
                      clear hr58 hC58 hroom58 hi058 hsz58
                      have KY58 := Aside0.mk hy58
                      clear hy58
                      replace q58 := eq_true q58
                      refine start_ (n := 8) (S := fun w' => w'.cell? ⟨gb215, 0, none⟩ = some (.bool a1_0) ∧ w'.cell? ⟨gb215, 1, none⟩ = some (.string a1_1) ∧ w'.cell? ⟨gb215, 2, none⟩ = some (.string a1_2)) (ds := []) #[false, false, false, false, false, false, false, false] (by kernel_rfl) rfl rfl ⟨(blk_cell BK215.out 0).trans rfl, (blk_cell BK215.out 1).trans rfl, (blk_cell BK215.out 2).trans rfl⟩ (fun hHeld => ?_); refine with_tabW wharfingerlaw11_AclVerb.tab5 wharfingerlaw11_AclVerb.bits5 (fun HT_ HW_ => ?_)
                      generalize wc.drew = w57 at BK215 HB HR221 hHeld ⊢
                      refine pure_ (i := 0) (N := some 69) (v := ?_) (a' := ?_) #[true, false, false, false, false, false, false, false] rfl rfl (any_of HT_.out (by kernel_rfl)) (fun _ _ _ h => h) (Or.inl ⟨by rfl, ?_⟩) ?_ ?_
                      rotate_left
                      · intro w'
                        go_simp
                        with_reducible rfl
                      rotate_left
                      · simp only [Act.put, List.setIfInBounds_toArray, List.set_cons_zero, List.set_cons_succ, i64_w, i32_w]
                        rfl
                      refine pure_ (i := 1) (N := some 70) (v := ?_) (a' := ?_) #[true, true, false, false, false, false, false, false] rfl rfl (any_of HT_.out (by kernel_rfl)) (fun _ _ _ h => h) (Or.inl ⟨by rfl, ?_⟩) ?_ ?_
                      rotate_left
                      · intro w'
                        go_simp
                        with_reducible rfl
                      rotate_left
                      · simp only [Act.put, List.setIfInBounds_toArray, List.set_cons_zero, List.set_cons_succ, i64_w, i32_w]
                        rfl
                      refine pure_ (i := 2) (N := some 71) (v := ?_) (a' := ?_) #[true, true, true, false, false, false, false, false] rfl rfl (any_of HT_.out (by kernel_rfl)) (fun _ _ _ h => h) (Or.inl ⟨by rfl, ?_⟩) ?_ ?_
                      rotate_left
                      · intro w'
                        go_simp
                        with_reducible rfl
                      rotate_left
                      · simp only [Act.put, List.setIfInBounds_toArray, List.set_cons_zero, List.set_cons_succ, i64_w, i32_w]
                        rfl
                      refine take_ (i := 4) (N := some 73) (v := ?_) (a' := ?_) #[true, true, true, false, true, false, false, false] rfl rfl (take_ofW HT_.out HW_.out (by kernel_rfl)) (fun _ _ _ h => h) (Or.inl ⟨by rfl, ?_⟩) hHeld ?_ ?_
                      rotate_left
                      · rintro w' ⟨s0, s1, s2⟩
                        go_simp
                        with_reducible rfl
                      rotate_left
                      · simp only [Act.put, List.setIfInBounds_toArray, List.set_cons_zero, List.set_cons_succ, i64_w, i32_w]
                        rfl
                      refine join_ (σ := Value × Value) 2 #[true, true, true, true, true, true, false, false] (fun s_ => [(72, s_.1), (74, s_.2)]) (fun s_ w' => (w'.cell? ⟨gb215, 0, none⟩ = some (.bool a1_0) ∧ w'.cell? ⟨gb215, 1, none⟩ = some (.string a1_1) ∧ w'.cell? ⟨gb215, 2, none⟩ = some (.string a1_2)) ∧ (Kd.R k28 28 w' w.heap.size (fun k_ => some k_ ≠ (s_.2 : Value).ownBlock ∧ k_ ≠ gb215) s_.1 y222) ∧ (Kd.R k28 28 w' w.heap.size (fun k_ => some k_ ≠ (s_.1 : Value).ownBlock ∧ k_ ≠ gb215) s_.2 y225) ∧ (w'.heap[gb215]? = some (.cells #[.bool a1_0, .string a1_1, .string a1_2] 28 (0, 0))) ∧ (Below w.heap.size w w')) ?_ ?_
                      rotate_left
                      · intro hCont
                        refine two_ (i := 3) (j := 5) (Ni := some 72) (Nj := some 74) #[true, true, true, true, true, false, false, false] #[true, true, true, false, true, true, false, false] rfl rfl rfl rfl (two_of HT_.out (by kernel_rfl)) (by decide) (by decide) (fun K hK => ?_) (fun K hK => ?_)
                        · skip
                          refine Kd.R_append_rows_step k28 (w0 := w) w.heap.size rfl (.const (.slice none 0 0)) (.tmp 71) 22 28 (.agg #[(.bool false), (.string ⟨#[]⟩), (.string ⟨#[]⟩)]) 40 rfl Tryd.underlying22 info28 rfl (by decide) (by omega) (.slice none 0 0) ([] : List (S28)) y218 _ _ _ (fun k_ => k_ ≠ gb215) (fun _ => False) rfl rfl ?aO ?aR (fun _ _ h => h) (fun _ h => h.elim) ?aF ?aB ?aS ?aL ?_
                          (case aR => repeat (first | exact (Kd.C_below HR221.out HB.out) | (with_reducible refine Kd.C_alloc ?_ _) | (with_reducible refine Kd.C_drewN ?_ _) | (with_reducible refine Kd.C_drew ?_)))
                          (case aB => exact (by repeat (first | (with_reducible first | exact HB.out | apply below_alloc | apply pw_below_drewN | apply below_drew1 | refine below_set ?_ GE215.out) | exact HB.out)))
                          (case aF => exact (fun k_ hk => Kd.freshB (g := gb215) (o := .cells #[.bool a1_0, .string a1_1, .string a1_2] 28 (0, 0)) (by (with_reducible repeat (first | refine blk_drewN ?_ _ | refine blk_drew ?_ | refine blk_alloc ?_ _)); exact BK215.out) k_ hk))
                          (case aO => exact ((Kd.R_nil _ _ _ _ (fun k_ => k_ ≠ gb215))))
                          (case aS => exact (below_size (by repeat (first | (with_reducible first | exact HB.out | apply below_alloc | apply pw_below_drewN | apply below_drew1 | refine below_set ?_ GE215.out) | exact HB.out))))
                          (case aL => have := LMc31.out; omega)
                          intro v223 w59 ho hb hg hat
                          rw [← Ny222.out] at ho
                          have n0_ := Aside0.mk (blk_grown (g := gb215) (o := .cells #[.bool a1_0, .string a1_1, .string a1_2] 28 (0, 0)) (by (with_reducible repeat (first | refine blk_drewN ?_ _ | refine blk_drew ?_ | refine blk_alloc ?_ _)); exact BK215.out) hg (by simp [Value.ownBlock]))
                          have n1_ := Aside0.mk (hb)
                          have n2_ := Aside0.mk (ho)
                          clear BK215
                          clear HB
                          have BK215 := n0_
                          have HB := n1_
                          have HO224 := n2_
                          clear n0_ n1_ n2_
                          clear ho hb hg hat
                          refine hK.out _ _ ⟨(blk_cell BK215.out 0).trans rfl, (blk_cell BK215.out 1).trans rfl, (blk_cell BK215.out 2).trans rfl⟩ (fun hHeld => ?_)
                          clear hK K
                          refine norm_ (a' := ?_) ?_ ?_
                          rotate_left
                          · show Act.put _ (some 72) _ = _
                            simp only [Act.put, List.setIfInBounds_toArray, List.set_cons_zero, List.set_cons_succ, i64_w, i32_w]
                            rfl
                          refine one_ (i := 5) (N := some 74) #[true, true, true, true, true, true, false, false] rfl rfl (one_of HT_.out (by kernel_rfl)) (by decide) (fun K hK => ?_)
                          refine Kd.R_lit_step k28 _ 28 ?hg (N := 74) ?hd (xs := ([(⟨a1_0, a1_1, a1_2⟩ : S28)] : List (S28))) (inner := [.bool a1_0, .string a1_1, .string a1_2]) (ok := fun _ => True) (okp := fun _ => True) ?hr ?hp (fun _ hk => hk) trivial (Below.refl _ _) (Nat.le_refl _) (by simp) ?_; (case hd => rfl); (case hg => rfl); (case hr => first | (go_simp; done) | (go_simp; rfl)); (case hp => exact (Reps.c3 (show Kd.M k28 _ _ _ (⟨a1_0, a1_1, a1_2⟩ : S28) [.bool a1_0, .string a1_1, .string a1_2] from (k28_mkM _ _ _ (⟨a1_0, a1_1, a1_2⟩ : S28) )) (Reps.none _ _)))
                          intro v226 w60 ho61 hb hg_ hnew_
                          clear hg_ hnew_
                          (first | rw [← Ny225.out] at ho61 | (simp only [Int.reduceToNat] at ho61; rw [← Ny225.out] at ho61))
                          have n0_ := Aside0.mk (Kd.R_elder' (by (with_reducible repeat (first | apply Kd.R_alloc | apply Kd.R_drewN | apply Kd.R_drew)); exact HO224.out) (Kd.R_base ho61) hb)
                          have n1_ := Aside0.mk (Kd.R_lower (Kd.R_newB (Kd.R_new' ho61 (Kd.R_lt (by (with_reducible repeat (first | apply Kd.R_alloc | apply Kd.R_drewN | apply Kd.R_drew)); exact HO224.out))) (g := gb215) (o := .cells #[.bool a1_0, .string a1_1, .string a1_2] 28 (0, 0)) (by (with_reducible repeat (first | refine blk_drewN ?_ _ | refine blk_drew ?_ | refine blk_alloc ?_ _)); exact BK215.out)) (below_size (by repeat (first | (with_reducible first | exact HB.out | apply below_alloc | apply pw_below_drewN | apply below_drew1 | refine below_set ?_ GE215.out) | exact HB.out))))
                          have n2_ := Aside0.mk (blk_below (g := gb215) (o := .cells #[.bool a1_0, .string a1_1, .string a1_2] 28 (0, 0)) (by (with_reducible repeat (first | refine blk_drewN ?_ _ | refine blk_drew ?_ | refine blk_alloc ?_ _)); exact BK215.out) hb)
                          have n3_ := Aside0.mk (below_step (by repeat (first | (with_reducible first | exact HB.out | apply below_alloc | apply pw_below_drewN | apply below_drew1 | refine below_set ?_ GE215.out) | exact HB.out)) hb)
                          clear HO224
                          clear BK215
                          clear HB
                          have HO224 := n0_
                          have HO227 := n1_
                          have BK215 := n2_
                          have HB := n3_
                          clear n0_ n1_ n2_ n3_
                          clear hb ho61
                          refine hK.out _ _ ⟨(blk_cell BK215.out 0).trans rfl, (blk_cell BK215.out 1).trans rfl, (blk_cell BK215.out 2).trans rfl⟩ (fun hHeld => ?_)
                          clear hK K
                          refine norm_ (a' := ?_) ?_ ?_
                          rotate_left
                          · show Act.put _ (some 74) _ = _
                            simp only [Act.put, List.setIfInBounds_toArray, List.set_cons_zero, List.set_cons_succ, i64_w, i32_w]
                            rfl
                          exact norm_ (by simp only [putAll, Act.put, List.setIfInBounds_toArray, List.set_cons_zero, List.set_cons_succ]) (hCont (v223, v226) _ ⟨hHeld, (by (with_reducible repeat (first | apply Kd.R_alloc | apply Kd.R_drewN | apply Kd.R_drew)); exact Kd.R_mono HO224.out (fun _ hk => ⟨hk.2, hk.1⟩)), (by (with_reducible repeat (first | apply Kd.R_alloc | apply Kd.R_drewN | apply Kd.R_drew)); exact Kd.R_mono HO227.out (fun _ hk => ⟨hk.1.2, hk.2⟩)), (by (with_reducible repeat (first | refine blk_drewN ?_ _ | refine blk_drew ?_ | refine blk_alloc ?_ _)); exact BK215.out), (by repeat (first | (with_reducible first | exact HB.out | apply below_alloc | apply pw_below_drewN | apply below_drew1 | refine below_set ?_ GE215.out) | exact HB.out))⟩)
                        · skip
                          refine Kd.R_lit_step k28 _ 28 ?hg (N := 74) ?hd (xs := ([(⟨a1_0, a1_1, a1_2⟩ : S28)] : List (S28))) (inner := [.bool a1_0, .string a1_1, .string a1_2]) (ok := fun _ => True) (okp := fun _ => True) ?hr ?hp (fun _ hk => hk) trivial (Below.refl _ _) (Nat.le_refl _) (by simp) ?_; (case hd => rfl); (case hg => rfl); (case hr => first | (go_simp; done) | (go_simp; rfl)); (case hp => exact (Reps.c3 (show Kd.M k28 _ _ _ (⟨a1_0, a1_1, a1_2⟩ : S28) [.bool a1_0, .string a1_1, .string a1_2] from (k28_mkM _ _ _ (⟨a1_0, a1_1, a1_2⟩ : S28) )) (Reps.none _ _)))
                          intro v226 w59 ho60 hb hg_ hnew_
                          clear hg_ hnew_
                          (first | rw [← Ny225.out] at ho60 | (simp only [Int.reduceToNat] at ho60; rw [← Ny225.out] at ho60))
                          have n0_ := Aside0.mk (Kd.R_lower (Kd.R_newB ho60 (g := gb215) (o := .cells #[.bool a1_0, .string a1_1, .string a1_2] 28 (0, 0)) (by (with_reducible repeat (first | refine blk_drewN ?_ _ | refine blk_drew ?_ | refine blk_alloc ?_ _)); exact BK215.out)) (below_size (by repeat (first | (with_reducible first | exact HB.out | apply below_alloc | apply pw_below_drewN | apply below_drew1 | refine below_set ?_ GE215.out) | exact HB.out))))
                          have n1_ := Aside0.mk (blk_below (g := gb215) (o := .cells #[.bool a1_0, .string a1_1, .string a1_2] 28 (0, 0)) (by (with_reducible repeat (first | refine blk_drewN ?_ _ | refine blk_drew ?_ | refine blk_alloc ?_ _)); exact BK215.out) hb)
                          have n2_ := Aside0.mk (below_step (by repeat (first | (with_reducible first | exact HB.out | apply below_alloc | apply pw_below_drewN | apply below_drew1 | refine below_set ?_ GE215.out) | exact HB.out)) hb)
                          clear BK215
                          clear HB
                          have HO227 := n0_
                          have BK215 := n1_
                          have HB := n2_
                          clear n0_ n1_ n2_
                          clear hb ho60
                          refine hK.out _ _ ⟨(blk_cell BK215.out 0).trans rfl, (blk_cell BK215.out 1).trans rfl, (blk_cell BK215.out 2).trans rfl⟩ (fun hHeld => ?_)
                          clear hK K
                          refine norm_ (a' := ?_) ?_ ?_
                          rotate_left
                          · show Act.put _ (some 74) _ = _
                            simp only [Act.put, List.setIfInBounds_toArray, List.set_cons_zero, List.set_cons_succ, i64_w, i32_w]
                            rfl
                          refine one_ (i := 3) (N := some 72) #[true, true, true, true, true, true, false, false] rfl rfl (one_of HT_.out (by kernel_rfl)) (by decide) (fun K hK => ?_)
                          refine Kd.R_append_rows_step k28 (w0 := w) w.heap.size rfl (.const (.slice none 0 0)) (.tmp 71) 22 28 (.agg #[(.bool false), (.string ⟨#[]⟩), (.string ⟨#[]⟩)]) 40 rfl Tryd.underlying22 info28 rfl (by decide) (by omega) (.slice none 0 0) ([] : List (S28)) y218 _ _ _ (fun k_ => some k_ ≠ (v226 : Value).ownBlock ∧ k_ ≠ gb215) (fun _ => False) rfl rfl ?aO ?aR (fun _ _ h => h) (fun _ h => h.elim) ?aF ?aB ?aS ?aL ?_
                          (case aR => repeat (first | exact (Kd.C_below HR221.out HB.out) | (with_reducible refine Kd.C_alloc ?_ _) | (with_reducible refine Kd.C_drewN ?_ _) | (with_reducible refine Kd.C_drew ?_)))
                          (case aB => exact (by repeat (first | (with_reducible first | exact HB.out | apply below_alloc | apply pw_below_drewN | apply below_drew1 | refine below_set ?_ GE215.out) | exact HB.out)))
                          (case aF => exact (fun k_ hk => ⟨Kd.fresh' (Kd.R_lt (by (with_reducible repeat (first | apply Kd.R_alloc | apply Kd.R_drewN | apply Kd.R_drew)); exact HO227.out)) k_ hk, Kd.freshB (g := gb215) (o := .cells #[.bool a1_0, .string a1_1, .string a1_2] 28 (0, 0)) (by (with_reducible repeat (first | refine blk_drewN ?_ _ | refine blk_drew ?_ | refine blk_alloc ?_ _)); exact BK215.out) k_ hk⟩))
                          (case aO => exact ((Kd.R_nil _ _ _ _ (fun k_ => some k_ ≠ (v226 : Value).ownBlock ∧ k_ ≠ gb215))))
                          (case aS => exact (below_size (by repeat (first | (with_reducible first | exact HB.out | apply below_alloc | apply pw_below_drewN | apply below_drew1 | refine below_set ?_ GE215.out) | exact HB.out))))
                          (case aL => have := LMc31.out; omega)
                          intro v223 w61 ho hb hg hat
                          rw [← Ny222.out] at ho
                          have n0_ := Aside0.mk (blk_grown (g := gb215) (o := .cells #[.bool a1_0, .string a1_1, .string a1_2] 28 (0, 0)) (by (with_reducible repeat (first | refine blk_drewN ?_ _ | refine blk_drew ?_ | refine blk_alloc ?_ _)); exact BK215.out) hg (by simp [Value.ownBlock]))
                          have n1_ := Aside0.mk (Kd.R_after (Kd.R_apart_nil (by (with_reducible repeat (first | apply Kd.R_alloc | apply Kd.R_drewN | apply Kd.R_drew)); exact HO227.out)) hg hat)
                          have n2_ := Aside0.mk (hb)
                          have n3_ := Aside0.mk (ho)
                          clear BK215
                          clear HO227
                          clear HB
                          have BK215 := n0_
                          have HO227 := n1_
                          have HB := n2_
                          have HO224 := n3_
                          clear n0_ n1_ n2_ n3_
                          clear ho hb hg hat
                          refine hK.out _ _ ⟨(blk_cell BK215.out 0).trans rfl, (blk_cell BK215.out 1).trans rfl, (blk_cell BK215.out 2).trans rfl⟩ (fun hHeld => ?_)
                          clear hK K
                          refine norm_ (a' := ?_) ?_ ?_
                          rotate_left
                          · show Act.put _ (some 72) _ = _
                            simp only [Act.put, List.setIfInBounds_toArray, List.set_cons_zero, List.set_cons_succ, i64_w, i32_w]
                            rfl
                          exact norm_ (by simp only [putAll, Act.put, List.setIfInBounds_toArray, List.set_cons_zero, List.set_cons_succ]) (hCont (v223, v226) _ ⟨hHeld, (by (with_reducible repeat (first | apply Kd.R_alloc | apply Kd.R_drewN | apply Kd.R_drew)); exact HO224.out), (by (with_reducible repeat (first | apply Kd.R_alloc | apply Kd.R_drewN | apply Kd.R_drew)); exact Kd.R_mono HO227.out (fun _ hk => ⟨hk.2, hk.1.2⟩)), (by (with_reducible repeat (first | refine blk_drewN ?_ _ | refine blk_drew ?_ | refine blk_alloc ?_ _)); exact BK215.out), (by repeat (first | (with_reducible first | exact HB.out | apply below_alloc | apply pw_below_drewN | apply below_drew1 | refine below_set ?_ GE215.out) | exact HB.out))⟩)
                      rintro ⟨v223, v226⟩ w62 ⟨hS_, h0_, h1_, h2_, h3_⟩
                      have n0_ : Aside0 (Kd.R k28 28 w62 w.heap.size (fun k_ => some k_ ≠ (v226 : Value).ownBlock ∧ k_ ≠ gb215) v223 y222) := ⟨h0_⟩
                      have n1_ : Aside0 (Kd.R k28 28 w62 w.heap.size (fun k_ => some k_ ≠ (v223 : Value).ownBlock ∧ k_ ≠ gb215) v226 y225) := ⟨h1_⟩
                      have n2_ : Aside0 (w62.heap[gb215]? = some (.cells #[.bool a1_0, .string a1_1, .string a1_2] 28 (0, 0))) := ⟨h2_⟩
                      have n3_ : Aside0 (Below w.heap.size w w62) := ⟨h3_⟩
                      clear BK215
                      clear HB
                      clear h0_ h1_ h2_ h3_
                      have HO224 := n0_
                      have HO227 := n1_
                      have BK215 := n2_
                      have HB := n3_
                      clear n0_ n1_ n2_ n3_
                      have hHeld : w62.cell? ⟨gb215, 0, none⟩ = some (.bool a1_0) ∧ w62.cell? ⟨gb215, 1, none⟩ = some (.string a1_1) ∧ w62.cell? ⟨gb215, 2, none⟩ = some (.string a1_2) := hS_
                      obtain ⟨Ao64, co64, eo64⟩ := Kd.R_slice HO227.out
                      (first | subst eo64 | (injection eo64 with f1_ f2_ f3_; have f4_ := f1_.symm; have f5_ := f3_.symm; clear f1_ f2_ f3_; subst f4_; subst f5_))
                      refine norm_ (a' := ?_) ?_ ?_
                      rotate_left
                      · simp only [putAll, Act.put, List.setIfInBounds_toArray, List.set_cons_zero, List.set_cons_succ]
                        rfl
                      refine one_ (i := 6) (N := some 75) #[true, true, true, true, true, true, true, false] rfl rfl (one_of HT_.out (by kernel_rfl)) (by decide) (fun K hK => ?_)
                      refine Kd.R_append_rows_step k28 (w0 := w) w.heap.size (by rfl) (.tmp 72) (.tmp 74) 22 28 (.agg #[(.bool false), (.string ⟨#[]⟩), (.string ⟨#[]⟩)]) 40 rfl Tryd.underlying22 info28 rfl (by decide) (by omega) v223 y222 y225 _ _ _ (fun k_ => some k_ ≠ (.slice Ao64 y225.length co64 : Value).ownBlock ∧ k_ ≠ gb215) (fun _ => False) rfl rfl ?aO ?aR (fun _ _ h => h) (fun _ h => h.elim) ?aF ?aB ?aS ?aL ?_
                      (case aR => repeat (first | exact (Kd.R_reads' HO227.out).2.2 | (with_reducible refine Kd.C_alloc ?_ _) | (with_reducible refine Kd.C_drewN ?_ _) | (with_reducible refine Kd.C_drew ?_)))
                      (case aB => exact (by repeat (first | (with_reducible first | exact HB.out | apply below_alloc | apply pw_below_drewN | apply below_drew1 | refine below_set ?_ GE215.out) | exact HB.out)))
                      (case aF => exact (fun k_ hk => ⟨Kd.fresh' (Kd.R_lt (by (with_reducible repeat (first | apply Kd.R_alloc | apply Kd.R_drewN | apply Kd.R_drew)); exact HO227.out)) k_ hk, Kd.freshB (g := gb215) (o := .cells #[.bool a1_0, .string a1_1, .string a1_2] 28 (0, 0)) (by (with_reducible repeat (first | refine blk_drewN ?_ _ | refine blk_drew ?_ | refine blk_alloc ?_ _)); exact BK215.out) k_ hk⟩))
                      (case aO => exact (by (with_reducible repeat (first | apply Kd.R_alloc | apply Kd.R_drewN | apply Kd.R_drew)); exact HO224.out))
                      (case aS => exact (below_size (by repeat (first | (with_reducible first | exact HB.out | apply below_alloc | apply pw_below_drewN | apply below_drew1 | refine below_set ?_ GE215.out) | exact HB.out))))
                      (case aL => have := LMc32.out; omega)
                      intro v229 w63 ho hb hg hat
                      rw [← Ny228.out] at ho
                      have n0_ := Aside0.mk (blk_grown (g := gb215) (o := .cells #[.bool a1_0, .string a1_1, .string a1_2] 28 (0, 0)) (by (with_reducible repeat (first | refine blk_drewN ?_ _ | refine blk_drew ?_ | refine blk_alloc ?_ _)); exact BK215.out) hg (Kd.R_away HO224.out (fun _ hk => hk.2)))
                      have n1_ := Aside0.mk (Kd.R_after (ok := (fun k_ => k_ ≠ gb215)) (by (with_reducible repeat (first | apply Kd.R_alloc | apply Kd.R_drewN | apply Kd.R_drew)); exact Kd.R_mono HO227.out (fun _ hk => ⟨hk.2, hk.1⟩)) hg hat)
                      have n2_ := Aside0.mk (hb)
                      have n3_ := Aside0.mk (ho)
                      clear BK215
                      clear HO227
                      clear HB
                      clear HO224
                      have BK215 := n0_
                      have HO227 := n1_
                      have HB := n2_
                      have HO230 := n3_
                      clear n0_ n1_ n2_ n3_
                      clear ho hb hg hat
                      refine hK.out _ _ ⟨(blk_cell BK215.out 0).trans rfl, (blk_cell BK215.out 1).trans rfl, (blk_cell BK215.out 2).trans rfl⟩ (fun hHeld => ?_)
                      clear hK K
                      refine norm_ (a' := ?_) ?_ ?_
                      rotate_left
                      · show Act.put _ (some 75) _ = _
                        simp only [Act.put, List.setIfInBounds_toArray, List.set_cons_zero, List.set_cons_succ, i64_w, i32_w]
                        rfl
                      refine pure_ (i := 7) (N := some 13) (v := ?_) (a' := ?_) #[true, true, true, true, true, true, true, true] rfl rfl (any_of HT_.out (by kernel_rfl)) (fun _ _ _ h => h) (Or.inl ⟨by rfl, ?_⟩) ?_ ?_
                      rotate_left
                      · intro w'
                        go_simp
                        with_reducible rfl
                      rotate_left
                      · simp only [Act.put, List.setIfInBounds_toArray, List.set_cons_zero, List.set_cons_succ, i64_w, i32_w]
                        rfl
                      refine done_ (done_of HT_.out (by kernel_rfl)) ?_
                      have q65 : (a2 : Int) ≤ ((l0.length : Int) : Int) := of_decide_eq_true (by first | (with_reducible assumption) | assumption)
                      obtain ⟨i065, hi065, _, hsz65, _⟩ := info_parts info28
                      have hroom65 : l0.length ≤ c0 := HC0.out
                      have hC65 : Kd.C k28 _ A0 l0.length l0 := HR0.out
                      have q065 : (0 : Int) ≤ (a2 : Int) := of_decide_eq_true (by first | (with_reducible assumption) | assumption)
                      have hcut65 := cut_from (P := Tryd.prog) 22 28 .i64 Tryd.underlying22 hi065 3 hsz65 A0 l0.length c0 a2 q065 q65
                      have hr65 := Kd.C_drop (m := (a2 : Int).toNat) (c := c0) hC65 (by omega) hroom65
                      obtain ⟨A65, hA65⟩ : ∃ A1, A1 = (if c0 = (a2 : Int).toNat then A0 else (A0 : Option Addr).map (·.add ((a2 : Int).toNat * 3))) := ⟨_, rfl⟩
                      obtain ⟨c65, hc65⟩ : ∃ c1, c1 = c0 - (a2 : Int).toNat := ⟨_, rfl⟩
                      have hy65 : y231.length = l0.length - (a2 : Int).toNat := (by rw [Ny231.out, List.length_drop] <;> omega)
                      rw [show (l0).drop (a2 : Int).toNat = y231 from Ny231.out.symm] at hr65
                      replace hr65 : Kd.C k28 _ A65 y231.length y231 := (by rw [hA65]; exact hr65)
                      rw [← hy65, ← hA65, ← hc65] at hcut65
                      have HR234 := Aside0.mk hr65
                      have HC234 := Aside0.mk (show y231.length ≤ c65 from by rw [hy65, hc65]; exact Nat.sub_le_sub_right hroom65 _)
                      clear hr65 hC65 hroom65 hi065 hsz65 hc65
                      have KY65 := Aside0.mk hy65
                      have KA65 := Aside0.mk hA65
                      clear hy65 hA65
                      replace q65 := eq_true q65
                      try go_wp2_with (first | ((with_reducible refine gate_builtin (b := .append) (xs := #[.tmp 76, .tmp 79]) rfl ?_); (try (refine gate_guard (by rfl) ?_; dsimp only)); at_builtin; refine Kd.R_append_rows k28 (w0 := w) w.heap.size rfl (.tmp 76) (.tmp 79) 22 28 (.agg #[(.bool false), (.string ⟨#[]⟩), (.string ⟨#[]⟩)]) 40 rfl Tryd.underlying22 info28 rfl (by decide) (by omega) v229 y228 y231 _ _ _ (fun k_ => some k_ ≠ (.slice Ao64 y225.length co64 : Value).ownBlock ∧ k_ ≠ gb215) (fun _ => False) rfl rfl ?aO ?aR (fun _ _ h => h) (fun _ h => h.elim) ?aF ?aB ?aS ?aL ?_; (case aR => repeat (first | exact (Kd.C_below HR234.out HB.out) | (with_reducible refine Kd.C_alloc ?_ _) | (with_reducible refine Kd.C_drewN ?_ _) | (with_reducible refine Kd.C_drew ?_))); (case aB => exact (by repeat (first | (with_reducible first | exact HB.out | apply below_alloc | apply pw_below_drewN | apply below_drew1 | refine below_set ?_ GE215.out) | exact HB.out))); (case aF => exact (fun k_ hk => ⟨Kd.fresh' (Kd.R_lt (by (with_reducible repeat (first | apply Kd.R_alloc | apply Kd.R_drewN | apply Kd.R_drew)); exact HO227.out)) k_ hk, Kd.freshB (g := gb215) (o := .cells #[.bool a1_0, .string a1_1, .string a1_2] 28 (0, 0)) (by (with_reducible repeat (first | refine blk_drewN ?_ _ | refine blk_drew ?_ | refine blk_alloc ?_ _)); exact BK215.out) k_ hk⟩)); (case aO => exact (by (with_reducible repeat (first | apply Kd.R_alloc | apply Kd.R_drewN | apply Kd.R_drew)); exact HO230.out)); (case aS => exact (below_size (by repeat (first | (with_reducible first | exact HB.out | apply below_alloc | apply pw_below_drewN | apply below_drew1 | refine below_set ?_ GE215.out) | exact HB.out)))); (case aL => have := LMc35.out; omega); intro v236 w66 ho hb hg hat; rw [← Ny235.out] at ho; have n0_ := Aside0.mk (blk_grown (g := gb215) (o := .cells #[.bool a1_0, .string a1_1, .string a1_2] 28 (0, 0)) (by (with_reducible repeat (first | refine blk_drewN ?_ _ | refine blk_drew ?_ | refine blk_alloc ?_ _)); exact BK215.out) hg (Kd.R_away HO230.out (fun _ hk => hk.2))); have n1_ := Aside0.mk (Kd.R_after (ok := (fun k_ => k_ ≠ gb215)) (by (with_reducible repeat (first | apply Kd.R_alloc | apply Kd.R_drewN | apply Kd.R_drew)); exact HO227.out) hg hat); have n2_ := Aside0.mk (hb); have n3_ := Aside0.mk (ho); clear BK215; clear HO227; clear HB; clear HO230; have BK215 := n0_; have HO227 := n1_; have HB := n2_; have HO237 := n3_; clear n0_ n1_ n2_ n3_; clear ho hb hg hat) | ((with_reducible refine gate_callee (f := 12) rfl ?_); refine goesL_ (some 84) rfl rfl Tryd.func12 (by kernel_rfl) rfl #[.slice A0 l0.length c0, .string a3, .string a4] rfl (by (try simp only [List.map_toArray, List.map_cons, List.map_nil]); first | done | rfl | (simp only [List.length_drop, List.length_take]; rfl)) ?_; (with_reducible refine (acl_Which.calls _ _ l0 a3 a4 t238 _ ?side1 ?side2 ?side3 A36.out).mono ?_); (case side1 => repeat (first | exact (Kd.C_below HR0.out HB.out) | (with_reducible refine Kd.C_alloc ?_ _) | (with_reducible refine Kd.C_drewN ?_ _) | (with_reducible refine Kd.C_drew ?_))); (case side2 => exact HC0.out); (case side3 => exact HMET.out.below (by repeat (first | (with_reducible first | exact HB.out | apply below_alloc | apply pw_below_drewN | apply below_drew1 | refine below_set ?_ GE215.out) | exact HB.out))); rintro e w67 ⟨rfl, hb⟩; refine ⟨_, rfl, ?_⟩; have n0_ := Aside0.mk (Kd.R_below (by (with_reducible repeat (first | apply Kd.R_alloc | apply Kd.R_drewN | apply Kd.R_drew)); exact HO227.out) hb); have n1_ := Aside0.mk (Kd.R_below (by (with_reducible repeat (first | apply Kd.R_alloc | apply Kd.R_drewN | apply Kd.R_drew)); exact HO237.out) hb); have n2_ := Aside0.mk (blk_below (g := gb215) (o := .cells #[.bool a1_0, .string a1_1, .string a1_2] 28 (0, 0)) (by (with_reducible repeat (first | refine blk_drewN ?_ _ | refine blk_drew ?_ | refine blk_alloc ?_ _)); exact BK215.out) hb); have n3_ := Aside0.mk (below_step (by repeat (first | (with_reducible first | exact HB.out | apply below_alloc | apply pw_below_drewN | apply below_drew1 | refine below_set ?_ GE215.out) | exact HB.out)) hb); clear HO227; clear HO237; clear BK215; clear HB; have HO227 := n0_; have HO237 := n1_; have BK215 := n2_; have HB := n3_; clear n0_ n1_ n2_ n3_; (try clear hb); (try clear hb2); (try clear hk); (try clear hi); obtain ⟨Ao68, co68, eo68⟩ := Kd.R_slice HO237.out; subst eo68) | ((with_reducible refine gate_callee (f := 12) rfl ?_); refine goesL_ (some 88) rfl rfl Tryd.func12 (by kernel_rfl) rfl #[.slice Ao68 y235.length co68, .string a3, .string a4] rfl (by (try simp only [List.map_toArray, List.map_cons, List.map_nil]); first | done | rfl | (simp only [List.length_drop, List.length_take]; rfl)) ?_; (with_reducible refine (acl_Which.calls _ _ y235 a3 a4 t239 _ ?side1 ?side2 ?side3 A37.out).mono ?_); (case side1 => repeat (first | exact (Kd.R_reads' HO237.out).2.2 | (with_reducible refine Kd.C_alloc ?_ _) | (with_reducible refine Kd.C_drewN ?_ _) | (with_reducible refine Kd.C_drew ?_))); (case side2 => exact (Kd.R_reads' HO237.out).2.1); (case side3 => exact HMET.out.below (by repeat (first | (with_reducible first | exact HB.out | apply below_alloc | apply pw_below_drewN | apply below_drew1 | refine below_set ?_ GE215.out) | exact HB.out))); rintro e w69 ⟨rfl, hb⟩; refine ⟨_, rfl, ?_⟩; have n0_ := Aside0.mk (Kd.R_below (by (with_reducible repeat (first | apply Kd.R_alloc | apply Kd.R_drewN | apply Kd.R_drew)); exact HO227.out) hb); have n1_ := Aside0.mk (Kd.R_below (by (with_reducible repeat (first | apply Kd.R_alloc | apply Kd.R_drewN | apply Kd.R_drew)); exact HO237.out) hb); have n2_ := Aside0.mk (blk_below (g := gb215) (o := .cells #[.bool a1_0, .string a1_1, .string a1_2] 28 (0, 0)) (by (with_reducible repeat (first | refine blk_drewN ?_ _ | refine blk_drew ?_ | refine blk_alloc ?_ _)); exact BK215.out) hb); have n3_ := Aside0.mk (below_step (by repeat (first | (with_reducible first | exact HB.out | apply below_alloc | apply pw_below_drewN | apply below_drew1 | refine below_set ?_ GE215.out) | exact HB.out)) hb); clear HO227; clear HO237; clear BK215; clear HB; have HO227 := n0_; have HO237 := n1_; have BK215 := n2_; have HB := n3_; clear n0_ n1_ n2_ n3_; (try clear hb); (try clear hb2); (try clear hk); (try clear hi)))
                      go_ret
                      exact ⟨by first | rfl | (simp [errW_none, errW_some] <;> rfl) | (simp [*, errW_none, errW_some] <;> rfl), by repeat (first | (with_reducible first | exact HB.out | apply below_alloc | apply pw_below_drewN | apply below_drew1 | refine below_set ?_ GE215.out) | exact HB.out)⟩
                  · rw [if_neg c38] at H
                    have c38b0 : decide (a2 ≤ t238) = false := decide_eq_false c38
                    clear c38
                    by_cases c70 : t239 = t238
                    · rw [if_pos c70] at H
                      have c70b0 : (t239 == t238) = true := beq_iff_eq.mpr c70
                      have c70b1 : (t239 != t238) = false := bne_eq_false_iff_eq.mpr c70
                      clear c70
                      replace H := Option.bind_eq_some_iff.mp H
                      obtain ⟨t242, A710, H⟩ := H
                      replace H : ((acl_Allowed.f l0 a3 a4).bind fun t243 => (some (t242 == t243))) = some r := H
                      have A71 := Aside0.mk A710
                      clear A710
                      replace H := Option.bind_eq_some_iff.mp H
                      obtain ⟨t243, A720, H⟩ := H
                      replace H : (some (t242 == t243)) = some r := H
                      have A72 := Aside0.mk A720
                      clear A720
                      obtain rfl := Option.some.inj H
                      try go_wp2
                      have n0_ := Aside0.mk (blk_drew BK215.out)
                      have n1_ := Aside0.mk (below_drew1 HB.out)
                      clear BK215
                      clear HB
                      have BK215 := n0_
                      have HB := n1_
                      clear n0_ n1_
                      have q74 : (a2 : Int) ≤ ((l0.length : Int) : Int) := of_decide_eq_true (by first | (with_reducible assumption) | assumption)
                      obtain ⟨i074, hi074, _, hsz74, _⟩ := info_parts info28
                      have hroom74 : l0.length ≤ c0 := HC0.out
                      have hC74 : Kd.C k28 _ A0 l0.length l0 := HR0.out
                      have hcut74 := cut_to (P := Tryd.prog) 22 28 .i64 Tryd.underlying22 hi074 A0 l0.length c0 a2 (of_decide_eq_true (by first | (with_reducible assumption) | assumption)) q74 hroom74
                      have hr74 := Kd.C_take (m := (a2 : Int).toNat) hC74 (by omega)
                      have hy74 : y218.length = (a2 : Int).toNat := (by rw [Ny218.out, List.length_take]; omega)
                      rw [← Ny218.out] at hr74
                      rw [← hy74] at hcut74
                      have HR221 := Aside0.mk hr74
                      have HC221 := Aside0.mk (show y218.length ≤ c0 from by omega)
                      clear hr74 hC74 hroom74 hi074 hsz74
                      have KY74 := Aside0.mk hy74
                      clear hy74
                      replace q74 := eq_true q74
                      refine start_ (n := 8) (S := fun w' => w'.cell? ⟨gb215, 0, none⟩ = some (.bool a1_0) ∧ w'.cell? ⟨gb215, 1, none⟩ = some (.string a1_1) ∧ w'.cell? ⟨gb215, 2, none⟩ = some (.string a1_2)) (ds := []) #[false, false, false, false, false, false, false, false] (by kernel_rfl) rfl rfl ⟨(blk_cell BK215.out 0).trans rfl, (blk_cell BK215.out 1).trans rfl, (blk_cell BK215.out 2).trans rfl⟩ (fun hHeld => ?_); refine with_tabW wharfingerlaw11_AclVerb.tab5 wharfingerlaw11_AclVerb.bits5 (fun HT_ HW_ => ?_)
                      generalize wc.drew = w73 at BK215 HB HR221 hHeld ⊢
                      refine pure_ (i := 0) (N := some 69) (v := ?_) (a' := ?_) #[true, false, false, false, false, false, false, false] rfl rfl (any_of HT_.out (by kernel_rfl)) (fun _ _ _ h => h) (Or.inl ⟨by rfl, ?_⟩) ?_ ?_
                      rotate_left
                      · intro w'
                        go_simp
                        with_reducible rfl
                      rotate_left
                      · simp only [Act.put, List.setIfInBounds_toArray, List.set_cons_zero, List.set_cons_succ, i64_w, i32_w]
                        rfl
                      refine pure_ (i := 1) (N := some 70) (v := ?_) (a' := ?_) #[true, true, false, false, false, false, false, false] rfl rfl (any_of HT_.out (by kernel_rfl)) (fun _ _ _ h => h) (Or.inl ⟨by rfl, ?_⟩) ?_ ?_
                      rotate_left
                      · intro w'
                        go_simp
                        with_reducible rfl
                      rotate_left
                      · simp only [Act.put, List.setIfInBounds_toArray, List.set_cons_zero, List.set_cons_succ, i64_w, i32_w]
                        rfl
                      refine pure_ (i := 2) (N := some 71) (v := ?_) (a' := ?_) #[true, true, true, false, false, false, false, false] rfl rfl (any_of HT_.out (by kernel_rfl)) (fun _ _ _ h => h) (Or.inl ⟨by rfl, ?_⟩) ?_ ?_
                      rotate_left
                      · intro w'
                        go_simp
                        with_reducible rfl
                      rotate_left
                      · simp only [Act.put, List.setIfInBounds_toArray, List.set_cons_zero, List.set_cons_succ, i64_w, i32_w]
                        rfl
                      refine take_ (i := 4) (N := some 73) (v := ?_) (a' := ?_) #[true, true, true, false, true, false, false, false] rfl rfl (take_ofW HT_.out HW_.out (by kernel_rfl)) (fun _ _ _ h => h) (Or.inl ⟨by rfl, ?_⟩) hHeld ?_ ?_
                      rotate_left
                      · rintro w' ⟨s0, s1, s2⟩
                        go_simp
                        with_reducible rfl
                      rotate_left
                      · simp only [Act.put, List.setIfInBounds_toArray, List.set_cons_zero, List.set_cons_succ, i64_w, i32_w]
                        rfl
                      refine join_ (σ := Value × Value) 2 #[true, true, true, true, true, true, false, false] (fun s_ => [(72, s_.1), (74, s_.2)]) (fun s_ w' => (w'.cell? ⟨gb215, 0, none⟩ = some (.bool a1_0) ∧ w'.cell? ⟨gb215, 1, none⟩ = some (.string a1_1) ∧ w'.cell? ⟨gb215, 2, none⟩ = some (.string a1_2)) ∧ (Kd.R k28 28 w' w.heap.size (fun k_ => some k_ ≠ (s_.2 : Value).ownBlock ∧ k_ ≠ gb215) s_.1 y222) ∧ (Kd.R k28 28 w' w.heap.size (fun k_ => some k_ ≠ (s_.1 : Value).ownBlock ∧ k_ ≠ gb215) s_.2 y225) ∧ (w'.heap[gb215]? = some (.cells #[.bool a1_0, .string a1_1, .string a1_2] 28 (0, 0))) ∧ (Below w.heap.size w w')) ?_ ?_
                      rotate_left
                      · intro hCont
                        refine two_ (i := 3) (j := 5) (Ni := some 72) (Nj := some 74) #[true, true, true, true, true, false, false, false] #[true, true, true, false, true, true, false, false] rfl rfl rfl rfl (two_of HT_.out (by kernel_rfl)) (by decide) (by decide) (fun K hK => ?_) (fun K hK => ?_)
                        · skip
                          refine Kd.R_append_rows_step k28 (w0 := w) w.heap.size rfl (.const (.slice none 0 0)) (.tmp 71) 22 28 (.agg #[(.bool false), (.string ⟨#[]⟩), (.string ⟨#[]⟩)]) 40 rfl Tryd.underlying22 info28 rfl (by decide) (by omega) (.slice none 0 0) ([] : List (S28)) y218 _ _ _ (fun k_ => k_ ≠ gb215) (fun _ => False) rfl rfl ?aO ?aR (fun _ _ h => h) (fun _ h => h.elim) ?aF ?aB ?aS ?aL ?_
                          (case aR => repeat (first | exact (Kd.C_below HR221.out HB.out) | (with_reducible refine Kd.C_alloc ?_ _) | (with_reducible refine Kd.C_drewN ?_ _) | (with_reducible refine Kd.C_drew ?_)))
                          (case aB => exact (by repeat (first | (with_reducible first | exact HB.out | apply below_alloc | apply pw_below_drewN | apply below_drew1 | refine below_set ?_ GE215.out) | exact HB.out)))
                          (case aF => exact (fun k_ hk => Kd.freshB (g := gb215) (o := .cells #[.bool a1_0, .string a1_1, .string a1_2] 28 (0, 0)) (by (with_reducible repeat (first | refine blk_drewN ?_ _ | refine blk_drew ?_ | refine blk_alloc ?_ _)); exact BK215.out) k_ hk))
                          (case aO => exact ((Kd.R_nil _ _ _ _ (fun k_ => k_ ≠ gb215))))
                          (case aS => exact (below_size (by repeat (first | (with_reducible first | exact HB.out | apply below_alloc | apply pw_below_drewN | apply below_drew1 | refine below_set ?_ GE215.out) | exact HB.out))))
                          (case aL => have := LMc31.out; omega)
                          intro v223 w75 ho hb hg hat
                          rw [← Ny222.out] at ho
                          have n0_ := Aside0.mk (blk_grown (g := gb215) (o := .cells #[.bool a1_0, .string a1_1, .string a1_2] 28 (0, 0)) (by (with_reducible repeat (first | refine blk_drewN ?_ _ | refine blk_drew ?_ | refine blk_alloc ?_ _)); exact BK215.out) hg (by simp [Value.ownBlock]))
                          have n1_ := Aside0.mk (hb)
                          have n2_ := Aside0.mk (ho)
                          clear BK215
                          clear HB
                          have BK215 := n0_
                          have HB := n1_
                          have HO224 := n2_
                          clear n0_ n1_ n2_
                          clear ho hb hg hat
                          refine hK.out _ _ ⟨(blk_cell BK215.out 0).trans rfl, (blk_cell BK215.out 1).trans rfl, (blk_cell BK215.out 2).trans rfl⟩ (fun hHeld => ?_)
                          clear hK K
                          refine norm_ (a' := ?_) ?_ ?_
                          rotate_left
                          · show Act.put _ (some 72) _ = _
                            simp only [Act.put, List.setIfInBounds_toArray, List.set_cons_zero, List.set_cons_succ, i64_w, i32_w]
                            rfl
                          refine one_ (i := 5) (N := some 74) #[true, true, true, true, true, true, false, false] rfl rfl (one_of HT_.out (by kernel_rfl)) (by decide) (fun K hK => ?_)
                          refine Kd.R_lit_step k28 _ 28 ?hg (N := 74) ?hd (xs := ([(⟨a1_0, a1_1, a1_2⟩ : S28)] : List (S28))) (inner := [.bool a1_0, .string a1_1, .string a1_2]) (ok := fun _ => True) (okp := fun _ => True) ?hr ?hp (fun _ hk => hk) trivial (Below.refl _ _) (Nat.le_refl _) (by simp) ?_; (case hd => rfl); (case hg => rfl); (case hr => first | (go_simp; done) | (go_simp; rfl)); (case hp => exact (Reps.c3 (show Kd.M k28 _ _ _ (⟨a1_0, a1_1, a1_2⟩ : S28) [.bool a1_0, .string a1_1, .string a1_2] from (k28_mkM _ _ _ (⟨a1_0, a1_1, a1_2⟩ : S28) )) (Reps.none _ _)))
                          intro v226 w76 ho77 hb hg_ hnew_
                          clear hg_ hnew_
                          (first | rw [← Ny225.out] at ho77 | (simp only [Int.reduceToNat] at ho77; rw [← Ny225.out] at ho77))
                          have n0_ := Aside0.mk (Kd.R_elder' (by (with_reducible repeat (first | apply Kd.R_alloc | apply Kd.R_drewN | apply Kd.R_drew)); exact HO224.out) (Kd.R_base ho77) hb)
                          have n1_ := Aside0.mk (Kd.R_lower (Kd.R_newB (Kd.R_new' ho77 (Kd.R_lt (by (with_reducible repeat (first | apply Kd.R_alloc | apply Kd.R_drewN | apply Kd.R_drew)); exact HO224.out))) (g := gb215) (o := .cells #[.bool a1_0, .string a1_1, .string a1_2] 28 (0, 0)) (by (with_reducible repeat (first | refine blk_drewN ?_ _ | refine blk_drew ?_ | refine blk_alloc ?_ _)); exact BK215.out)) (below_size (by repeat (first | (with_reducible first | exact HB.out | apply below_alloc | apply pw_below_drewN | apply below_drew1 | refine below_set ?_ GE215.out) | exact HB.out))))
                          have n2_ := Aside0.mk (blk_below (g := gb215) (o := .cells #[.bool a1_0, .string a1_1, .string a1_2] 28 (0, 0)) (by (with_reducible repeat (first | refine blk_drewN ?_ _ | refine blk_drew ?_ | refine blk_alloc ?_ _)); exact BK215.out) hb)
                          have n3_ := Aside0.mk (below_step (by repeat (first | (with_reducible first | exact HB.out | apply below_alloc | apply pw_below_drewN | apply below_drew1 | refine below_set ?_ GE215.out) | exact HB.out)) hb)
                          clear HO224
                          clear BK215
                          clear HB
                          have HO224 := n0_
                          have HO227 := n1_
                          have BK215 := n2_
                          have HB := n3_
                          clear n0_ n1_ n2_ n3_
                          clear hb ho77
                          refine hK.out _ _ ⟨(blk_cell BK215.out 0).trans rfl, (blk_cell BK215.out 1).trans rfl, (blk_cell BK215.out 2).trans rfl⟩ (fun hHeld => ?_)
                          clear hK K
                          refine norm_ (a' := ?_) ?_ ?_
                          rotate_left
                          · show Act.put _ (some 74) _ = _
                            simp only [Act.put, List.setIfInBounds_toArray, List.set_cons_zero, List.set_cons_succ, i64_w, i32_w]
                            rfl
                          exact norm_ (by simp only [putAll, Act.put, List.setIfInBounds_toArray, List.set_cons_zero, List.set_cons_succ]) (hCont (v223, v226) _ ⟨hHeld, (by (with_reducible repeat (first | apply Kd.R_alloc | apply Kd.R_drewN | apply Kd.R_drew)); exact Kd.R_mono HO224.out (fun _ hk => ⟨hk.2, hk.1⟩)), (by (with_reducible repeat (first | apply Kd.R_alloc | apply Kd.R_drewN | apply Kd.R_drew)); exact Kd.R_mono HO227.out (fun _ hk => ⟨hk.1.2, hk.2⟩)), (by (with_reducible repeat (first | refine blk_drewN ?_ _ | refine blk_drew ?_ | refine blk_alloc ?_ _)); exact BK215.out), (by repeat (first | (with_reducible first | exact HB.out | apply below_alloc | apply pw_below_drewN | apply below_drew1 | refine below_set ?_ GE215.out) | exact HB.out))⟩)
                        · skip
                          refine Kd.R_lit_step k28 _ 28 ?hg (N := 74) ?hd (xs := ([(⟨a1_0, a1_1, a1_2⟩ : S28)] : List (S28))) (inner := [.bool a1_0, .string a1_1, .string a1_2]) (ok := fun _ => True) (okp := fun _ => True) ?hr ?hp (fun _ hk => hk) trivial (Below.refl _ _) (Nat.le_refl _) (by simp) ?_; (case hd => rfl); (case hg => rfl); (case hr => first | (go_simp; done) | (go_simp; rfl)); (case hp => exact (Reps.c3 (show Kd.M k28 _ _ _ (⟨a1_0, a1_1, a1_2⟩ : S28) [.bool a1_0, .string a1_1, .string a1_2] from (k28_mkM _ _ _ (⟨a1_0, a1_1, a1_2⟩ : S28) )) (Reps.none _ _)))
                          intro v226 w75 ho76 hb hg_ hnew_
                          clear hg_ hnew_
                          (first | rw [← Ny225.out] at ho76 | (simp only [Int.reduceToNat] at ho76; rw [← Ny225.out] at ho76))
                          have n0_ := Aside0.mk (Kd.R_lower (Kd.R_newB ho76 (g := gb215) (o := .cells #[.bool a1_0, .string a1_1, .string a1_2] 28 (0, 0)) (by (with_reducible repeat (first | refine blk_drewN ?_ _ | refine blk_drew ?_ | refine blk_alloc ?_ _)); exact BK215.out)) (below_size (by repeat (first | (with_reducible first | exact HB.out | apply below_alloc | apply pw_below_drewN | apply below_drew1 | refine below_set ?_ GE215.out) | exact HB.out))))
                          have n1_ := Aside0.mk (blk_below (g := gb215) (o := .cells #[.bool a1_0, .string a1_1, .string a1_2] 28 (0, 0)) (by (with_reducible repeat (first | refine blk_drewN ?_ _ | refine blk_drew ?_ | refine blk_alloc ?_ _)); exact BK215.out) hb)
                          have n2_ := Aside0.mk (below_step (by repeat (first | (with_reducible first | exact HB.out | apply below_alloc | apply pw_below_drewN | apply below_drew1 | refine below_set ?_ GE215.out) | exact HB.out)) hb)
                          clear BK215
                          clear HB
                          have HO227 := n0_
                          have BK215 := n1_
                          have HB := n2_
                          clear n0_ n1_ n2_
                          clear hb ho76
                          refine hK.out _ _ ⟨(blk_cell BK215.out 0).trans rfl, (blk_cell BK215.out 1).trans rfl, (blk_cell BK215.out 2).trans rfl⟩ (fun hHeld => ?_)
                          clear hK K
                          refine norm_ (a' := ?_) ?_ ?_
                          rotate_left
                          · show Act.put _ (some 74) _ = _
                            simp only [Act.put, List.setIfInBounds_toArray, List.set_cons_zero, List.set_cons_succ, i64_w, i32_w]
                            rfl
                          refine one_ (i := 3) (N := some 72) #[true, true, true, true, true, true, false, false] rfl rfl (one_of HT_.out (by kernel_rfl)) (by decide) (fun K hK => ?_)
                          refine Kd.R_append_rows_step k28 (w0 := w) w.heap.size rfl (.const (.slice none 0 0)) (.tmp 71) 22 28 (.agg #[(.bool false), (.string ⟨#[]⟩), (.string ⟨#[]⟩)]) 40 rfl Tryd.underlying22 info28 rfl (by decide) (by omega) (.slice none 0 0) ([] : List (S28)) y218 _ _ _ (fun k_ => some k_ ≠ (v226 : Value).ownBlock ∧ k_ ≠ gb215) (fun _ => False) rfl rfl ?aO ?aR (fun _ _ h => h) (fun _ h => h.elim) ?aF ?aB ?aS ?aL ?_
                          (case aR => repeat (first | exact (Kd.C_below HR221.out HB.out) | (with_reducible refine Kd.C_alloc ?_ _) | (with_reducible refine Kd.C_drewN ?_ _) | (with_reducible refine Kd.C_drew ?_)))
                          (case aB => exact (by repeat (first | (with_reducible first | exact HB.out | apply below_alloc | apply pw_below_drewN | apply below_drew1 | refine below_set ?_ GE215.out) | exact HB.out)))
                          (case aF => exact (fun k_ hk => ⟨Kd.fresh' (Kd.R_lt (by (with_reducible repeat (first | apply Kd.R_alloc | apply Kd.R_drewN | apply Kd.R_drew)); exact HO227.out)) k_ hk, Kd.freshB (g := gb215) (o := .cells #[.bool a1_0, .string a1_1, .string a1_2] 28 (0, 0)) (by (with_reducible repeat (first | refine blk_drewN ?_ _ | refine blk_drew ?_ | refine blk_alloc ?_ _)); exact BK215.out) k_ hk⟩))
                          (case aO => exact ((Kd.R_nil _ _ _ _ (fun k_ => some k_ ≠ (v226 : Value).ownBlock ∧ k_ ≠ gb215))))
                          (case aS => exact (below_size (by repeat (first | (with_reducible first | exact HB.out | apply below_alloc | apply pw_below_drewN | apply below_drew1 | refine below_set ?_ GE215.out) | exact HB.out))))
                          (case aL => have := LMc31.out; omega)
                          intro v223 w77 ho hb hg hat
                          rw [← Ny222.out] at ho
                          have n0_ := Aside0.mk (blk_grown (g := gb215) (o := .cells #[.bool a1_0, .string a1_1, .string a1_2] 28 (0, 0)) (by (with_reducible repeat (first | refine blk_drewN ?_ _ | refine blk_drew ?_ | refine blk_alloc ?_ _)); exact BK215.out) hg (by simp [Value.ownBlock]))
                          have n1_ := Aside0.mk (Kd.R_after (Kd.R_apart_nil (by (with_reducible repeat (first | apply Kd.R_alloc | apply Kd.R_drewN | apply Kd.R_drew)); exact HO227.out)) hg hat)
                          have n2_ := Aside0.mk (hb)
                          have n3_ := Aside0.mk (ho)
                          clear BK215
                          clear HO227
                          clear HB
                          have BK215 := n0_
                          have HO227 := n1_
                          have HB := n2_
                          have HO224 := n3_
                          clear n0_ n1_ n2_ n3_
                          clear ho hb hg hat
                          refine hK.out _ _ ⟨(blk_cell BK215.out 0).trans rfl, (blk_cell BK215.out 1).trans rfl, (blk_cell BK215.out 2).trans rfl⟩ (fun hHeld => ?_)
                          clear hK K
                          refine norm_ (a' := ?_) ?_ ?_
                          rotate_left
                          · show Act.put _ (some 72) _ = _
                            simp only [Act.put, List.setIfInBounds_toArray, List.set_cons_zero, List.set_cons_succ, i64_w, i32_w]
                            rfl
                          exact norm_ (by simp only [putAll, Act.put, List.setIfInBounds_toArray, List.set_cons_zero, List.set_cons_succ]) (hCont (v223, v226) _ ⟨hHeld, (by (with_reducible repeat (first | apply Kd.R_alloc | apply Kd.R_drewN | apply Kd.R_drew)); exact HO224.out), (by (with_reducible repeat (first | apply Kd.R_alloc | apply Kd.R_drewN | apply Kd.R_drew)); exact Kd.R_mono HO227.out (fun _ hk => ⟨hk.2, hk.1.2⟩)), (by (with_reducible repeat (first | refine blk_drewN ?_ _ | refine blk_drew ?_ | refine blk_alloc ?_ _)); exact BK215.out), (by repeat (first | (with_reducible first | exact HB.out | apply below_alloc | apply pw_below_drewN | apply below_drew1 | refine below_set ?_ GE215.out) | exact HB.out))⟩)
                      rintro ⟨v223, v226⟩ w78 ⟨hS_, h0_, h1_, h2_, h3_⟩
                      have n0_ : Aside0 (Kd.R k28 28 w78 w.heap.size (fun k_ => some k_ ≠ (v226 : Value).ownBlock ∧ k_ ≠ gb215) v223 y222) := ⟨h0_⟩
                      have n1_ : Aside0 (Kd.R k28 28 w78 w.heap.size (fun k_ => some k_ ≠ (v223 : Value).ownBlock ∧ k_ ≠ gb215) v226 y225) := ⟨h1_⟩
                      have n2_ : Aside0 (w78.heap[gb215]? = some (.cells #[.bool a1_0, .string a1_1, .string a1_2] 28 (0, 0))) := ⟨h2_⟩
                      have n3_ : Aside0 (Below w.heap.size w w78) := ⟨h3_⟩
                      clear BK215
                      clear HB
                      clear h0_ h1_ h2_ h3_
                      have HO224 := n0_
                      have HO227 := n1_
                      have BK215 := n2_
                      have HB := n3_
                      clear n0_ n1_ n2_ n3_
                      have hHeld : w78.cell? ⟨gb215, 0, none⟩ = some (.bool a1_0) ∧ w78.cell? ⟨gb215, 1, none⟩ = some (.string a1_1) ∧ w78.cell? ⟨gb215, 2, none⟩ = some (.string a1_2) := hS_
                      obtain ⟨Ao80, co80, eo80⟩ := Kd.R_slice HO227.out
                      (first | subst eo80 | (injection eo80 with f1_ f2_ f3_; have f4_ := f1_.symm; have f5_ := f3_.symm; clear f1_ f2_ f3_; subst f4_; subst f5_))
                      refine norm_ (a' := ?_) ?_ ?_
                      rotate_left
                      · simp only [putAll, Act.put, List.setIfInBounds_toArray, List.set_cons_zero, List.set_cons_succ]
                        rfl
                      refine one_ (i := 6) (N := some 75) #[true, true, true, true, true, true, true, false] rfl rfl (one_of HT_.out (by kernel_rfl)) (by decide) (fun K hK => ?_)
                      refine Kd.R_append_rows_step k28 (w0 := w) w.heap.size (by rfl) (.tmp 72) (.tmp 74) 22 28 (.agg #[(.bool false), (.string ⟨#[]⟩), (.string ⟨#[]⟩)]) 40 rfl Tryd.underlying22 info28 rfl (by decide) (by omega) v223 y222 y225 _ _ _ (fun k_ => some k_ ≠ (.slice Ao80 y225.length co80 : Value).ownBlock ∧ k_ ≠ gb215) (fun _ => False) rfl rfl ?aO ?aR (fun _ _ h => h) (fun _ h => h.elim) ?aF ?aB ?aS ?aL ?_
                      (case aR => repeat (first | exact (Kd.R_reads' HO227.out).2.2 | (with_reducible refine Kd.C_alloc ?_ _) | (with_reducible refine Kd.C_drewN ?_ _) | (with_reducible refine Kd.C_drew ?_)))
                      (case aB => exact (by repeat (first | (with_reducible first | exact HB.out | apply below_alloc | apply pw_below_drewN | apply below_drew1 | refine below_set ?_ GE215.out) | exact HB.out)))
                      (case aF => exact (fun k_ hk => ⟨Kd.fresh' (Kd.R_lt (by (with_reducible repeat (first | apply Kd.R_alloc | apply Kd.R_drewN | apply Kd.R_drew)); exact HO227.out)) k_ hk, Kd.freshB (g := gb215) (o := .cells #[.bool a1_0, .string a1_1, .string a1_2] 28 (0, 0)) (by (with_reducible repeat (first | refine blk_drewN ?_ _ | refine blk_drew ?_ | refine blk_alloc ?_ _)); exact BK215.out) k_ hk⟩))
                      (case aO => exact (by (with_reducible repeat (first | apply Kd.R_alloc | apply Kd.R_drewN | apply Kd.R_drew)); exact HO224.out))
                      (case aS => exact (below_size (by repeat (first | (with_reducible first | exact HB.out | apply below_alloc | apply pw_below_drewN | apply below_drew1 | refine below_set ?_ GE215.out) | exact HB.out))))
                      (case aL => have := LMc32.out; omega)
                      intro v229 w79 ho hb hg hat
                      rw [← Ny228.out] at ho
                      have n0_ := Aside0.mk (blk_grown (g := gb215) (o := .cells #[.bool a1_0, .string a1_1, .string a1_2] 28 (0, 0)) (by (with_reducible repeat (first | refine blk_drewN ?_ _ | refine blk_drew ?_ | refine blk_alloc ?_ _)); exact BK215.out) hg (Kd.R_away HO224.out (fun _ hk => hk.2)))
                      have n1_ := Aside0.mk (Kd.R_after (ok := (fun k_ => k_ ≠ gb215)) (by (with_reducible repeat (first | apply Kd.R_alloc | apply Kd.R_drewN | apply Kd.R_drew)); exact Kd.R_mono HO227.out (fun _ hk => ⟨hk.2, hk.1⟩)) hg hat)
                      have n2_ := Aside0.mk (hb)
                      have n3_ := Aside0.mk (ho)
                      clear BK215
                      clear HO227
                      clear HB
                      clear HO224
                      have BK215 := n0_
                      have HO227 := n1_
                      have HB := n2_
                      have HO230 := n3_
                      clear n0_ n1_ n2_ n3_
                      clear ho hb hg hat
                      refine hK.out _ _ ⟨(blk_cell BK215.out 0).trans rfl, (blk_cell BK215.out 1).trans rfl, (blk_cell BK215.out 2).trans rfl⟩ (fun hHeld => ?_)
                      clear hK K
                      refine norm_ (a' := ?_) ?_ ?_
                      rotate_left
                      · show Act.put _ (some 75) _ = _
                        simp only [Act.put, List.setIfInBounds_toArray, List.set_cons_zero, List.set_cons_succ, i64_w, i32_w]
                        rfl
                      refine pure_ (i := 7) (N := some 13) (v := ?_) (a' := ?_) #[true, true, true, true, true, true, true, true] rfl rfl (any_of HT_.out (by kernel_rfl)) (fun _ _ _ h => h) (Or.inl ⟨by rfl, ?_⟩) ?_ ?_
                      rotate_left
                      · intro w'
                        go_simp
                        with_reducible rfl
                      rotate_left
                      · simp only [Act.put, List.setIfInBounds_toArray, List.set_cons_zero, List.set_cons_succ, i64_w, i32_w]
                        rfl
                      refine done_ (done_of HT_.out (by kernel_rfl)) ?_
                      have q81 : (a2 : Int) ≤ ((l0.length : Int) : Int) := of_decide_eq_true (by first | (with_reducible assumption) | assumption)
                      obtain ⟨i081, hi081, _, hsz81, _⟩ := info_parts info28
                      have hroom81 : l0.length ≤ c0 := HC0.out
                      have hC81 : Kd.C k28 _ A0 l0.length l0 := HR0.out
                      have q081 : (0 : Int) ≤ (a2 : Int) := of_decide_eq_true (by first | (with_reducible assumption) | assumption)
                      have hcut81 := cut_from (P := Tryd.prog) 22 28 .i64 Tryd.underlying22 hi081 3 hsz81 A0 l0.length c0 a2 q081 q81
                      have hr81 := Kd.C_drop (m := (a2 : Int).toNat) (c := c0) hC81 (by omega) hroom81
                      obtain ⟨A81, hA81⟩ : ∃ A1, A1 = (if c0 = (a2 : Int).toNat then A0 else (A0 : Option Addr).map (·.add ((a2 : Int).toNat * 3))) := ⟨_, rfl⟩
                      obtain ⟨c81, hc81⟩ : ∃ c1, c1 = c0 - (a2 : Int).toNat := ⟨_, rfl⟩
                      have hy81 : y231.length = l0.length - (a2 : Int).toNat := (by rw [Ny231.out, List.length_drop] <;> omega)
                      rw [show (l0).drop (a2 : Int).toNat = y231 from Ny231.out.symm] at hr81
                      replace hr81 : Kd.C k28 _ A81 y231.length y231 := (by rw [hA81]; exact hr81)
                      rw [← hy81, ← hA81, ← hc81] at hcut81
                      have HR234 := Aside0.mk hr81
                      have HC234 := Aside0.mk (show y231.length ≤ c81 from by rw [hy81, hc81]; exact Nat.sub_le_sub_right hroom81 _)
                      clear hr81 hC81 hroom81 hi081 hsz81 hc81
                      have KY81 := Aside0.mk hy81
                      have KA81 := Aside0.mk hA81
                      clear hy81 hA81
                      replace q81 := eq_true q81
                      try go_wp2_with (first | ((with_reducible refine gate_builtin (b := .append) (xs := #[.tmp 76, .tmp 79]) rfl ?_); (try (refine gate_guard (by rfl) ?_; dsimp only)); at_builtin; refine Kd.R_append_rows k28 (w0 := w) w.heap.size rfl (.tmp 76) (.tmp 79) 22 28 (.agg #[(.bool false), (.string ⟨#[]⟩), (.string ⟨#[]⟩)]) 40 rfl Tryd.underlying22 info28 rfl (by decide) (by omega) v229 y228 y231 _ _ _ (fun k_ => some k_ ≠ (.slice Ao80 y225.length co80 : Value).ownBlock ∧ k_ ≠ gb215) (fun _ => False) rfl rfl ?aO ?aR (fun _ _ h => h) (fun _ h => h.elim) ?aF ?aB ?aS ?aL ?_; (case aR => repeat (first | exact (Kd.C_below HR234.out HB.out) | (with_reducible refine Kd.C_alloc ?_ _) | (with_reducible refine Kd.C_drewN ?_ _) | (with_reducible refine Kd.C_drew ?_))); (case aB => exact (by repeat (first | (with_reducible first | exact HB.out | apply below_alloc | apply pw_below_drewN | apply below_drew1 | refine below_set ?_ GE215.out) | exact HB.out))); (case aF => exact (fun k_ hk => ⟨Kd.fresh' (Kd.R_lt (by (with_reducible repeat (first | apply Kd.R_alloc | apply Kd.R_drewN | apply Kd.R_drew)); exact HO227.out)) k_ hk, Kd.freshB (g := gb215) (o := .cells #[.bool a1_0, .string a1_1, .string a1_2] 28 (0, 0)) (by (with_reducible repeat (first | refine blk_drewN ?_ _ | refine blk_drew ?_ | refine blk_alloc ?_ _)); exact BK215.out) k_ hk⟩)); (case aO => exact (by (with_reducible repeat (first | apply Kd.R_alloc | apply Kd.R_drewN | apply Kd.R_drew)); exact HO230.out)); (case aS => exact (below_size (by repeat (first | (with_reducible first | exact HB.out | apply below_alloc | apply pw_below_drewN | apply below_drew1 | refine below_set ?_ GE215.out) | exact HB.out)))); (case aL => have := LMc35.out; omega); intro v236 w82 ho hb hg hat; rw [← Ny235.out] at ho; have n0_ := Aside0.mk (blk_grown (g := gb215) (o := .cells #[.bool a1_0, .string a1_1, .string a1_2] 28 (0, 0)) (by (with_reducible repeat (first | refine blk_drewN ?_ _ | refine blk_drew ?_ | refine blk_alloc ?_ _)); exact BK215.out) hg (Kd.R_away HO230.out (fun _ hk => hk.2))); have n1_ := Aside0.mk (Kd.R_after (ok := (fun k_ => k_ ≠ gb215)) (by (with_reducible repeat (first | apply Kd.R_alloc | apply Kd.R_drewN | apply Kd.R_drew)); exact HO227.out) hg hat); have n2_ := Aside0.mk (hb); have n3_ := Aside0.mk (ho); clear BK215; clear HO227; clear HB; clear HO230; have BK215 := n0_; have HO227 := n1_; have HB := n2_; have HO237 := n3_; clear n0_ n1_ n2_ n3_; clear ho hb hg hat) | ((with_reducible refine gate_callee (f := 12) rfl ?_); refine goesL_ (some 84) rfl rfl Tryd.func12 (by kernel_rfl) rfl #[.slice A0 l0.length c0, .string a3, .string a4] rfl (by (try simp only [List.map_toArray, List.map_cons, List.map_nil]); first | done | rfl | (simp only [List.length_drop, List.length_take]; rfl)) ?_; (with_reducible refine (acl_Which.calls _ _ l0 a3 a4 t238 _ ?side1 ?side2 ?side3 A36.out).mono ?_); (case side1 => repeat (first | exact (Kd.C_below HR0.out HB.out) | (with_reducible refine Kd.C_alloc ?_ _) | (with_reducible refine Kd.C_drewN ?_ _) | (with_reducible refine Kd.C_drew ?_))); (case side2 => exact HC0.out); (case side3 => exact HMET.out.below (by repeat (first | (with_reducible first | exact HB.out | apply below_alloc | apply pw_below_drewN | apply below_drew1 | refine below_set ?_ GE215.out) | exact HB.out))); rintro e w83 ⟨rfl, hb⟩; refine ⟨_, rfl, ?_⟩; have n0_ := Aside0.mk (Kd.R_below (by (with_reducible repeat (first | apply Kd.R_alloc | apply Kd.R_drewN | apply Kd.R_drew)); exact HO227.out) hb); have n1_ := Aside0.mk (Kd.R_below (by (with_reducible repeat (first | apply Kd.R_alloc | apply Kd.R_drewN | apply Kd.R_drew)); exact HO237.out) hb); have n2_ := Aside0.mk (blk_below (g := gb215) (o := .cells #[.bool a1_0, .string a1_1, .string a1_2] 28 (0, 0)) (by (with_reducible repeat (first | refine blk_drewN ?_ _ | refine blk_drew ?_ | refine blk_alloc ?_ _)); exact BK215.out) hb); have n3_ := Aside0.mk (below_step (by repeat (first | (with_reducible first | exact HB.out | apply below_alloc | apply pw_below_drewN | apply below_drew1 | refine below_set ?_ GE215.out) | exact HB.out)) hb); clear HO227; clear HO237; clear BK215; clear HB; have HO227 := n0_; have HO237 := n1_; have BK215 := n2_; have HB := n3_; clear n0_ n1_ n2_ n3_; (try clear hb); (try clear hb2); (try clear hk); (try clear hi); obtain ⟨Ao84, co84, eo84⟩ := Kd.R_slice HO237.out; subst eo84) | ((with_reducible refine gate_callee (f := 12) rfl ?_); refine goesL_ (some 88) rfl rfl Tryd.func12 (by kernel_rfl) rfl #[.slice Ao84 y235.length co84, .string a3, .string a4] rfl (by (try simp only [List.map_toArray, List.map_cons, List.map_nil]); first | done | rfl | (simp only [List.length_drop, List.length_take]; rfl)) ?_; (with_reducible refine (acl_Which.calls _ _ y235 a3 a4 t239 _ ?side1 ?side2 ?side3 A37.out).mono ?_); (case side1 => repeat (first | exact (Kd.R_reads' HO237.out).2.2 | (with_reducible refine Kd.C_alloc ?_ _) | (with_reducible refine Kd.C_drewN ?_ _) | (with_reducible refine Kd.C_drew ?_))); (case side2 => exact (Kd.R_reads' HO237.out).2.1); (case side3 => exact HMET.out.below (by repeat (first | (with_reducible first | exact HB.out | apply below_alloc | apply pw_below_drewN | apply below_drew1 | refine below_set ?_ GE215.out) | exact HB.out))); rintro e w85 ⟨rfl, hb⟩; refine ⟨_, rfl, ?_⟩; have n0_ := Aside0.mk (Kd.R_below (by (with_reducible repeat (first | apply Kd.R_alloc | apply Kd.R_drewN | apply Kd.R_drew)); exact HO227.out) hb); have n1_ := Aside0.mk (Kd.R_below (by (with_reducible repeat (first | apply Kd.R_alloc | apply Kd.R_drewN | apply Kd.R_drew)); exact HO237.out) hb); have n2_ := Aside0.mk (blk_below (g := gb215) (o := .cells #[.bool a1_0, .string a1_1, .string a1_2] 28 (0, 0)) (by (with_reducible repeat (first | refine blk_drewN ?_ _ | refine blk_drew ?_ | refine blk_alloc ?_ _)); exact BK215.out) hb); have n3_ := Aside0.mk (below_step (by repeat (first | (with_reducible first | exact HB.out | apply below_alloc | apply pw_below_drewN | apply below_drew1 | refine below_set ?_ GE215.out) | exact HB.out)) hb); clear HO227; clear HO237; clear BK215; clear HB; have HO227 := n0_; have HO237 := n1_; have BK215 := n2_; have HB := n3_; clear n0_ n1_ n2_ n3_; (try clear hb); (try clear hb2); (try clear hk); (try clear hi)) | (go_at_call 14; (with_reducible refine (acl_Allowed.calls _ _ y235 a3 a4 t242 _ ?side1 ?side2 ?side3 A71.out).mono ?_); (case side1 => repeat (first | exact (Kd.R_reads' HO237.out).2.2 | (with_reducible refine Kd.C_alloc ?_ _) | (with_reducible refine Kd.C_drewN ?_ _) | (with_reducible refine Kd.C_drew ?_))); (case side2 => exact (Kd.R_reads' HO237.out).2.1); (case side3 => exact HMET.out.below (by repeat (first | (with_reducible first | exact HB.out | apply below_alloc | apply pw_below_drewN | apply below_drew1 | refine below_set ?_ GE215.out) | exact HB.out))); rintro e w86 ⟨rfl, hb⟩; have n0_ := Aside0.mk (Kd.R_below (by (with_reducible repeat (first | apply Kd.R_alloc | apply Kd.R_drewN | apply Kd.R_drew)); exact HO227.out) hb); have n1_ := Aside0.mk (Kd.R_below (by (with_reducible repeat (first | apply Kd.R_alloc | apply Kd.R_drewN | apply Kd.R_drew)); exact HO237.out) hb); have n2_ := Aside0.mk (blk_below (g := gb215) (o := .cells #[.bool a1_0, .string a1_1, .string a1_2] 28 (0, 0)) (by (with_reducible repeat (first | refine blk_drewN ?_ _ | refine blk_drew ?_ | refine blk_alloc ?_ _)); exact BK215.out) hb); have n3_ := Aside0.mk (below_step (by repeat (first | (with_reducible first | exact HB.out | apply below_alloc | apply pw_below_drewN | apply below_drew1 | refine below_set ?_ GE215.out) | exact HB.out)) hb); clear HO227; clear HO237; clear BK215; clear HB; have HO227 := n0_; have HO237 := n1_; have BK215 := n2_; have HB := n3_; clear n0_ n1_ n2_ n3_; (try clear hb); (try clear hb2); (try clear hk); (try clear hi)) | (go_at_call 14; (with_reducible refine (acl_Allowed.calls _ _ l0 a3 a4 t243 _ ?side1 ?side2 ?side3 A72.out).mono ?_); (case side1 => repeat (first | exact (Kd.C_below HR0.out HB.out) | (with_reducible refine Kd.C_alloc ?_ _) | (with_reducible refine Kd.C_drewN ?_ _) | (with_reducible refine Kd.C_drew ?_))); (case side2 => exact HC0.out); (case side3 => exact HMET.out.below (by repeat (first | (with_reducible first | exact HB.out | apply below_alloc | apply pw_below_drewN | apply below_drew1 | refine below_set ?_ GE215.out) | exact HB.out))); rintro e w87 ⟨rfl, hb⟩; have n0_ := Aside0.mk (Kd.R_below (by (with_reducible repeat (first | apply Kd.R_alloc | apply Kd.R_drewN | apply Kd.R_drew)); exact HO227.out) hb); have n1_ := Aside0.mk (Kd.R_below (by (with_reducible repeat (first | apply Kd.R_alloc | apply Kd.R_drewN | apply Kd.R_drew)); exact HO237.out) hb); have n2_ := Aside0.mk (blk_below (g := gb215) (o := .cells #[.bool a1_0, .string a1_1, .string a1_2] 28 (0, 0)) (by (with_reducible repeat (first | refine blk_drewN ?_ _ | refine blk_drew ?_ | refine blk_alloc ?_ _)); exact BK215.out) hb); have n3_ := Aside0.mk (below_step (by repeat (first | (with_reducible first | exact HB.out | apply below_alloc | apply pw_below_drewN | apply below_drew1 | refine below_set ?_ GE215.out) | exact HB.out)) hb); clear HO227; clear HO237; clear BK215; clear HB; have HO227 := n0_; have HO237 := n1_; have BK215 := n2_; have HB := n3_; clear n0_ n1_ n2_ n3_; (try clear hb); (try clear hb2); (try clear hk); (try clear hi)))
                      go_ret
                      exact ⟨by first | rfl | (simp [errW_none, errW_some] <;> rfl) | (simp [*, errW_none, errW_some] <;> rfl), by repeat (first | (with_reducible first | exact HB.out | apply below_alloc | apply pw_below_drewN | apply below_drew1 | refine below_set ?_ GE215.out) | exact HB.out)⟩
                    · rw [if_neg c70] at H
                      have c70b0 : (t239 == t238) = false := beq_eq_false_iff_ne.mpr c70
                      have c70b1 : (t239 != t238) = true := bne_iff_ne.mpr c70
                      obtain rfl := Option.some.inj H
                      try go_wp2
                      have n0_ := Aside0.mk (blk_drew BK215.out)
                      have n1_ := Aside0.mk (below_drew1 HB.out)
                      clear BK215
                      clear HB
                      have BK215 := n0_
                      have HB := n1_
                      clear n0_ n1_
                      have q89 : (a2 : Int) ≤ ((l0.length : Int) : Int) := of_decide_eq_true (by first | (with_reducible assumption) | assumption)
                      obtain ⟨i089, hi089, _, hsz89, _⟩ := info_parts info28
                      have hroom89 : l0.length ≤ c0 := HC0.out
                      have hC89 : Kd.C k28 _ A0 l0.length l0 := HR0.out
                      have hcut89 := cut_to (P := Tryd.prog) 22 28 .i64 Tryd.underlying22 hi089 A0 l0.length c0 a2 (of_decide_eq_true (by first | (with_reducible assumption) | assumption)) q89 hroom89
                      have hr89 := Kd.C_take (m := (a2 : Int).toNat) hC89 (by omega)
                      have hy89 : y218.length = (a2 : Int).toNat := (by rw [Ny218.out, List.length_take]; omega)
                      rw [← Ny218.out] at hr89
                      rw [← hy89] at hcut89
                      have HR221 := Aside0.mk hr89
                      have HC221 := Aside0.mk (show y218.length ≤ c0 from by omega)
                      clear hr89 hC89 hroom89 hi089 hsz89
                      have KY89 := Aside0.mk hy89
                      clear hy89
                      replace q89 := eq_true q89
                      refine start_ (n := 8) (S := fun w' => w'.cell? ⟨gb215, 0, none⟩ = some (.bool a1_0) ∧ w'.cell? ⟨gb215, 1, none⟩ = some (.string a1_1) ∧ w'.cell? ⟨gb215, 2, none⟩ = some (.string a1_2)) (ds := []) #[false, false, false, false, false, false, false, false] (by kernel_rfl) rfl rfl ⟨(blk_cell BK215.out 0).trans rfl, (blk_cell BK215.out 1).trans rfl, (blk_cell BK215.out 2).trans rfl⟩ (fun hHeld => ?_); refine with_tabW wharfingerlaw11_AclVerb.tab5 wharfingerlaw11_AclVerb.bits5 (fun HT_ HW_ => ?_)
                      generalize wc.drew = w88 at BK215 HB HR221 hHeld ⊢
                      refine pure_ (i := 0) (N := some 69) (v := ?_) (a' := ?_) #[true, false, false, false, false, false, false, false] rfl rfl (any_of HT_.out (by kernel_rfl)) (fun _ _ _ h => h) (Or.inl ⟨by rfl, ?_⟩) ?_ ?_
                      rotate_left
                      · intro w'
                        go_simp
                        with_reducible rfl
                      rotate_left
                      · simp only [Act.put, List.setIfInBounds_toArray, List.set_cons_zero, List.set_cons_succ, i64_w, i32_w]
                        rfl
                      refine pure_ (i := 1) (N := some 70) (v := ?_) (a' := ?_) #[true, true, false, false, false, false, false, false] rfl rfl (any_of HT_.out (by kernel_rfl)) (fun _ _ _ h => h) (Or.inl ⟨by rfl, ?_⟩) ?_ ?_
                      rotate_left
                      · intro w'
                        go_simp
                        with_reducible rfl
                      rotate_left
                      · simp only [Act.put, List.setIfInBounds_toArray, List.set_cons_zero, List.set_cons_succ, i64_w, i32_w]
                        rfl
                      refine pure_ (i := 2) (N := some 71) (v := ?_) (a' := ?_) #[true, true, true, false, false, false, false, false] rfl rfl (any_of HT_.out (by kernel_rfl)) (fun _ _ _ h => h) (Or.inl ⟨by rfl, ?_⟩) ?_ ?_
                      rotate_left
                      · intro w'
                        go_simp
                        with_reducible rfl
                      rotate_left
                      · simp only [Act.put, List.setIfInBounds_toArray, List.set_cons_zero, List.set_cons_succ, i64_w, i32_w]
                        rfl
                      refine take_ (i := 4) (N := some 73) (v := ?_) (a' := ?_) #[true, true, true, false, true, false, false, false] rfl rfl (take_ofW HT_.out HW_.out (by kernel_rfl)) (fun _ _ _ h => h) (Or.inl ⟨by rfl, ?_⟩) hHeld ?_ ?_
                      rotate_left
                      · rintro w' ⟨s0, s1, s2⟩
                        go_simp
                        with_reducible rfl
                      rotate_left
                      · simp only [Act.put, List.setIfInBounds_toArray, List.set_cons_zero, List.set_cons_succ, i64_w, i32_w]
                        rfl
                      refine join_ (σ := Value × Value) 2 #[true, true, true, true, true, true, false, false] (fun s_ => [(72, s_.1), (74, s_.2)]) (fun s_ w' => (w'.cell? ⟨gb215, 0, none⟩ = some (.bool a1_0) ∧ w'.cell? ⟨gb215, 1, none⟩ = some (.string a1_1) ∧ w'.cell? ⟨gb215, 2, none⟩ = some (.string a1_2)) ∧ (Kd.R k28 28 w' w.heap.size (fun k_ => some k_ ≠ (s_.2 : Value).ownBlock ∧ k_ ≠ gb215) s_.1 y222) ∧ (Kd.R k28 28 w' w.heap.size (fun k_ => some k_ ≠ (s_.1 : Value).ownBlock ∧ k_ ≠ gb215) s_.2 y225) ∧ (w'.heap[gb215]? = some (.cells #[.bool a1_0, .string a1_1, .string a1_2] 28 (0, 0))) ∧ (Below w.heap.size w w')) ?_ ?_
                      rotate_left
                      · intro hCont
                        refine two_ (i := 3) (j := 5) (Ni := some 72) (Nj := some 74) #[true, true, true, true, true, false, false, false] #[true, true, true, false, true, true, false, false] rfl rfl rfl rfl (two_of HT_.out (by kernel_rfl)) (by decide) (by decide) (fun K hK => ?_) (fun K hK => ?_)
                        · skip
                          refine Kd.R_append_rows_step k28 (w0 := w) w.heap.size rfl (.const (.slice none 0 0)) (.tmp 71) 22 28 (.agg #[(.bool false), (.string ⟨#[]⟩), (.string ⟨#[]⟩)]) 40 rfl Tryd.underlying22 info28 rfl (by decide) (by omega) (.slice none 0 0) ([] : List (S28)) y218 _ _ _ (fun k_ => k_ ≠ gb215) (fun _ => False) rfl rfl ?aO ?aR (fun _ _ h => h) (fun _ h => h.elim) ?aF ?aB ?aS ?aL ?_
                          (case aR => repeat (first | exact (Kd.C_below HR221.out HB.out) | (with_reducible refine Kd.C_alloc ?_ _) | (with_reducible refine Kd.C_drewN ?_ _) | (with_reducible refine Kd.C_drew ?_)))
                          (case aB => exact (by repeat (first | (with_reducible first | exact HB.out | apply below_alloc | apply pw_below_drewN | apply below_drew1 | refine below_set ?_ GE215.out) | exact HB.out)))
                          (case aF => exact (fun k_ hk => Kd.freshB (g := gb215) (o := .cells #[.bool a1_0, .string a1_1, .string a1_2] 28 (0, 0)) (by (with_reducible repeat (first | refine blk_drewN ?_ _ | refine blk_drew ?_ | refine blk_alloc ?_ _)); exact BK215.out) k_ hk))
                          (case aO => exact ((Kd.R_nil _ _ _ _ (fun k_ => k_ ≠ gb215))))
                          (case aS => exact (below_size (by repeat (first | (with_reducible first | exact HB.out | apply below_alloc | apply pw_below_drewN | apply below_drew1 | refine below_set ?_ GE215.out) | exact HB.out))))
                          (case aL => have := LMc31.out; omega)
                          intro v223 w90 ho hb hg hat
                          rw [← Ny222.out] at ho
                          have n0_ := Aside0.mk (blk_grown (g := gb215) (o := .cells #[.bool a1_0, .string a1_1, .string a1_2] 28 (0, 0)) (by (with_reducible repeat (first | refine blk_drewN ?_ _ | refine blk_drew ?_ | refine blk_alloc ?_ _)); exact BK215.out) hg (by simp [Value.ownBlock]))
                          have n1_ := Aside0.mk (hb)
                          have n2_ := Aside0.mk (ho)
                          clear BK215
                          clear HB
                          have BK215 := n0_
                          have HB := n1_
                          have HO224 := n2_
                          clear n0_ n1_ n2_
                          clear ho hb hg hat
                          refine hK.out _ _ ⟨(blk_cell BK215.out 0).trans rfl, (blk_cell BK215.out 1).trans rfl, (blk_cell BK215.out 2).trans rfl⟩ (fun hHeld => ?_)
                          clear hK K
                          refine norm_ (a' := ?_) ?_ ?_
                          rotate_left
                          · show Act.put _ (some 72) _ = _
                            simp only [Act.put, List.setIfInBounds_toArray, List.set_cons_zero, List.set_cons_succ, i64_w, i32_w]
                            rfl
                          refine one_ (i := 5) (N := some 74) #[true, true, true, true, true, true, false, false] rfl rfl (one_of HT_.out (by kernel_rfl)) (by decide) (fun K hK => ?_)
                          refine Kd.R_lit_step k28 _ 28 ?hg (N := 74) ?hd (xs := ([(⟨a1_0, a1_1, a1_2⟩ : S28)] : List (S28))) (inner := [.bool a1_0, .string a1_1, .string a1_2]) (ok := fun _ => True) (okp := fun _ => True) ?hr ?hp (fun _ hk => hk) trivial (Below.refl _ _) (Nat.le_refl _) (by simp) ?_; (case hd => rfl); (case hg => rfl); (case hr => first | (go_simp; done) | (go_simp; rfl)); (case hp => exact (Reps.c3 (show Kd.M k28 _ _ _ (⟨a1_0, a1_1, a1_2⟩ : S28) [.bool a1_0, .string a1_1, .string a1_2] from (k28_mkM _ _ _ (⟨a1_0, a1_1, a1_2⟩ : S28) )) (Reps.none _ _)))
                          intro v226 w91 ho92 hb hg_ hnew_
                          clear hg_ hnew_
                          (first | rw [← Ny225.out] at ho92 | (simp only [Int.reduceToNat] at ho92; rw [← Ny225.out] at ho92))
                          have n0_ := Aside0.mk (Kd.R_elder' (by (with_reducible repeat (first | apply Kd.R_alloc | apply Kd.R_drewN | apply Kd.R_drew)); exact HO224.out) (Kd.R_base ho92) hb)
                          have n1_ := Aside0.mk (Kd.R_lower (Kd.R_newB (Kd.R_new' ho92 (Kd.R_lt (by (with_reducible repeat (first | apply Kd.R_alloc | apply Kd.R_drewN | apply Kd.R_drew)); exact HO224.out))) (g := gb215) (o := .cells #[.bool a1_0, .string a1_1, .string a1_2] 28 (0, 0)) (by (with_reducible repeat (first | refine blk_drewN ?_ _ | refine blk_drew ?_ | refine blk_alloc ?_ _)); exact BK215.out)) (below_size (by repeat (first | (with_reducible first | exact HB.out | apply below_alloc | apply pw_below_drewN | apply below_drew1 | refine below_set ?_ GE215.out) | exact HB.out))))
                          have n2_ := Aside0.mk (blk_below (g := gb215) (o := .cells #[.bool a1_0, .string a1_1, .string a1_2] 28 (0, 0)) (by (with_reducible repeat (first | refine blk_drewN ?_ _ | refine blk_drew ?_ | refine blk_alloc ?_ _)); exact BK215.out) hb)
                          have n3_ := Aside0.mk (below_step (by repeat (first | (with_reducible first | exact HB.out | apply below_alloc | apply pw_below_drewN | apply below_drew1 | refine below_set ?_ GE215.out) | exact HB.out)) hb)
                          clear HO224
                          clear BK215
                          clear HB
                          have HO224 := n0_
                          have HO227 := n1_
                          have BK215 := n2_
                          have HB := n3_
                          clear n0_ n1_ n2_ n3_
                          clear hb ho92
                          refine hK.out _ _ ⟨(blk_cell BK215.out 0).trans rfl, (blk_cell BK215.out 1).trans rfl, (blk_cell BK215.out 2).trans rfl⟩ (fun hHeld => ?_)
                          clear hK K
                          refine norm_ (a' := ?_) ?_ ?_
                          rotate_left
                          · show Act.put _ (some 74) _ = _
                            simp only [Act.put, List.setIfInBounds_toArray, List.set_cons_zero, List.set_cons_succ, i64_w, i32_w]
                            rfl
                          exact norm_ (by simp only [putAll, Act.put, List.setIfInBounds_toArray, List.set_cons_zero, List.set_cons_succ]) (hCont (v223, v226) _ ⟨hHeld, (by (with_reducible repeat (first | apply Kd.R_alloc | apply Kd.R_drewN | apply Kd.R_drew)); exact Kd.R_mono HO224.out (fun _ hk => ⟨hk.2, hk.1⟩)), (by (with_reducible repeat (first | apply Kd.R_alloc | apply Kd.R_drewN | apply Kd.R_drew)); exact Kd.R_mono HO227.out (fun _ hk => ⟨hk.1.2, hk.2⟩)), (by (with_reducible repeat (first | refine blk_drewN ?_ _ | refine blk_drew ?_ | refine blk_alloc ?_ _)); exact BK215.out), (by repeat (first | (with_reducible first | exact HB.out | apply below_alloc | apply pw_below_drewN | apply below_drew1 | refine below_set ?_ GE215.out) | exact HB.out))⟩)
                        · skip
                          refine Kd.R_lit_step k28 _ 28 ?hg (N := 74) ?hd (xs := ([(⟨a1_0, a1_1, a1_2⟩ : S28)] : List (S28))) (inner := [.bool a1_0, .string a1_1, .string a1_2]) (ok := fun _ => True) (okp := fun _ => True) ?hr ?hp (fun _ hk => hk) trivial (Below.refl _ _) (Nat.le_refl _) (by simp) ?_; (case hd => rfl); (case hg => rfl); (case hr => first | (go_simp; done) | (go_simp; rfl)); (case hp => exact (Reps.c3 (show Kd.M k28 _ _ _ (⟨a1_0, a1_1, a1_2⟩ : S28) [.bool a1_0, .string a1_1, .string a1_2] from (k28_mkM _ _ _ (⟨a1_0, a1_1, a1_2⟩ : S28) )) (Reps.none _ _)))
                          intro v226 w90 ho91 hb hg_ hnew_
                          clear hg_ hnew_
                          (first | rw [← Ny225.out] at ho91 | (simp only [Int.reduceToNat] at ho91; rw [← Ny225.out] at ho91))
                          have n0_ := Aside0.mk (Kd.R_lower (Kd.R_newB ho91 (g := gb215) (o := .cells #[.bool a1_0, .string a1_1, .string a1_2] 28 (0, 0)) (by (with_reducible repeat (first | refine blk_drewN ?_ _ | refine blk_drew ?_ | refine blk_alloc ?_ _)); exact BK215.out)) (below_size (by repeat (first | (with_reducible first | exact HB.out | apply below_alloc | apply pw_below_drewN | apply below_drew1 | refine below_set ?_ GE215.out) | exact HB.out))))
                          have n1_ := Aside0.mk (blk_below (g := gb215) (o := .cells #[.bool a1_0, .string a1_1, .string a1_2] 28 (0, 0)) (by (with_reducible repeat (first | refine blk_drewN ?_ _ | refine blk_drew ?_ | refine blk_alloc ?_ _)); exact BK215.out) hb)
                          have n2_ := Aside0.mk (below_step (by repeat (first | (with_reducible first | exact HB.out | apply below_alloc | apply pw_below_drewN | apply below_drew1 | refine below_set ?_ GE215.out) | exact HB.out)) hb)
                          clear BK215
                          clear HB
                          have HO227 := n0_
                          have BK215 := n1_
                          have HB := n2_
                          clear n0_ n1_ n2_
                          clear hb ho91
                          refine hK.out _ _ ⟨(blk_cell BK215.out 0).trans rfl, (blk_cell BK215.out 1).trans rfl, (blk_cell BK215.out 2).trans rfl⟩ (fun hHeld => ?_)
                          clear hK K
                          refine norm_ (a' := ?_) ?_ ?_
                          rotate_left
                          · show Act.put _ (some 74) _ = _
                            simp only [Act.put, List.setIfInBounds_toArray, List.set_cons_zero, List.set_cons_succ, i64_w, i32_w]
                            rfl
                          refine one_ (i := 3) (N := some 72) #[true, true, true, true, true, true, false, false] rfl rfl (one_of HT_.out (by kernel_rfl)) (by decide) (fun K hK => ?_)
                          refine Kd.R_append_rows_step k28 (w0 := w) w.heap.size rfl (.const (.slice none 0 0)) (.tmp 71) 22 28 (.agg #[(.bool false), (.string ⟨#[]⟩), (.string ⟨#[]⟩)]) 40 rfl Tryd.underlying22 info28 rfl (by decide) (by omega) (.slice none 0 0) ([] : List (S28)) y218 _ _ _ (fun k_ => some k_ ≠ (v226 : Value).ownBlock ∧ k_ ≠ gb215) (fun _ => False) rfl rfl ?aO ?aR (fun _ _ h => h) (fun _ h => h.elim) ?aF ?aB ?aS ?aL ?_
                          (case aR => repeat (first | exact (Kd.C_below HR221.out HB.out) | (with_reducible refine Kd.C_alloc ?_ _) | (with_reducible refine Kd.C_drewN ?_ _) | (with_reducible refine Kd.C_drew ?_)))
                          (case aB => exact (by repeat (first | (with_reducible first | exact HB.out | apply below_alloc | apply pw_below_drewN | apply below_drew1 | refine below_set ?_ GE215.out) | exact HB.out)))
                          (case aF => exact (fun k_ hk => ⟨Kd.fresh' (Kd.R_lt (by (with_reducible repeat (first | apply Kd.R_alloc | apply Kd.R_drewN | apply Kd.R_drew)); exact HO227.out)) k_ hk, Kd.freshB (g := gb215) (o := .cells #[.bool a1_0, .string a1_1, .string a1_2] 28 (0, 0)) (by (with_reducible repeat (first | refine blk_drewN ?_ _ | refine blk_drew ?_ | refine blk_alloc ?_ _)); exact BK215.out) k_ hk⟩))
                          (case aO => exact ((Kd.R_nil _ _ _ _ (fun k_ => some k_ ≠ (v226 : Value).ownBlock ∧ k_ ≠ gb215))))
                          (case aS => exact (below_size (by repeat (first | (with_reducible first | exact HB.out | apply below_alloc | apply pw_below_drewN | apply below_drew1 | refine below_set ?_ GE215.out) | exact HB.out))))
                          (case aL => have := LMc31.out; omega)
                          intro v223 w92 ho hb hg hat
                          rw [← Ny222.out] at ho
                          have n0_ := Aside0.mk (blk_grown (g := gb215) (o := .cells #[.bool a1_0, .string a1_1, .string a1_2] 28 (0, 0)) (by (with_reducible repeat (first | refine blk_drewN ?_ _ | refine blk_drew ?_ | refine blk_alloc ?_ _)); exact BK215.out) hg (by simp [Value.ownBlock]))
                          have n1_ := Aside0.mk (Kd.R_after (Kd.R_apart_nil (by (with_reducible repeat (first | apply Kd.R_alloc | apply Kd.R_drewN | apply Kd.R_drew)); exact HO227.out)) hg hat)
                          have n2_ := Aside0.mk (hb)
                          have n3_ := Aside0.mk (ho)
                          clear BK215
                          clear HO227
                          clear HB
                          have BK215 := n0_
                          have HO227 := n1_
                          have HB := n2_
                          have HO224 := n3_
                          clear n0_ n1_ n2_ n3_
                          clear ho hb hg hat
                          refine hK.out _ _ ⟨(blk_cell BK215.out 0).trans rfl, (blk_cell BK215.out 1).trans rfl, (blk_cell BK215.out 2).trans rfl⟩ (fun hHeld => ?_)
                          clear hK K
                          refine norm_ (a' := ?_) ?_ ?_
                          rotate_left
                          · show Act.put _ (some 72) _ = _
                            simp only [Act.put, List.setIfInBounds_toArray, List.set_cons_zero, List.set_cons_succ, i64_w, i32_w]
                            rfl
                          exact norm_ (by simp only [putAll, Act.put, List.setIfInBounds_toArray, List.set_cons_zero, List.set_cons_succ]) (hCont (v223, v226) _ ⟨hHeld, (by (with_reducible repeat (first | apply Kd.R_alloc | apply Kd.R_drewN | apply Kd.R_drew)); exact HO224.out), (by (with_reducible repeat (first | apply Kd.R_alloc | apply Kd.R_drewN | apply Kd.R_drew)); exact Kd.R_mono HO227.out (fun _ hk => ⟨hk.2, hk.1.2⟩)), (by (with_reducible repeat (first | refine blk_drewN ?_ _ | refine blk_drew ?_ | refine blk_alloc ?_ _)); exact BK215.out), (by repeat (first | (with_reducible first | exact HB.out | apply below_alloc | apply pw_below_drewN | apply below_drew1 | refine below_set ?_ GE215.out) | exact HB.out))⟩)
                      rintro ⟨v223, v226⟩ w93 ⟨hS_, h0_, h1_, h2_, h3_⟩
                      have n0_ : Aside0 (Kd.R k28 28 w93 w.heap.size (fun k_ => some k_ ≠ (v226 : Value).ownBlock ∧ k_ ≠ gb215) v223 y222) := ⟨h0_⟩
                      have n1_ : Aside0 (Kd.R k28 28 w93 w.heap.size (fun k_ => some k_ ≠ (v223 : Value).ownBlock ∧ k_ ≠ gb215) v226 y225) := ⟨h1_⟩
                      have n2_ : Aside0 (w93.heap[gb215]? = some (.cells #[.bool a1_0, .string a1_1, .string a1_2] 28 (0, 0))) := ⟨h2_⟩
                      have n3_ : Aside0 (Below w.heap.size w w93) := ⟨h3_⟩
                      clear BK215
                      clear HB
                      clear h0_ h1_ h2_ h3_
                      have HO224 := n0_
                      have HO227 := n1_
                      have BK215 := n2_
                      have HB := n3_
                      clear n0_ n1_ n2_ n3_
                      have hHeld : w93.cell? ⟨gb215, 0, none⟩ = some (.bool a1_0) ∧ w93.cell? ⟨gb215, 1, none⟩ = some (.string a1_1) ∧ w93.cell? ⟨gb215, 2, none⟩ = some (.string a1_2) := hS_
                      obtain ⟨Ao95, co95, eo95⟩ := Kd.R_slice HO227.out
                      (first | subst eo95 | (injection eo95 with f1_ f2_ f3_; have f4_ := f1_.symm; have f5_ := f3_.symm; clear f1_ f2_ f3_; subst f4_; subst f5_))
                      refine norm_ (a' := ?_) ?_ ?_
                      rotate_left
                      · simp only [putAll, Act.put, List.setIfInBounds_toArray, List.set_cons_zero, List.set_cons_succ]
                        rfl
                      refine one_ (i := 6) (N := some 75) #[true, true, true, true, true, true, true, false] rfl rfl (one_of HT_.out (by kernel_rfl)) (by decide) (fun K hK => ?_)
                      refine Kd.R_append_rows_step k28 (w0 := w) w.heap.size (by rfl) (.tmp 72) (.tmp 74) 22 28 (.agg #[(.bool false), (.string ⟨#[]⟩), (.string ⟨#[]⟩)]) 40 rfl Tryd.underlying22 info28 rfl (by decide) (by omega) v223 y222 y225 _ _ _ (fun k_ => some k_ ≠ (.slice Ao95 y225.length co95 : Value).ownBlock ∧ k_ ≠ gb215) (fun _ => False) rfl rfl ?aO ?aR (fun _ _ h => h) (fun _ h => h.elim) ?aF ?aB ?aS ?aL ?_
                      (case aR => repeat (first | exact (Kd.R_reads' HO227.out).2.2 | (with_reducible refine Kd.C_alloc ?_ _) | (with_reducible refine Kd.C_drewN ?_ _) | (with_reducible refine Kd.C_drew ?_)))
                      (case aB => exact (by repeat (first | (with_reducible first | exact HB.out | apply below_alloc | apply pw_below_drewN | apply below_drew1 | refine below_set ?_ GE215.out) | exact HB.out)))
                      (case aF => exact (fun k_ hk => ⟨Kd.fresh' (Kd.R_lt (by (with_reducible repeat (first | apply Kd.R_alloc | apply Kd.R_drewN | apply Kd.R_drew)); exact HO227.out)) k_ hk, Kd.freshB (g := gb215) (o := .cells #[.bool a1_0, .string a1_1, .string a1_2] 28 (0, 0)) (by (with_reducible repeat (first | refine blk_drewN ?_ _ | refine blk_drew ?_ | refine blk_alloc ?_ _)); exact BK215.out) k_ hk⟩))
                      (case aO => exact (by (with_reducible repeat (first | apply Kd.R_alloc | apply Kd.R_drewN | apply Kd.R_drew)); exact HO224.out))
                      (case aS => exact (below_size (by repeat (first | (with_reducible first | exact HB.out | apply below_alloc | apply pw_below_drewN | apply below_drew1 | refine below_set ?_ GE215.out) | exact HB.out))))
                      (case aL => have := LMc32.out; omega)
                      intro v229 w94 ho hb hg hat
                      rw [← Ny228.out] at ho
                      have n0_ := Aside0.mk (blk_grown (g := gb215) (o := .cells #[.bool a1_0, .string a1_1, .string a1_2] 28 (0, 0)) (by (with_reducible repeat (first | refine blk_drewN ?_ _ | refine blk_drew ?_ | refine blk_alloc ?_ _)); exact BK215.out) hg (Kd.R_away HO224.out (fun _ hk => hk.2)))
                      have n1_ := Aside0.mk (Kd.R_after (ok := (fun k_ => k_ ≠ gb215)) (by (with_reducible repeat (first | apply Kd.R_alloc | apply Kd.R_drewN | apply Kd.R_drew)); exact Kd.R_mono HO227.out (fun _ hk => ⟨hk.2, hk.1⟩)) hg hat)
                      have n2_ := Aside0.mk (hb)
                      have n3_ := Aside0.mk (ho)
                      clear BK215
                      clear HO227
                      clear HB
                      clear HO224
                      have BK215 := n0_
                      have HO227 := n1_
                      have HB := n2_
                      have HO230 := n3_
                      clear n0_ n1_ n2_ n3_
                      clear ho hb hg hat
                      refine hK.out _ _ ⟨(blk_cell BK215.out 0).trans rfl, (blk_cell BK215.out 1).trans rfl, (blk_cell BK215.out 2).trans rfl⟩ (fun hHeld => ?_)
                      clear hK K
                      refine norm_ (a' := ?_) ?_ ?_
                      rotate_left
                      · show Act.put _ (some 75) _ = _
                        simp only [Act.put, List.setIfInBounds_toArray, List.set_cons_zero, List.set_cons_succ, i64_w, i32_w]
                        rfl
                      refine pure_ (i := 7) (N := some 13) (v := ?_) (a' := ?_) #[true, true, true, true, true, true, true, true] rfl rfl (any_of HT_.out (by kernel_rfl)) (fun _ _ _ h => h) (Or.inl ⟨by rfl, ?_⟩) ?_ ?_
                      rotate_left
                      · intro w'
                        go_simp
                        with_reducible rfl
                      rotate_left
                      · simp only [Act.put, List.setIfInBounds_toArray, List.set_cons_zero, List.set_cons_succ, i64_w, i32_w]
                        rfl
                      refine done_ (done_of HT_.out (by kernel_rfl)) ?_
                      have q96 : (a2 : Int) ≤ ((l0.length : Int) : Int) := of_decide_eq_true (by first | (with_reducible assumption) | assumption)
                      obtain ⟨i096, hi096, _, hsz96, _⟩ := info_parts info28
                      have hroom96 : l0.length ≤ c0 := HC0.out
                      have hC96 : Kd.C k28 _ A0 l0.length l0 := HR0.out
                      have q096 : (0 : Int) ≤ (a2 : Int) := of_decide_eq_true (by first | (with_reducible assumption) | assumption)
                      have hcut96 := cut_from (P := Tryd.prog) 22 28 .i64 Tryd.underlying22 hi096 3 hsz96 A0 l0.length c0 a2 q096 q96
                      have hr96 := Kd.C_drop (m := (a2 : Int).toNat) (c := c0) hC96 (by omega) hroom96
                      obtain ⟨A96, hA96⟩ : ∃ A1, A1 = (if c0 = (a2 : Int).toNat then A0 else (A0 : Option Addr).map (·.add ((a2 : Int).toNat * 3))) := ⟨_, rfl⟩
                      obtain ⟨c96, hc96⟩ : ∃ c1, c1 = c0 - (a2 : Int).toNat := ⟨_, rfl⟩
                      have hy96 : y231.length = l0.length - (a2 : Int).toNat := (by rw [Ny231.out, List.length_drop] <;> omega)
                      rw [show (l0).drop (a2 : Int).toNat = y231 from Ny231.out.symm] at hr96
                      replace hr96 : Kd.C k28 _ A96 y231.length y231 := (by rw [hA96]; exact hr96)
                      rw [← hy96, ← hA96, ← hc96] at hcut96
                      have HR234 := Aside0.mk hr96
                      have HC234 := Aside0.mk (show y231.length ≤ c96 from by rw [hy96, hc96]; exact Nat.sub_le_sub_right hroom96 _)
                      clear hr96 hC96 hroom96 hi096 hsz96 hc96
                      have KY96 := Aside0.mk hy96
                      have KA96 := Aside0.mk hA96
                      clear hy96 hA96
                      replace q96 := eq_true q96
                      try go_wp2_with (first | ((with_reducible refine gate_builtin (b := .append) (xs := #[.tmp 76, .tmp 79]) rfl ?_); (try (refine gate_guard (by rfl) ?_; dsimp only)); at_builtin; refine Kd.R_append_rows k28 (w0 := w) w.heap.size rfl (.tmp 76) (.tmp 79) 22 28 (.agg #[(.bool false), (.string ⟨#[]⟩), (.string ⟨#[]⟩)]) 40 rfl Tryd.underlying22 info28 rfl (by decide) (by omega) v229 y228 y231 _ _ _ (fun k_ => some k_ ≠ (.slice Ao95 y225.length co95 : Value).ownBlock ∧ k_ ≠ gb215) (fun _ => False) rfl rfl ?aO ?aR (fun _ _ h => h) (fun _ h => h.elim) ?aF ?aB ?aS ?aL ?_; (case aR => repeat (first | exact (Kd.C_below HR234.out HB.out) | (with_reducible refine Kd.C_alloc ?_ _) | (with_reducible refine Kd.C_drewN ?_ _) | (with_reducible refine Kd.C_drew ?_))); (case aB => exact (by repeat (first | (with_reducible first | exact HB.out | apply below_alloc | apply pw_below_drewN | apply below_drew1 | refine below_set ?_ GE215.out) | exact HB.out))); (case aF => exact (fun k_ hk => ⟨Kd.fresh' (Kd.R_lt (by (with_reducible repeat (first | apply Kd.R_alloc | apply Kd.R_drewN | apply Kd.R_drew)); exact HO227.out)) k_ hk, Kd.freshB (g := gb215) (o := .cells #[.bool a1_0, .string a1_1, .string a1_2] 28 (0, 0)) (by (with_reducible repeat (first | refine blk_drewN ?_ _ | refine blk_drew ?_ | refine blk_alloc ?_ _)); exact BK215.out) k_ hk⟩)); (case aO => exact (by (with_reducible repeat (first | apply Kd.R_alloc | apply Kd.R_drewN | apply Kd.R_drew)); exact HO230.out)); (case aS => exact (below_size (by repeat (first | (with_reducible first | exact HB.out | apply below_alloc | apply pw_below_drewN | apply below_drew1 | refine below_set ?_ GE215.out) | exact HB.out)))); (case aL => have := LMc35.out; omega); intro v236 w97 ho hb hg hat; rw [← Ny235.out] at ho; have n0_ := Aside0.mk (blk_grown (g := gb215) (o := .cells #[.bool a1_0, .string a1_1, .string a1_2] 28 (0, 0)) (by (with_reducible repeat (first | refine blk_drewN ?_ _ | refine blk_drew ?_ | refine blk_alloc ?_ _)); exact BK215.out) hg (Kd.R_away HO230.out (fun _ hk => hk.2))); have n1_ := Aside0.mk (Kd.R_after (ok := (fun k_ => k_ ≠ gb215)) (by (with_reducible repeat (first | apply Kd.R_alloc | apply Kd.R_drewN | apply Kd.R_drew)); exact HO227.out) hg hat); have n2_ := Aside0.mk (hb); have n3_ := Aside0.mk (ho); clear BK215; clear HO227; clear HB; clear HO230; have BK215 := n0_; have HO227 := n1_; have HB := n2_; have HO237 := n3_; clear n0_ n1_ n2_ n3_; clear ho hb hg hat) | ((with_reducible refine gate_callee (f := 12) rfl ?_); refine goesL_ (some 84) rfl rfl Tryd.func12 (by kernel_rfl) rfl #[.slice A0 l0.length c0, .string a3, .string a4] rfl (by (try simp only [List.map_toArray, List.map_cons, List.map_nil]); first | done | rfl | (simp only [List.length_drop, List.length_take]; rfl)) ?_; (with_reducible refine (acl_Which.calls _ _ l0 a3 a4 t238 _ ?side1 ?side2 ?side3 A36.out).mono ?_); (case side1 => repeat (first | exact (Kd.C_below HR0.out HB.out) | (with_reducible refine Kd.C_alloc ?_ _) | (with_reducible refine Kd.C_drewN ?_ _) | (with_reducible refine Kd.C_drew ?_))); (case side2 => exact HC0.out); (case side3 => exact HMET.out.below (by repeat (first | (with_reducible first | exact HB.out | apply below_alloc | apply pw_below_drewN | apply below_drew1 | refine below_set ?_ GE215.out) | exact HB.out))); rintro e w98 ⟨rfl, hb⟩; refine ⟨_, rfl, ?_⟩; have n0_ := Aside0.mk (Kd.R_below (by (with_reducible repeat (first | apply Kd.R_alloc | apply Kd.R_drewN | apply Kd.R_drew)); exact HO227.out) hb); have n1_ := Aside0.mk (Kd.R_below (by (with_reducible repeat (first | apply Kd.R_alloc | apply Kd.R_drewN | apply Kd.R_drew)); exact HO237.out) hb); have n2_ := Aside0.mk (blk_below (g := gb215) (o := .cells #[.bool a1_0, .string a1_1, .string a1_2] 28 (0, 0)) (by (with_reducible repeat (first | refine blk_drewN ?_ _ | refine blk_drew ?_ | refine blk_alloc ?_ _)); exact BK215.out) hb); have n3_ := Aside0.mk (below_step (by repeat (first | (with_reducible first | exact HB.out | apply below_alloc | apply pw_below_drewN | apply below_drew1 | refine below_set ?_ GE215.out) | exact HB.out)) hb); clear HO227; clear HO237; clear BK215; clear HB; have HO227 := n0_; have HO237 := n1_; have BK215 := n2_; have HB := n3_; clear n0_ n1_ n2_ n3_; (try clear hb); (try clear hb2); (try clear hk); (try clear hi); obtain ⟨Ao99, co99, eo99⟩ := Kd.R_slice HO237.out; subst eo99) | ((with_reducible refine gate_callee (f := 12) rfl ?_); refine goesL_ (some 88) rfl rfl Tryd.func12 (by kernel_rfl) rfl #[.slice Ao99 y235.length co99, .string a3, .string a4] rfl (by (try simp only [List.map_toArray, List.map_cons, List.map_nil]); first | done | rfl | (simp only [List.length_drop, List.length_take]; rfl)) ?_; (with_reducible refine (acl_Which.calls _ _ y235 a3 a4 t239 _ ?side1 ?side2 ?side3 A37.out).mono ?_); (case side1 => repeat (first | exact (Kd.R_reads' HO237.out).2.2 | (with_reducible refine Kd.C_alloc ?_ _) | (with_reducible refine Kd.C_drewN ?_ _) | (with_reducible refine Kd.C_drew ?_))); (case side2 => exact (Kd.R_reads' HO237.out).2.1); (case side3 => exact HMET.out.below (by repeat (first | (with_reducible first | exact HB.out | apply below_alloc | apply pw_below_drewN | apply below_drew1 | refine below_set ?_ GE215.out) | exact HB.out))); rintro e w100 ⟨rfl, hb⟩; refine ⟨_, rfl, ?_⟩; have n0_ := Aside0.mk (Kd.R_below (by (with_reducible repeat (first | apply Kd.R_alloc | apply Kd.R_drewN | apply Kd.R_drew)); exact HO227.out) hb); have n1_ := Aside0.mk (Kd.R_below (by (with_reducible repeat (first | apply Kd.R_alloc | apply Kd.R_drewN | apply Kd.R_drew)); exact HO237.out) hb); have n2_ := Aside0.mk (blk_below (g := gb215) (o := .cells #[.bool a1_0, .string a1_1, .string a1_2] 28 (0, 0)) (by (with_reducible repeat (first | refine blk_drewN ?_ _ | refine blk_drew ?_ | refine blk_alloc ?_ _)); exact BK215.out) hb); have n3_ := Aside0.mk (below_step (by repeat (first | (with_reducible first | exact HB.out | apply below_alloc | apply pw_below_drewN | apply below_drew1 | refine below_set ?_ GE215.out) | exact HB.out)) hb); clear HO227; clear HO237; clear BK215; clear HB; have HO227 := n0_; have HO237 := n1_; have BK215 := n2_; have HB := n3_; clear n0_ n1_ n2_ n3_; (try clear hb); (try clear hb2); (try clear hk); (try clear hi)))
                      go_ret
                      exact ⟨by first | rfl | (simp [errW_none, errW_some] <;> rfl) | (simp [*, errW_none, errW_some] <;> rfl), by repeat (first | (with_reducible first | exact HB.out | apply below_alloc | apply pw_below_drewN | apply below_drew1 | refine below_set ?_ GE215.out) | exact HB.out)⟩
                · rw [if_neg c35] at H
                  exact absurd H (by simp)
              · rw [if_neg c32] at H
                exact absurd H (by simp)
            · rw [if_neg c31] at H
              exact absurd H (by simp)
          · rw [if_neg c30] at H
            exact absurd H (by simp)
        · rw [if_neg c29] at H
          exact absurd H (by simp)

end Go.Proofs.YtdemfgijfnicpaaDoor.Q

namespace Go.Proofs.YtdemfgijfnicpaaDoor.Pure
open Go Go.RowKit Go.Proofs.YtdemfgijfnicpaaDoor.Q Go.Proofs.YtdemfgijfnicpaaDoor.Quad Go.Proofs.YtdemfgijfnicpaaDoorW.PrintWords Go.Proofs.YtdemfgijfnicpaaDoorW.PrintLast Go.Proofs.YtdemfgijfnicpaaDoorW.PrintMore
set_option linter.unusedVariables false
set_option linter.unusedSimpArgs false

theorem verb_end (l : List S28) (i : Int) (a b : ByteArray) (x : Bool) (r : Bool) (v p : ByteArray) : Ev (fun k => wharfingerlaw11_AclVerb.j0 k l i a b x true r v p) x :=
  Ev.step (f := fun _ => some x) (fun k => by simp only [wharfingerlaw11_AclVerb.j0, if_true]) (Ev.now _)
theorem law_verb_ev (l : List S28) (r : Bool) (v p : ByteArray) (i : Int) (a b : ByteArray) : Ev (fun k => wharfingerlaw11_AclVerb.f k l r v p i a b) true := by
  unfold wharfingerlaw11_AclVerb.f
  refine Ev.bind awake_ev (Ev.bind (few_ev l) ?_)
  simp only [if_true]
  cases hf : fewS l
  · simp only [Bool.false_eq_true, if_false]; exact verb_end ..
  simp only [if_true]
  by_cases h1 : (v.size : Int) > 300
  · simp only [if_pos h1]; exact verb_end ..
  simp only [if_neg h1]
  by_cases h2 : (p.size : Int) > 300
  · simp only [if_pos h2]; exact verb_end ..
  simp only [if_neg h2]
  by_cases h3 : (a.size : Int) > 300
  · simp only [if_pos h3]; exact verb_end ..
  simp only [if_neg h3]
  by_cases h4 : (b.size : Int) > 300
  · simp only [if_pos h4]; exact verb_end ..
  simp only [if_neg h4]
  by_cases h5 : i < 0
  · simp only [if_pos h5]; exact verb_end ..
  simp only [if_neg h5]
  by_cases h6 : i > (l.length : Int)
  · simp only [if_pos h6]; exact verb_end ..
  simp only [if_neg h6]
  by_cases h7 : v.toList = []
  · simp only [if_pos h7]; exact verb_end ..
  simp only [if_neg h7]
  by_cases h8 : v.toList = a.toList
  · simp only [show (v.toList == a.toList) = true from by simpa using h8]; exact verb_end ..
  simp only [show (v.toList == a.toList) = false from beq_eq_false_iff_ne.2 h8]
  obtain ⟨hl20, hl⟩ := few_ok hf
  have hb6 : b.size ≤ 1000000 := by omega
  obtain ⟨n, rfl⟩ : ∃ n : Nat, i = n := ⟨i.toNat, by omega⟩
  have hone : okL [(⟨r, v, p⟩ : S28)] := okL_one _ (show v.size ≤ 1000000 by omega) (show p.size ≤ 1000000 by omega)
  have hlt : (l.take n).length ≤ 20 := by rw [List.length_take]; omega
  have hld : (l.drop n).length ≤ 20 := by rw [List.length_drop]; omega
  have hm : okL (l.take n ++ [(⟨r, v, p⟩ : S28)] ++ l.drop n) := okL_app (okL_app (okL_take hl n) hone (by simp; omega)) (okL_drop hl n) (by rw [List.length_append]; simp; omega)
  have htell : AclP.tells (toR ⟨r, v, p⟩) a.data.toList b.data.toList = false := by
    have e1 : (v.data.toList == []) = false := beq_eq_false_iff_ne.2 (by rwa [← ByteArray.toList_eq])
    have e2 : (v.data.toList == a.data.toList) = false := beq_eq_false_iff_ne.2 (by rwa [← ByteArray.toList_eq, ← ByteArray.toList_eq])
    show ((v.data.toList == [] || v.data.toList == a.data.toList) && _) = false
    rw [e1, e2]; rfl
  have hsplit : l.take n ++ l.drop n = l := List.take_append_drop n l
  have hmap : (l.take n ++ [(⟨r, v, p⟩ : S28)] ++ l.drop n).map toR = (l.take n).map toR ++ toR ⟨r, v, p⟩ :: (l.drop n).map toR := by simp
  have hmapl : l.map toR = (l.take n).map toR ++ (l.drop n).map toR := by rw [← List.map_append, hsplit]
  have hnl : ((l.take n).map toR).length = n := by rw [List.length_map, List.length_take]; omega
  have hw := AclP.which_skip ((l.take n).map toR) ((l.drop n).map toR) (toR ⟨r, v, p⟩) a.data.toList b.data.toList htell (whichS l a b) (whichS (l.take n ++ [(⟨r, v, p⟩ : S28)] ++ l.drop n) a b) (by rw [whichS, hmapl]) (by rw [whichS, hmap])
  rw [hnl] at hw
  have hal : allowedS (l.take n ++ [(⟨r, v, p⟩ : S28)] ++ l.drop n) a b = allowedS l a b := by
    rw [allowedS, hmap, AclP.allowed_skip _ _ _ _ _ htell, ← hmapl]; rfl
  have hbd := which_bd l a b
  refine Ev.step (g := fun k => wharfingerlaw11_AclVerb.j0 k l (n : Int) a b true false r v p) (fun k => by simp only [wharfingerlaw11_AclVerb.j0, Bool.false_eq_true, if_false]; rfl) ?_
  simp only [if_pos (show (0 : Int) ≤ (n : Int) by omega), if_pos (show (n : Int) ≤ (l.length : Int) by omega), Option.bind_some, Int.toNat_natCast, List.nil_append, List.length_nil, Nat.zero_add]
  simp only [if_pos (show (l.take n).length < 3518437208883 by omega), if_pos (show (l.take n).length + ([(⟨r, v, p⟩ : S28)] : List S28).length < 3518437208883 by simp; omega), if_pos (show (l.take n ++ [(⟨r, v, p⟩ : S28)]).length + (l.drop n).length < 3518437208883 by rw [List.length_append]; simp; omega)]
  simp only [which_is l a b hl hb6, which_is _ a b hm hb6, allowed_is l a b hl hb6, allowed_is _ a b hm hb6, Option.bind_some, hal, beq_self_eq_true]
  by_cases h9 : whichS l a b ≥ (n : Int)
  · simp only [if_pos h9, hw.1 h9, show (wrap64 (whichS l a b + 1)) = whichS l a b + 1 from by unfold wrap64; omega, if_true]
    exact Ev.now _
  · simp only [if_neg h9, hw.2 (by omega), if_true]
    exact Ev.now _
end Go.Proofs.YtdemfgijfnicpaaDoor.Pure
namespace Go.Proofs.YtdemfgijfnicpaaDoor.AclOpen
open Go Go.RowKit Go.Proofs.YtdemfgijfnicpaaDoorW.PrintWords Go.Proofs.YtdemfgijfnicpaaDoor.Opens Go.Proofs.YtdemfgijfnicpaaDoor.Q
set_option linter.unusedVariables false

theorem verb_walk (A0 : Option Addr) (c0 : Nat) (l0 : List S28) (x : S28) (i : Int) (a b : ByteArray) (w : World) (hr : Kd.C k28 w A0 l0.length l0) (hc : l0.length ≤ c0) (hm : Quad.Mx w) :
    Calls Tryd.prog 6 #[.slice A0 l0.length c0, .agg #[.bool x.f0, .string x.f1, .string x.f2], .int .i64 i, .string a, .string b] w fun e w' => e = .returned (.bool true) ∧ Below w.heap.size w w' := by
  obtain ⟨k, h⟩ := (Pure.law_verb_ev l0 x.f0 x.f1 x.f2 i a b).rounds
  exact wharfingerlaw11_AclVerb.calls k A0 c0 l0 x.f0 x.f1 x.f2 i a b true w hr hc hm h
end Go.Proofs.YtdemfgijfnicpaaDoor.AclOpen
