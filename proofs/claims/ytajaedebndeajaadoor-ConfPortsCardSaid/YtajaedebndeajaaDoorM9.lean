/- Contracts and plain facts that the law's proof needs. -/
import Derived.Test.YtajaedebndeajaaDoorM2
import Derived.Test.YtajaedebndeajaaDoorM4
import Derived.Test.YtajaedebndeajaaDoorM7
namespace Go.Proofs.YtajaedebndeajaaDoor.Q
open Go.RowKit Go.Proofs.YtajaedebndeajaaDoor.AclMet Go.Proofs.YtajaedebndeajaaDoorW.PrintWords Go.Proofs.YtajaedebndeajaaDoorW.PrintLast Go.Proofs.YtajaedebndeajaaDoorW.PrintMore
attribute [local go_sem] max2_int min2_int max_two min_two max_three min_three max_four min_four   -- for this text's walks alone
set_option linter.unusedVariables false
set_option linter.unusedSimpArgs false

/-! ### wharfingerlaw13_ConfPorts: function 8 -/
mutual
def wharfingerlaw13_ConfPorts.j0 : Nat → Int → Int → Int → Bool → Bool → Int → Int → Int → Int → List (S40) → Int → Int → Int → Bool → Option (Bool)
 | 0, _, _, _, _, _, _, _, _, _, _, _, _, _, _ => none
 | k + 1, x1, x2, x3, x9, x40, x292000, x292001, x292002, x292003, x292004, x292005, x292006, x292007, x292008 => if x40 = true then (some x9) else (if ([] : List (S40)).length + x292004.length < 1172812402961 then ((some (([] : List (S40)) ++ x292004 : List (S40))).bind fun y296 => (if 0 ≤ x1 then (if x1 < (y296.length : Int) then ((some (y296.set (x1 : Int).toNat (⟨(rd_T40 y296 x1).f0, (rd_T40 y296 x1).f1, (⟨(⟨(rd_T40 y296 x1).f2.f0.f0, (rd_T40 y296 x1).f2.f0.f1, (rd_T40 y296 x1).f2.f0.f2, (rd_T40 y296 x1).f2.f0.f3⟩ : S23), (rd_T40 y296 x1).f2.f1⟩ : S37), x2, (rd_T40 y296 x1).f4, (rd_T40 y296 x1).f5, (rd_T40 y296 x1).f6, (rd_T40 y296 x1).f7, (rd_T40 y296 x1).f8, (rd_T40 y296 x1).f9⟩ : S40) : List (S40))).bind fun y299 => ((conf_Why.f x292000 x292001 x292002 x292003 (y299.set (x1 : Int).toNat (⟨(rd_T40 y299 x1).f0, (rd_T40 y299 x1).f1, (⟨(⟨(rd_T40 y299 x1).f2.f0.f0, (rd_T40 y299 x1).f2.f0.f1, (rd_T40 y299 x1).f2.f0.f2, (rd_T40 y299 x1).f2.f0.f3⟩ : S23), (rd_T40 y299 x1).f2.f1⟩ : S37), (rd_T40 y299 x1).f3, x3, (rd_T40 y299 x1).f5, (rd_T40 y299 x1).f6, (rd_T40 y299 x1).f7, (rd_T40 y299 x1).f8, (rd_T40 y299 x1).f9⟩ : S40)) x292005 x292006 x292007 x292008).bind fun bt301 => (if x2 < 1024 then (wharfingerlaw13_ConfPorts.j1 k x1 x2 x3 bt301.1 bt301.2 true x292000 x292001 x292002 x292003 x292004 x292005 x292006 x292007 x292008) else (if x3 > 65535 then (wharfingerlaw13_ConfPorts.j1 k x1 x2 x3 bt301.1 bt301.2 true x292000 x292001 x292002 x292003 x292004 x292005 x292006 x292007 x292008) else (wharfingerlaw13_ConfPorts.j1 k x1 x2 x3 bt301.1 bt301.2 (decide (x2 > x3)) x292000 x292001 x292002 x292003 x292004 x292005 x292006 x292007 x292008))))) else (none)) else (none))) else (none))
def wharfingerlaw13_ConfPorts.j1 : Nat → Int → Int → Int → Int → Int → Bool → Int → Int → Int → Int → List (S40) → Int → Int → Int → Bool → Option (Bool)
 | 0, _, _, _, _, _, _, _, _, _, _, _, _, _, _, _ => none
 | k + 1, x1, x2, x3, x12, x13, x14, x292000, x292001, x292002, x292003, x292004, x292005, x292006, x292007, x292008 => wharfingerlaw13_ConfPorts.l0 k x1 x2 x3 x12 x13 x14 0 x292000 x292001 x292002 x292003 x292004 x292005 x292006 x292007 x292008
def wharfingerlaw13_ConfPorts.l0 : Nat → Int → Int → Int → Int → Int → Bool → Int → Int → Int → Int → Int → List (S40) → Int → Int → Int → Bool → Option (Bool)
 | 0, _, _, _, _, _, _, _, _, _, _, _, _, _, _, _, _ => none
 | k + 1, x1, x2, x3, x12, x13, x14, x15, x292000, x292001, x292002, x292003, x292004, x292005, x292006, x292007, x292008 => if x15 < x1 then (if x14 = true then (wharfingerlaw13_ConfPorts.l0 k x1 x2 x3 x12 x13 true (wrap64 (x15 + 1)) x292000 x292001 x292002 x292003 x292004 x292005 x292006 x292007 x292008) else (if 0 ≤ x15 then (if x15 < (x292004.length : Int) then (if x2 ≤ ((rd_T40 x292004 x15).f4) then (wharfingerlaw13_ConfPorts.l0 k x1 x2 x3 x12 x13 (decide (x3 ≥ ((rd_T40 x292004 x15).f3))) (wrap64 (x15 + 1)) x292000 x292001 x292002 x292003 x292004 x292005 x292006 x292007 x292008) else (wharfingerlaw13_ConfPorts.l0 k x1 x2 x3 x12 x13 false (wrap64 (x15 + 1)) x292000 x292001 x292002 x292003 x292004 x292005 x292006 x292007 x292008)) else (none)) else (none))) else (if x14 = true then (if x12 = x1 then (some (x13 == 3)) else (some false)) else (if x13 = 0 then (if x12 = (-1) then (some true) else (if x13 = 3 then (some (decide (x12 > x1))) else (some false))) else (if x13 = 3 then (some (decide (x12 > x1))) else (some false))))
end
def wharfingerlaw13_ConfPorts.f (k : Nat) (a0_0 : Int) (a0_1 : Int) (a0_2 : Int) (a0_3 : Int) (l0_4 : List (S40)) (a0_5 : Int) (a0_6 : Int) (a0_7 : Int) (a0_8 : Bool) (a1 : Int) (a2 : Int) (a3 : Int) : Option (Bool) := (wharfingerlaw13_awake.f).bind fun t292 => ((wharfingerlaw13_Few.f k a0_0 a0_1 a0_2 a0_3 l0_4 a0_5 a0_6 a0_7 a0_8).bind fun t293 => (if t292 = true then (if t293 = true then ((conf_May.f a0_0 a0_1 a0_2 a0_3 l0_4 a0_5 a0_6 a0_7 a0_8).bind fun t294 => (if t294 = true then (if a1 < 0 then (wharfingerlaw13_ConfPorts.j0 k a1 a2 a3 t292 true a0_0 a0_1 a0_2 a0_3 l0_4 a0_5 a0_6 a0_7 a0_8) else (wharfingerlaw13_ConfPorts.j0 k a1 a2 a3 t292 (decide (a1 ≥ (l0_4.length : Int))) a0_0 a0_1 a0_2 a0_3 l0_4 a0_5 a0_6 a0_7 a0_8)) else (wharfingerlaw13_ConfPorts.j0 k a1 a2 a3 t292 true a0_0 a0_1 a0_2 a0_3 l0_4 a0_5 a0_6 a0_7 a0_8))) else (wharfingerlaw13_ConfPorts.j0 k a1 a2 a3 t292 true a0_0 a0_1 a0_2 a0_3 l0_4 a0_5 a0_6 a0_7 a0_8)) else (wharfingerlaw13_ConfPorts.j0 k a1 a2 a3 t292 true a0_0 a0_1 a0_2 a0_3 l0_4 a0_5 a0_6 a0_7 a0_8)))
theorem wharfingerlaw13_ConfPorts.mono_l : ∀ k, (∀ y0 y1 y2 y3 y4 y5 y6 y7 y8 y9 y10 y11 y12 y13, LeO (wharfingerlaw13_ConfPorts.j0 k y0 y1 y2 y3 y4 y5 y6 y7 y8 y9 y10 y11 y12 y13) (wharfingerlaw13_ConfPorts.j0 (k + 1) y0 y1 y2 y3 y4 y5 y6 y7 y8 y9 y10 y11 y12 y13)) ∧ (∀ y0 y1 y2 y3 y4 y5 y6 y7 y8 y9 y10 y11 y12 y13 y14, LeO (wharfingerlaw13_ConfPorts.j1 k y0 y1 y2 y3 y4 y5 y6 y7 y8 y9 y10 y11 y12 y13 y14) (wharfingerlaw13_ConfPorts.j1 (k + 1) y0 y1 y2 y3 y4 y5 y6 y7 y8 y9 y10 y11 y12 y13 y14)) ∧ (∀ y0 y1 y2 y3 y4 y5 y6 y7 y8 y9 y10 y11 y12 y13 y14 y15, LeO (wharfingerlaw13_ConfPorts.l0 k y0 y1 y2 y3 y4 y5 y6 y7 y8 y9 y10 y11 y12 y13 y14 y15) (wharfingerlaw13_ConfPorts.l0 (k + 1) y0 y1 y2 y3 y4 y5 y6 y7 y8 y9 y10 y11 y12 y13 y14 y15))
 | 0 => ⟨fun _ _ _ _ _ _ _ _ _ _ _ _ _ _ r h => by simp [wharfingerlaw13_ConfPorts.j0] at h, fun _ _ _ _ _ _ _ _ _ _ _ _ _ _ _ r h => by simp [wharfingerlaw13_ConfPorts.j1] at h, fun _ _ _ _ _ _ _ _ _ _ _ _ _ _ _ _ r h => by simp [wharfingerlaw13_ConfPorts.l0] at h⟩
 | k + 1 => by
  obtain ⟨ih0, ih1, ih2⟩ := wharfingerlaw13_ConfPorts.mono_l k
  refine ⟨?_, ?_, ?_⟩
  ·
   intro y0 y1 y2 y3 y4 y5 y6 y7 y8 y9 y10 y11 y12 y13
   unfold wharfingerlaw13_ConfPorts.j0
   repeat' first
   | (with_reducible exact ih0 _ _ _ _ _ _ _ _ _ _ _ _ _ _)
   | (with_reducible exact ih1 _ _ _ _ _ _ _ _ _ _ _ _ _ _ _)
   | (with_reducible exact ih2 _ _ _ _ _ _ _ _ _ _ _ _ _ _ _ _)
   | (with_reducible exact wharfingerlaw13_Few.mono _ _ _ _ _ _ _ _ _ _)
   | (with_reducible exact LeO.refl _)
   | (with_reducible exact LeO.none _)
   | (with_reducible refine LeO.ite ?_ ?_)
   | (with_reducible refine LeO.bind ?_ (fun _ => ?_))
   | exact ih0 _ _ _ _ _ _ _ _ _ _ _ _ _ _
   | exact ih1 _ _ _ _ _ _ _ _ _ _ _ _ _ _ _
   | exact ih2 _ _ _ _ _ _ _ _ _ _ _ _ _ _ _ _
   | exact wharfingerlaw13_Few.mono _ _ _ _ _ _ _ _ _ _
   | exact LeO.none _
   | refine LeO.ite ?_ ?_
   | refine LeO.bind ?_ (fun _ => ?_)
  ·
   intro y0 y1 y2 y3 y4 y5 y6 y7 y8 y9 y10 y11 y12 y13 y14
   unfold wharfingerlaw13_ConfPorts.j1
   repeat' first
   | (with_reducible exact ih0 _ _ _ _ _ _ _ _ _ _ _ _ _ _)
   | (with_reducible exact ih1 _ _ _ _ _ _ _ _ _ _ _ _ _ _ _)
   | (with_reducible exact ih2 _ _ _ _ _ _ _ _ _ _ _ _ _ _ _ _)
   | (with_reducible exact wharfingerlaw13_Few.mono _ _ _ _ _ _ _ _ _ _)
   | (with_reducible exact LeO.refl _)
   | (with_reducible exact LeO.none _)
   | (with_reducible refine LeO.ite ?_ ?_)
   | (with_reducible refine LeO.bind ?_ (fun _ => ?_))
   | exact ih0 _ _ _ _ _ _ _ _ _ _ _ _ _ _
   | exact ih1 _ _ _ _ _ _ _ _ _ _ _ _ _ _ _
   | exact ih2 _ _ _ _ _ _ _ _ _ _ _ _ _ _ _ _
   | exact wharfingerlaw13_Few.mono _ _ _ _ _ _ _ _ _ _
   | exact LeO.none _
   | refine LeO.ite ?_ ?_
   | refine LeO.bind ?_ (fun _ => ?_)
  ·
   intro y0 y1 y2 y3 y4 y5 y6 y7 y8 y9 y10 y11 y12 y13 y14 y15
   unfold wharfingerlaw13_ConfPorts.l0
   repeat' first
   | (with_reducible exact ih0 _ _ _ _ _ _ _ _ _ _ _ _ _ _)
   | (with_reducible exact ih1 _ _ _ _ _ _ _ _ _ _ _ _ _ _ _)
   | (with_reducible exact ih2 _ _ _ _ _ _ _ _ _ _ _ _ _ _ _ _)
   | (with_reducible exact wharfingerlaw13_Few.mono _ _ _ _ _ _ _ _ _ _)
   | (with_reducible exact LeO.refl _)
   | (with_reducible exact LeO.none _)
   | (with_reducible refine LeO.ite ?_ ?_)
   | (with_reducible refine LeO.bind ?_ (fun _ => ?_))
   | exact ih0 _ _ _ _ _ _ _ _ _ _ _ _ _ _
   | exact ih1 _ _ _ _ _ _ _ _ _ _ _ _ _ _ _
   | exact ih2 _ _ _ _ _ _ _ _ _ _ _ _ _ _ _ _
   | exact wharfingerlaw13_Few.mono _ _ _ _ _ _ _ _ _ _
   | exact LeO.none _
   | refine LeO.ite ?_ ?_
   | refine LeO.bind ?_ (fun _ => ?_)
theorem wharfingerlaw13_ConfPorts.mono : ∀ a0 a1 a2 a3 a4 a5 a6 a7 a8 a9 a10 a11 k, LeO (wharfingerlaw13_ConfPorts.f k a0 a1 a2 a3 a4 a5 a6 a7 a8 a9 a10 a11) (wharfingerlaw13_ConfPorts.f (k + 1) a0 a1 a2 a3 a4 a5 a6 a7 a8 a9 a10 a11) := by
 intro a0 a1 a2 a3 a4 a5 a6 a7 a8 a9 a10 a11 k
 obtain ⟨ih0, ih1, ih2⟩ := wharfingerlaw13_ConfPorts.mono_l k
 unfold wharfingerlaw13_ConfPorts.f
 repeat' first
   | (with_reducible exact ih0 _ _ _ _ _ _ _ _ _ _ _ _ _ _)
   | (with_reducible exact ih1 _ _ _ _ _ _ _ _ _ _ _ _ _ _ _)
   | (with_reducible exact ih2 _ _ _ _ _ _ _ _ _ _ _ _ _ _ _ _)
   | (with_reducible exact wharfingerlaw13_Few.mono _ _ _ _ _ _ _ _ _ _)
   | (with_reducible exact LeO.refl _)
   | (with_reducible exact LeO.none _)
   | (with_reducible refine LeO.ite ?_ ?_)
   | (with_reducible refine LeO.bind ?_ (fun _ => ?_))
   | exact ih0 _ _ _ _ _ _ _ _ _ _ _ _ _ _
   | exact ih1 _ _ _ _ _ _ _ _ _ _ _ _ _ _ _
   | exact ih2 _ _ _ _ _ _ _ _ _ _ _ _ _ _ _ _
   | exact wharfingerlaw13_Few.mono _ _ _ _ _ _ _ _ _ _
   | exact LeO.none _
   | refine LeO.ite ?_ ?_
   | refine LeO.bind ?_ (fun _ => ?_)
set_option maxHeartbeats 8000000 in
set_option maxRecDepth 100000 in
theorem wharfingerlaw13_ConfPorts.calls (k : Nat) (a0_0 : Int) (a0_1 : Int) (a0_2 : Int) (a0_3 : Int) (P0_4_ : Nat → Prop) (A0_4 : Option Addr) (c0_4 : Nat) (l0_4 : List (S40)) (a0_5 : Int) (a0_6 : Int) (a0_7 : Int) (a0_8 : Bool) (a1 : Int) (a2 : Int) (a3 : Int) (r : Bool) (w : World) (hs0_4 : Kd.V k40 40 w w.heap.size (fun k_ => P0_4_ k_) (.slice A0_4 l0_4.length c0_4) l0_4) (hmet : WMet w) (h : wharfingerlaw13_ConfPorts.f k a0_0 a0_1 a0_2 a0_3 l0_4 a0_5 a0_6 a0_7 a0_8 a1 a2 a3 = some r) :
  Calls Tryd.prog 8 #[.agg #[.int .u8 a0_0, .int .u8 a0_1, .int .u8 a0_2, .int .u8 a0_3, .slice A0_4 l0_4.length c0_4, .int .i64 a0_5, .int .i64 a0_6, .int .i64 a0_7, .bool a0_8], .int .i64 a1, .int .i64 a2, .int .i64 a3] w fun e w' => e = .returned (.bool r) ∧ Below w.heap.size w w' := by
 have HMET := Aside0.mk hmet
 clear hmet
 have hu26 := Tryd.underlying26
 have HO0_4 := Aside0.mk (show Kd.V k40 40 w w.heap.size (fun k_ => (P0_4_ k_ ∨ w.heap.size ≤ k_)) (.slice A0_4 l0_4.length c0_4) l0_4 from Kd.V_mono hs0_4 (fun k_ hk => .inl hk))
 have HB := Aside0.mk (Below.refl w.heap.size w)
 have H : ((wharfingerlaw13_awake.f).bind fun t292 => ((wharfingerlaw13_Few.f k a0_0 a0_1 a0_2 a0_3 l0_4 a0_5 a0_6 a0_7 a0_8).bind fun t293 => (if t292 = true then (if t293 = true then ((conf_May.f a0_0 a0_1 a0_2 a0_3 l0_4 a0_5 a0_6 a0_7 a0_8).bind fun t294 => (if t294 = true then (if a1 < 0 then (wharfingerlaw13_ConfPorts.j0 k a1 a2 a3 t292 true a0_0 a0_1 a0_2 a0_3 l0_4 a0_5 a0_6 a0_7 a0_8) else (wharfingerlaw13_ConfPorts.j0 k a1 a2 a3 t292 (decide (a1 ≥ (l0_4.length : Int))) a0_0 a0_1 a0_2 a0_3 l0_4 a0_5 a0_6 a0_7 a0_8)) else (wharfingerlaw13_ConfPorts.j0 k a1 a2 a3 t292 true a0_0 a0_1 a0_2 a0_3 l0_4 a0_5 a0_6 a0_7 a0_8))) else (wharfingerlaw13_ConfPorts.j0 k a1 a2 a3 t292 true a0_0 a0_1 a0_2 a0_3 l0_4 a0_5 a0_6 a0_7 a0_8)) else (wharfingerlaw13_ConfPorts.j0 k a1 a2 a3 t292 true a0_0 a0_1 a0_2 a0_3 l0_4 a0_5 a0_6 a0_7 a0_8)))) = some r := h
 clear h
 replace H := Option.bind_eq_some_iff.mp H
 obtain ⟨t292, A50, H⟩ := H
 replace H : ((wharfingerlaw13_Few.f k a0_0 a0_1 a0_2 a0_3 l0_4 a0_5 a0_6 a0_7 a0_8).bind fun t293 => (if t292 = true then (if t293 = true then ((conf_May.f a0_0 a0_1 a0_2 a0_3 l0_4 a0_5 a0_6 a0_7 a0_8).bind fun t294 => (if t294 = true then (if a1 < 0 then (wharfingerlaw13_ConfPorts.j0 k a1 a2 a3 t292 true a0_0 a0_1 a0_2 a0_3 l0_4 a0_5 a0_6 a0_7 a0_8) else (wharfingerlaw13_ConfPorts.j0 k a1 a2 a3 t292 (decide (a1 ≥ (l0_4.length : Int))) a0_0 a0_1 a0_2 a0_3 l0_4 a0_5 a0_6 a0_7 a0_8)) else (wharfingerlaw13_ConfPorts.j0 k a1 a2 a3 t292 true a0_0 a0_1 a0_2 a0_3 l0_4 a0_5 a0_6 a0_7 a0_8))) else (wharfingerlaw13_ConfPorts.j0 k a1 a2 a3 t292 true a0_0 a0_1 a0_2 a0_3 l0_4 a0_5 a0_6 a0_7 a0_8)) else (wharfingerlaw13_ConfPorts.j0 k a1 a2 a3 t292 true a0_0 a0_1 a0_2 a0_3 l0_4 a0_5 a0_6 a0_7 a0_8))) = some r := H
 have A5 := Aside0.mk A50
 clear A50
 replace H := Option.bind_eq_some_iff.mp H
 obtain ⟨t293, A60, H⟩ := H
 replace H : (if t292 = true then (if t293 = true then ((conf_May.f a0_0 a0_1 a0_2 a0_3 l0_4 a0_5 a0_6 a0_7 a0_8).bind fun t294 => (if t294 = true then (if a1 < 0 then (wharfingerlaw13_ConfPorts.j0 k a1 a2 a3 t292 true a0_0 a0_1 a0_2 a0_3 l0_4 a0_5 a0_6 a0_7 a0_8) else (wharfingerlaw13_ConfPorts.j0 k a1 a2 a3 t292 (decide (a1 ≥ (l0_4.length : Int))) a0_0 a0_1 a0_2 a0_3 l0_4 a0_5 a0_6 a0_7 a0_8)) else (wharfingerlaw13_ConfPorts.j0 k a1 a2 a3 t292 true a0_0 a0_1 a0_2 a0_3 l0_4 a0_5 a0_6 a0_7 a0_8))) else (wharfingerlaw13_ConfPorts.j0 k a1 a2 a3 t292 true a0_0 a0_1 a0_2 a0_3 l0_4 a0_5 a0_6 a0_7 a0_8)) else (wharfingerlaw13_ConfPorts.j0 k a1 a2 a3 t292 true a0_0 a0_1 a0_2 a0_3 l0_4 a0_5 a0_6 a0_7 a0_8)) = some r := H
 have A6 := Aside0.mk A60
 clear A60
 have HC7 := Aside0.mk H
 clear H
 go_enter Tryd.func8, Tryd.ntmps8
 go_upto_region 3 with (first | ((with_reducible refine gate_dst (N := 4) rfl ?_); (try (refine gate_guard (by rfl) ?_; dsimp only)); refine box_event ?hg (N := 4) ?hd (cs := #[.int .u8 a0_0, .int .u8 a0_1, .int .u8 a0_2, .int .u8 a0_3, .slice A0_4 l0_4.length c0_4, .int .i64 a0_5, .int .i64 a0_6, .int .i64 a0_7, .bool a0_8]) (t := 26) ?hr ?_; (case hd => rfl); (case hg => rfl); (case hr => first | (go_simp; done) | (go_simp; rfl)); intro gb291 hg w8 hbox hb; have n0_ := Aside0.mk (Kd.V_below (Kd.V_elderB (by (with_reducible repeat (first | apply Kd.V_alloc | apply Kd.V_drewN | apply Kd.V_drew)); exact HO0_4.out) gb291 (Nat.le_of_eq hg.symm)) hb); have n1_ := Aside0.mk (below_step (by repeat (first | (with_reducible first | exact HB.out | apply below_alloc | apply pw_below_drewN | apply below_drew1) | exact HB.out)) hb); have n2_ := Aside0.mk (hbox); have n3_ := Aside0.mk ((by rw [hg]; exact (below_size (by repeat (first | (with_reducible first | exact HB.out | apply below_alloc | apply pw_below_drewN | apply below_drew1) | exact HB.out))) : w.heap.size ≤ gb291)); have n4_ := Aside0.mk ((by rw [hg]; exact (below_size (by repeat (first | (with_reducible first | exact HB.out | apply below_alloc | apply pw_below_drewN | apply below_drew1) | exact HB.out))) : w.heap.size ≤ gb291)); clear HO0_4; clear HB; have HO0_4 := n0_; have HB := n1_; have BK291 := n2_; have GW291 := n3_; have GE291 := n4_; clear n0_ n1_ n2_ n3_ n4_; clear hb hbox hg) | ((with_reducible refine gate_callee (f := 9) rfl ?_); refine goesL_ (some 16) rfl rfl Tryd.func9 (by kernel_rfl) rfl #[] rfl (by (try simp only [List.map_toArray, List.map_cons, List.map_nil]); first | done | rfl | (simp only [List.length_drop, List.length_take]; rfl)) ?_; (with_reducible refine (wharfingerlaw13_awake.calls  t292 _ ?side1 A5.out).mono ?_); (case side1 => exact HMET.out.below (by repeat (first | (with_reducible first | exact HB.out | apply below_alloc | apply pw_below_drewN | apply below_drew1 | refine below_set ?_ GE291.out) | exact HB.out))); rintro e w9 ⟨rfl, hb⟩; refine ⟨_, rfl, ?_⟩; have n0_ := Aside0.mk (Kd.V_below (by (with_reducible repeat (first | apply Kd.V_alloc | apply Kd.V_drewN | apply Kd.V_drew)); exact HO0_4.out) hb); have n1_ := Aside0.mk (blk_below (g := gb291) (o := .cells #[.int .u8 a0_0, .int .u8 a0_1, .int .u8 a0_2, .int .u8 a0_3, .slice A0_4 l0_4.length c0_4, .int .i64 a0_5, .int .i64 a0_6, .int .i64 a0_7, .bool a0_8] 26 (0, 0)) (by (with_reducible repeat (first | refine blk_drewN ?_ _ | refine blk_drew ?_ | refine blk_alloc ?_ _)); exact BK291.out) hb); have n2_ := Aside0.mk (below_step (by repeat (first | (with_reducible first | exact HB.out | apply below_alloc | apply pw_below_drewN | apply below_drew1 | refine below_set ?_ GE291.out) | exact HB.out)) hb); clear HO0_4; clear BK291; clear HB; have HO0_4 := n0_; have BK291 := n1_; have HB := n2_; clear n0_ n1_ n2_; (try clear hb); (try clear hb2); (try clear hk); (try clear hi); obtain ⟨hcz10_0, hcz10_1, hcz10_2, hcz10_3, hcz10_4, hcz10_5, hcz10_6, hcz10_7, hcz10_8⟩ := cl_9 (.int .u8 a0_0) (.int .u8 a0_1) (.int .u8 a0_2) (.int .u8 a0_3) (.slice A0_4 l0_4.length c0_4) (.int .i64 a0_5) (.int .i64 a0_6) (.int .i64 a0_7) (.bool a0_8) BK291.out; obtain ⟨hfz10_0, hfz10_1, hfz10_2, hfz10_3, hfz10_4, hfz10_5, hfz10_6, hfz10_7, hfz10_8⟩ := fz_9 BK291.out) | ((with_reducible refine gate_callee (f := 10) rfl ?_); refine goesL_ (some 18) rfl rfl Tryd.func10 (by kernel_rfl) rfl #[.agg #[.int .u8 a0_0, .int .u8 a0_1, .int .u8 a0_2, .int .u8 a0_3, .slice A0_4 l0_4.length c0_4, .int .i64 a0_5, .int .i64 a0_6, .int .i64 a0_7, .bool a0_8]] rfl (by (try simp only [List.map_toArray, List.map_cons, List.map_nil]); first | done | rfl | (simp only [List.length_drop, List.length_take]; rfl)) ?_; (with_reducible refine (wharfingerlaw13_Few.calls k a0_0 a0_1 a0_2 a0_3 _ _ l0_4 a0_5 a0_6 a0_7 a0_8 t293 _ ?side1 ?side2 A6.out).mono ?_); (case side1 => repeat (first | exact (Kd.V_reads' HO0_4.out).2.2 | (with_reducible refine Kd.C_alloc ?_ _) | (with_reducible refine Kd.C_drewN ?_ _) | (with_reducible refine Kd.C_drew ?_))); (case side2 => exact (Kd.V_reads' HO0_4.out).2.1); rintro e w11 ⟨rfl, hb⟩; refine ⟨_, rfl, ?_⟩; have n0_ := Aside0.mk (Kd.V_below (by (with_reducible repeat (first | apply Kd.V_alloc | apply Kd.V_drewN | apply Kd.V_drew)); exact HO0_4.out) hb); have n1_ := Aside0.mk (blk_below (g := gb291) (o := .cells #[.int .u8 a0_0, .int .u8 a0_1, .int .u8 a0_2, .int .u8 a0_3, .slice A0_4 l0_4.length c0_4, .int .i64 a0_5, .int .i64 a0_6, .int .i64 a0_7, .bool a0_8] 26 (0, 0)) (by (with_reducible repeat (first | refine blk_drewN ?_ _ | refine blk_drew ?_ | refine blk_alloc ?_ _)); exact BK291.out) hb); have n2_ := Aside0.mk (below_step (by repeat (first | (with_reducible first | exact HB.out | apply below_alloc | apply pw_below_drewN | apply below_drew1 | refine below_set ?_ GE291.out) | exact HB.out)) hb); clear HO0_4; clear BK291; clear HB; have HO0_4 := n0_; have BK291 := n1_; have HB := n2_; clear n0_ n1_ n2_; (try clear hb); (try clear hb2); (try clear hk); (try clear hi)))
 (try simp only [Act.put, List.setIfInBounds_toArray, List.set_cons_zero, List.set_cons_succ])
 go_cut [40] (fun v40 wc => ∃ (kq : Nat) (x40_6 : Bool), v40 = .bool x40_6 ∧ Aside0 (wharfingerlaw13_ConfPorts.j0 kq a1 a2 a3 t292 x40_6 a0_0 a0_1 a0_2 a0_3 l0_4 a0_5 a0_6 a0_7 a0_8 = some r) ∧ Aside0 (kq ≤ k) ∧ Aside0 (Kd.V k40 40 wc w.heap.size (fun k_ => (P0_4_ k_ ∨ w.heap.size ≤ k_) ∧ k_ ≠ gb291) (.slice A0_4 l0_4.length c0_4) l0_4) ∧ Aside0 (wc.heap[gb291]? = some (.cells #[.int .u8 a0_0, .int .u8 a0_1, .int .u8 a0_2, .int .u8 a0_3, (.slice A0_4 l0_4.length c0_4), .int .i64 a0_5, .int .i64 a0_6, .int .i64 a0_7, .bool a0_8] 26 (0, 0))) ∧ Aside0 (Below w.heap.size w wc))
 case first =>
  have H := HC7.out
  clear HC7
  by_cases c12 : t292 = true
  ·
   subst c12
   have H1 : (if t293 = true then ((conf_May.f a0_0 a0_1 a0_2 a0_3 l0_4 a0_5 a0_6 a0_7 a0_8).bind fun t294 => (if t294 = true then (if a1 < 0 then (wharfingerlaw13_ConfPorts.j0 k a1 a2 a3 true true a0_0 a0_1 a0_2 a0_3 l0_4 a0_5 a0_6 a0_7 a0_8) else (wharfingerlaw13_ConfPorts.j0 k a1 a2 a3 true (decide (a1 ≥ (l0_4.length : Int))) a0_0 a0_1 a0_2 a0_3 l0_4 a0_5 a0_6 a0_7 a0_8)) else (wharfingerlaw13_ConfPorts.j0 k a1 a2 a3 true true a0_0 a0_1 a0_2 a0_3 l0_4 a0_5 a0_6 a0_7 a0_8))) else (wharfingerlaw13_ConfPorts.j0 k a1 a2 a3 true true a0_0 a0_1 a0_2 a0_3 l0_4 a0_5 a0_6 a0_7 a0_8)) = some r := by rw [if_pos rfl] at H; exact H
   clear H
   have H := H1
   clear H1
   by_cases c13 : t293 = true
   ·
    subst c13
    have H1 : ((conf_May.f a0_0 a0_1 a0_2 a0_3 l0_4 a0_5 a0_6 a0_7 a0_8).bind fun t294 => (if t294 = true then (if a1 < 0 then (wharfingerlaw13_ConfPorts.j0 k a1 a2 a3 true true a0_0 a0_1 a0_2 a0_3 l0_4 a0_5 a0_6 a0_7 a0_8) else (wharfingerlaw13_ConfPorts.j0 k a1 a2 a3 true (decide (a1 ≥ (l0_4.length : Int))) a0_0 a0_1 a0_2 a0_3 l0_4 a0_5 a0_6 a0_7 a0_8)) else (wharfingerlaw13_ConfPorts.j0 k a1 a2 a3 true true a0_0 a0_1 a0_2 a0_3 l0_4 a0_5 a0_6 a0_7 a0_8))) = some r := by rw [if_pos rfl] at H; exact H
    clear H
    have H := H1
    clear H1
    replace H := Option.bind_eq_some_iff.mp H
    obtain ⟨t294, A140, H⟩ := H
    replace H : (if t294 = true then (if a1 < 0 then (wharfingerlaw13_ConfPorts.j0 k a1 a2 a3 true true a0_0 a0_1 a0_2 a0_3 l0_4 a0_5 a0_6 a0_7 a0_8) else (wharfingerlaw13_ConfPorts.j0 k a1 a2 a3 true (decide (a1 ≥ (l0_4.length : Int))) a0_0 a0_1 a0_2 a0_3 l0_4 a0_5 a0_6 a0_7 a0_8)) else (wharfingerlaw13_ConfPorts.j0 k a1 a2 a3 true true a0_0 a0_1 a0_2 a0_3 l0_4 a0_5 a0_6 a0_7 a0_8)) = some r := H
    have A14 := Aside0.mk A140
    clear A140
    by_cases c15 : t294 = true
    ·
     subst c15
     have H1 : (if a1 < 0 then (wharfingerlaw13_ConfPorts.j0 k a1 a2 a3 true true a0_0 a0_1 a0_2 a0_3 l0_4 a0_5 a0_6 a0_7 a0_8) else (wharfingerlaw13_ConfPorts.j0 k a1 a2 a3 true (decide (a1 ≥ (l0_4.length : Int))) a0_0 a0_1 a0_2 a0_3 l0_4 a0_5 a0_6 a0_7 a0_8)) = some r := by rw [if_pos rfl] at H; exact H
     clear H
     have H := H1
     clear H1
     by_cases c16 : a1 < 0
     ·
      rw [if_pos c16] at H
      have c16b0 : decide (a1 < 0) = true := decide_eq_true c16
      clear c16
      (first | rw [c16b0] | (simp only [i64_w, i32_w]; rw [c16b0]) | skip)
      have H' := Aside0.mk H
      clear H
      have hcz17_0 : w11.cell? ⟨gb291, 0, none⟩ = some (.int .u8 a0_0) := (blk_cell BK291.out 0).trans rfl
      have hcz17_1 : w11.cell? ⟨gb291, 1, none⟩ = some (.int .u8 a0_1) := (blk_cell BK291.out 1).trans rfl
      have hcz17_2 : w11.cell? ⟨gb291, 2, none⟩ = some (.int .u8 a0_2) := (blk_cell BK291.out 2).trans rfl
      have hcz17_3 : w11.cell? ⟨gb291, 3, none⟩ = some (.int .u8 a0_3) := (blk_cell BK291.out 3).trans rfl
      have hcz17_4 : w11.cell? ⟨gb291, 4, none⟩ = some (.slice A0_4 l0_4.length c0_4) := (blk_cell BK291.out 4).trans rfl
      have hcz17_5 : w11.cell? ⟨gb291, 5, none⟩ = some (.int .i64 a0_5) := (blk_cell BK291.out 5).trans rfl
      have hcz17_6 : w11.cell? ⟨gb291, 6, none⟩ = some (.int .i64 a0_6) := (blk_cell BK291.out 6).trans rfl
      have hcz17_7 : w11.cell? ⟨gb291, 7, none⟩ = some (.int .i64 a0_7) := (blk_cell BK291.out 7).trans rfl
      have hcz17_8 : w11.cell? ⟨gb291, 8, none⟩ = some (.bool a0_8) := (blk_cell BK291.out 8).trans rfl
      have hfz17_0 := blk_frozen BK291.out 0
      have hfz17_1 := blk_frozen BK291.out 1
      have hfz17_2 := blk_frozen BK291.out 2
      have hfz17_3 := blk_frozen BK291.out 3
      have hfz17_4 := blk_frozen BK291.out 4
      have hfz17_5 := blk_frozen BK291.out 5
      have hfz17_6 := blk_frozen BK291.out 6
      have hfz17_7 := blk_frozen BK291.out 7
      have hfz17_8 := blk_frozen BK291.out 8
      go_wp2_with (first | (go_at_call 14; (with_reducible refine (conf_May.calls a0_0 a0_1 a0_2 a0_3 _ _ l0_4 a0_5 a0_6 a0_7 a0_8 true _ ?side1 ?side2 ?side3 A14.out).mono ?_); (case side1 => repeat (first | exact (Kd.V_reads' HO0_4.out).2.2 | (with_reducible refine Kd.C_alloc ?_ _) | (with_reducible refine Kd.C_drewN ?_ _) | (with_reducible refine Kd.C_drew ?_))); (case side2 => exact (Kd.V_reads' HO0_4.out).2.1); (case side3 => exact HMET.out.below (by repeat (first | (with_reducible first | exact HB.out | apply below_alloc | apply pw_below_drewN | apply below_drew1 | refine below_set ?_ GE291.out) | exact HB.out))); rintro e w18 ⟨rfl, hb⟩; have n0_ := Aside0.mk (Kd.V_below (by (with_reducible repeat (first | apply Kd.V_alloc | apply Kd.V_drewN | apply Kd.V_drew)); exact HO0_4.out) hb); have n1_ := Aside0.mk (blk_below (g := gb291) (o := .cells #[.int .u8 a0_0, .int .u8 a0_1, .int .u8 a0_2, .int .u8 a0_3, .slice A0_4 l0_4.length c0_4, .int .i64 a0_5, .int .i64 a0_6, .int .i64 a0_7, .bool a0_8] 26 (0, 0)) (by (with_reducible repeat (first | refine blk_drewN ?_ _ | refine blk_drew ?_ | refine blk_alloc ?_ _)); exact BK291.out) hb); have n2_ := Aside0.mk (below_step (by repeat (first | (with_reducible first | exact HB.out | apply below_alloc | apply pw_below_drewN | apply below_drew1 | refine below_set ?_ GE291.out) | exact HB.out)) hb); clear HO0_4; clear BK291; clear HB; have HO0_4 := n0_; have BK291 := n1_; have HB := n2_; clear n0_ n1_ n2_; (try clear hb); (try clear hb2); (try clear hk); (try clear hi)))
      go_meet
      case rel => exact ⟨_, (true), (by first | rfl | (simp; done) | (simp [*]; done)), H', ⟨by first | omega | exact Nat.le_refl _⟩, ⟨by (with_reducible repeat (first | apply Kd.V_alloc | apply Kd.V_drewN | apply Kd.V_drew)); exact HO0_4.out⟩, ⟨by (with_reducible repeat (first | refine blk_drewN ?_ _ | refine blk_drew ?_ | refine blk_alloc ?_ _)); exact BK291.out⟩, ⟨by repeat (first | (with_reducible first | exact HB.out | apply below_alloc | apply pw_below_drewN | apply below_drew1 | refine below_set ?_ GE291.out) | exact HB.out)⟩⟩
     ·
      rw [if_neg c16] at H
      have c16b0 : decide (a1 < 0) = false := decide_eq_false c16
      clear c16
      (first | rw [c16b0] | (simp only [i64_w, i32_w]; rw [c16b0]) | skip)
      have H' := Aside0.mk H
      clear H
      have hcz19_0 : w11.cell? ⟨gb291, 0, none⟩ = some (.int .u8 a0_0) := (blk_cell BK291.out 0).trans rfl
      have hcz19_1 : w11.cell? ⟨gb291, 1, none⟩ = some (.int .u8 a0_1) := (blk_cell BK291.out 1).trans rfl
      have hcz19_2 : w11.cell? ⟨gb291, 2, none⟩ = some (.int .u8 a0_2) := (blk_cell BK291.out 2).trans rfl
      have hcz19_3 : w11.cell? ⟨gb291, 3, none⟩ = some (.int .u8 a0_3) := (blk_cell BK291.out 3).trans rfl
      have hcz19_4 : w11.cell? ⟨gb291, 4, none⟩ = some (.slice A0_4 l0_4.length c0_4) := (blk_cell BK291.out 4).trans rfl
      have hcz19_5 : w11.cell? ⟨gb291, 5, none⟩ = some (.int .i64 a0_5) := (blk_cell BK291.out 5).trans rfl
      have hcz19_6 : w11.cell? ⟨gb291, 6, none⟩ = some (.int .i64 a0_6) := (blk_cell BK291.out 6).trans rfl
      have hcz19_7 : w11.cell? ⟨gb291, 7, none⟩ = some (.int .i64 a0_7) := (blk_cell BK291.out 7).trans rfl
      have hcz19_8 : w11.cell? ⟨gb291, 8, none⟩ = some (.bool a0_8) := (blk_cell BK291.out 8).trans rfl
      have hfz19_0 := blk_frozen BK291.out 0
      have hfz19_1 := blk_frozen BK291.out 1
      have hfz19_2 := blk_frozen BK291.out 2
      have hfz19_3 := blk_frozen BK291.out 3
      have hfz19_4 := blk_frozen BK291.out 4
      have hfz19_5 := blk_frozen BK291.out 5
      have hfz19_6 := blk_frozen BK291.out 6
      have hfz19_7 := blk_frozen BK291.out 7
      have hfz19_8 := blk_frozen BK291.out 8
      go_wp2_with (first | (go_at_call 14; (with_reducible refine (conf_May.calls a0_0 a0_1 a0_2 a0_3 _ _ l0_4 a0_5 a0_6 a0_7 a0_8 true _ ?side1 ?side2 ?side3 A14.out).mono ?_); (case side1 => repeat (first | exact (Kd.V_reads' HO0_4.out).2.2 | (with_reducible refine Kd.C_alloc ?_ _) | (with_reducible refine Kd.C_drewN ?_ _) | (with_reducible refine Kd.C_drew ?_))); (case side2 => exact (Kd.V_reads' HO0_4.out).2.1); (case side3 => exact HMET.out.below (by repeat (first | (with_reducible first | exact HB.out | apply below_alloc | apply pw_below_drewN | apply below_drew1 | refine below_set ?_ GE291.out) | exact HB.out))); rintro e w20 ⟨rfl, hb⟩; have n0_ := Aside0.mk (Kd.V_below (by (with_reducible repeat (first | apply Kd.V_alloc | apply Kd.V_drewN | apply Kd.V_drew)); exact HO0_4.out) hb); have n1_ := Aside0.mk (blk_below (g := gb291) (o := .cells #[.int .u8 a0_0, .int .u8 a0_1, .int .u8 a0_2, .int .u8 a0_3, .slice A0_4 l0_4.length c0_4, .int .i64 a0_5, .int .i64 a0_6, .int .i64 a0_7, .bool a0_8] 26 (0, 0)) (by (with_reducible repeat (first | refine blk_drewN ?_ _ | refine blk_drew ?_ | refine blk_alloc ?_ _)); exact BK291.out) hb); have n2_ := Aside0.mk (below_step (by repeat (first | (with_reducible first | exact HB.out | apply below_alloc | apply pw_below_drewN | apply below_drew1 | refine below_set ?_ GE291.out) | exact HB.out)) hb); clear HO0_4; clear BK291; clear HB; have HO0_4 := n0_; have BK291 := n1_; have HB := n2_; clear n0_ n1_ n2_; (try clear hb); (try clear hb2); (try clear hk); (try clear hi); obtain ⟨hcz21_0, hcz21_1, hcz21_2, hcz21_3, hcz21_4, hcz21_5, hcz21_6, hcz21_7, hcz21_8⟩ := cl_9 (.int .u8 a0_0) (.int .u8 a0_1) (.int .u8 a0_2) (.int .u8 a0_3) (.slice A0_4 l0_4.length c0_4) (.int .i64 a0_5) (.int .i64 a0_6) (.int .i64 a0_7) (.bool a0_8) BK291.out; obtain ⟨hfz21_0, hfz21_1, hfz21_2, hfz21_3, hfz21_4, hfz21_5, hfz21_6, hfz21_7, hfz21_8⟩ := fz_9 BK291.out))
      go_meet
      case rel => exact ⟨_, (decide (a1 ≥ (l0_4.length : Int))), (by first | rfl | (simp; done) | (simp [*]; done)), H', ⟨by first | omega | exact Nat.le_refl _⟩, ⟨by (with_reducible repeat (first | apply Kd.V_alloc | apply Kd.V_drewN | apply Kd.V_drew)); exact HO0_4.out⟩, ⟨by (with_reducible repeat (first | refine blk_drewN ?_ _ | refine blk_drew ?_ | refine blk_alloc ?_ _)); exact BK291.out⟩, ⟨by repeat (first | (with_reducible first | exact HB.out | apply below_alloc | apply pw_below_drewN | apply below_drew1 | refine below_set ?_ GE291.out) | exact HB.out)⟩⟩
    ·
     replace c15 := Bool.eq_false_iff.mpr c15
     subst c15
     have H1 : (wharfingerlaw13_ConfPorts.j0 k a1 a2 a3 true true a0_0 a0_1 a0_2 a0_3 l0_4 a0_5 a0_6 a0_7 a0_8) = some r := by rw [if_neg (show ¬ (false = true) by decide)] at H; exact H
     clear H
     have H := H1
     clear H1
     have H' := Aside0.mk H
     clear H
     have hcz22_0 : w11.cell? ⟨gb291, 0, none⟩ = some (.int .u8 a0_0) := (blk_cell BK291.out 0).trans rfl
     have hcz22_1 : w11.cell? ⟨gb291, 1, none⟩ = some (.int .u8 a0_1) := (blk_cell BK291.out 1).trans rfl
     have hcz22_2 : w11.cell? ⟨gb291, 2, none⟩ = some (.int .u8 a0_2) := (blk_cell BK291.out 2).trans rfl
     have hcz22_3 : w11.cell? ⟨gb291, 3, none⟩ = some (.int .u8 a0_3) := (blk_cell BK291.out 3).trans rfl
     have hcz22_4 : w11.cell? ⟨gb291, 4, none⟩ = some (.slice A0_4 l0_4.length c0_4) := (blk_cell BK291.out 4).trans rfl
     have hcz22_5 : w11.cell? ⟨gb291, 5, none⟩ = some (.int .i64 a0_5) := (blk_cell BK291.out 5).trans rfl
     have hcz22_6 : w11.cell? ⟨gb291, 6, none⟩ = some (.int .i64 a0_6) := (blk_cell BK291.out 6).trans rfl
     have hcz22_7 : w11.cell? ⟨gb291, 7, none⟩ = some (.int .i64 a0_7) := (blk_cell BK291.out 7).trans rfl
     have hcz22_8 : w11.cell? ⟨gb291, 8, none⟩ = some (.bool a0_8) := (blk_cell BK291.out 8).trans rfl
     have hfz22_0 := blk_frozen BK291.out 0
     have hfz22_1 := blk_frozen BK291.out 1
     have hfz22_2 := blk_frozen BK291.out 2
     have hfz22_3 := blk_frozen BK291.out 3
     have hfz22_4 := blk_frozen BK291.out 4
     have hfz22_5 := blk_frozen BK291.out 5
     have hfz22_6 := blk_frozen BK291.out 6
     have hfz22_7 := blk_frozen BK291.out 7
     have hfz22_8 := blk_frozen BK291.out 8
     go_wp2_with (first | (go_at_call 14; (with_reducible refine (conf_May.calls a0_0 a0_1 a0_2 a0_3 _ _ l0_4 a0_5 a0_6 a0_7 a0_8 false _ ?side1 ?side2 ?side3 A14.out).mono ?_); (case side1 => repeat (first | exact (Kd.V_reads' HO0_4.out).2.2 | (with_reducible refine Kd.C_alloc ?_ _) | (with_reducible refine Kd.C_drewN ?_ _) | (with_reducible refine Kd.C_drew ?_))); (case side2 => exact (Kd.V_reads' HO0_4.out).2.1); (case side3 => exact HMET.out.below (by repeat (first | (with_reducible first | exact HB.out | apply below_alloc | apply pw_below_drewN | apply below_drew1 | refine below_set ?_ GE291.out) | exact HB.out))); rintro e w23 ⟨rfl, hb⟩; have n0_ := Aside0.mk (Kd.V_below (by (with_reducible repeat (first | apply Kd.V_alloc | apply Kd.V_drewN | apply Kd.V_drew)); exact HO0_4.out) hb); have n1_ := Aside0.mk (blk_below (g := gb291) (o := .cells #[.int .u8 a0_0, .int .u8 a0_1, .int .u8 a0_2, .int .u8 a0_3, .slice A0_4 l0_4.length c0_4, .int .i64 a0_5, .int .i64 a0_6, .int .i64 a0_7, .bool a0_8] 26 (0, 0)) (by (with_reducible repeat (first | refine blk_drewN ?_ _ | refine blk_drew ?_ | refine blk_alloc ?_ _)); exact BK291.out) hb); have n2_ := Aside0.mk (below_step (by repeat (first | (with_reducible first | exact HB.out | apply below_alloc | apply pw_below_drewN | apply below_drew1 | refine below_set ?_ GE291.out) | exact HB.out)) hb); clear HO0_4; clear BK291; clear HB; have HO0_4 := n0_; have BK291 := n1_; have HB := n2_; clear n0_ n1_ n2_; (try clear hb); (try clear hb2); (try clear hk); (try clear hi)))
     go_meet
     case rel => exact ⟨_, (true), (by first | rfl | (simp; done) | (simp [*]; done)), H', ⟨by first | omega | exact Nat.le_refl _⟩, ⟨by (with_reducible repeat (first | apply Kd.V_alloc | apply Kd.V_drewN | apply Kd.V_drew)); exact HO0_4.out⟩, ⟨by (with_reducible repeat (first | refine blk_drewN ?_ _ | refine blk_drew ?_ | refine blk_alloc ?_ _)); exact BK291.out⟩, ⟨by repeat (first | (with_reducible first | exact HB.out | apply below_alloc | apply pw_below_drewN | apply below_drew1 | refine below_set ?_ GE291.out) | exact HB.out)⟩⟩
   ·
    replace c13 := Bool.eq_false_iff.mpr c13
    subst c13
    have H1 : (wharfingerlaw13_ConfPorts.j0 k a1 a2 a3 true true a0_0 a0_1 a0_2 a0_3 l0_4 a0_5 a0_6 a0_7 a0_8) = some r := by rw [if_neg (show ¬ (false = true) by decide)] at H; exact H
    clear H
    have H := H1
    clear H1
    have H' := Aside0.mk H
    clear H
    go_wp2
    go_meet
    case rel => exact ⟨_, (true), (by first | rfl | (simp; done) | (simp [*]; done)), H', ⟨by first | omega | exact Nat.le_refl _⟩, ⟨by (with_reducible repeat (first | apply Kd.V_alloc | apply Kd.V_drewN | apply Kd.V_drew)); exact HO0_4.out⟩, ⟨by (with_reducible repeat (first | refine blk_drewN ?_ _ | refine blk_drew ?_ | refine blk_alloc ?_ _)); exact BK291.out⟩, ⟨by repeat (first | (with_reducible first | exact HB.out | apply below_alloc | apply pw_below_drewN | apply below_drew1 | refine below_set ?_ GE291.out) | exact HB.out)⟩⟩
  ·
   replace c12 := Bool.eq_false_iff.mpr c12
   subst c12
   have H1 : (wharfingerlaw13_ConfPorts.j0 k a1 a2 a3 false true a0_0 a0_1 a0_2 a0_3 l0_4 a0_5 a0_6 a0_7 a0_8) = some r := by rw [if_neg (show ¬ (false = true) by decide)] at H; exact H
   clear H
   have H := H1
   clear H1
   have H' := Aside0.mk H
   clear H
   go_wp2
   go_meet
   case rel => exact ⟨_, (true), (by first | rfl | (simp; done) | (simp [*]; done)), H', ⟨by first | omega | exact Nat.le_refl _⟩, ⟨by (with_reducible repeat (first | apply Kd.V_alloc | apply Kd.V_drewN | apply Kd.V_drew)); exact HO0_4.out⟩, ⟨by (with_reducible repeat (first | refine blk_drewN ?_ _ | refine blk_drew ?_ | refine blk_alloc ?_ _)); exact BK291.out⟩, ⟨by repeat (first | (with_reducible first | exact HB.out | apply below_alloc | apply pw_below_drewN | apply below_drew1 | refine below_set ?_ GE291.out) | exact HB.out)⟩⟩
 case rest =>
  clear HC7
  try clear c1
  try clear p2
  try clear c8
  try clear c9
  try clear c10
  try clear c12
  try clear c13
  try clear c15
  try clear c16
  try clear c16b0
  try clear hcz10_0
  try clear hcz10_1
  try clear hcz10_2
  try clear hcz10_3
  try clear hcz10_4
  try clear hcz10_5
  try clear hcz10_6
  try clear hcz10_7
  try clear hcz10_8
  try clear hcz17_0
  try clear hcz17_1
  try clear hcz17_2
  try clear hcz17_3
  try clear hcz17_4
  try clear hcz17_5
  try clear hcz17_6
  try clear hcz17_7
  try clear hcz17_8
  try clear hcz19_0
  try clear hcz19_1
  try clear hcz19_2
  try clear hcz19_3
  try clear hcz19_4
  try clear hcz19_5
  try clear hcz19_6
  try clear hcz19_7
  try clear hcz19_8
  try clear hcz21_0
  try clear hcz21_1
  try clear hcz21_2
  try clear hcz21_3
  try clear hcz21_4
  try clear hcz21_5
  try clear hcz21_6
  try clear hcz21_7
  try clear hcz21_8
  try clear hcz22_0
  try clear hcz22_1
  try clear hcz22_2
  try clear hcz22_3
  try clear hcz22_4
  try clear hcz22_5
  try clear hcz22_6
  try clear hcz22_7
  try clear hcz22_8
  try clear hfz10_0
  try clear hfz10_1
  try clear hfz10_2
  try clear hfz10_3
  try clear hfz10_4
  try clear hfz10_5
  try clear hfz10_6
  try clear hfz10_7
  try clear hfz10_8
  try clear hfz17_0
  try clear hfz17_1
  try clear hfz17_2
  try clear hfz17_3
  try clear hfz17_4
  try clear hfz17_5
  try clear hfz17_6
  try clear hfz17_7
  try clear hfz17_8
  try clear hfz19_0
  try clear hfz19_1
  try clear hfz19_2
  try clear hfz19_3
  try clear hfz19_4
  try clear hfz19_5
  try clear hfz19_6
  try clear hfz19_7
  try clear hfz19_8
  try clear hfz21_0
  try clear hfz21_1
  try clear hfz21_2
  try clear hfz21_3
  try clear hfz21_4
  try clear hfz21_5
  try clear hfz21_6
  try clear hfz21_7
  try clear hfz21_8
  try clear hfz22_0
  try clear hfz22_1
  try clear hfz22_2
  try clear hfz22_3
  try clear hfz22_4
  try clear hfz22_5
  try clear hfz22_6
  try clear hfz22_7
  try clear hfz22_8
  obtain ⟨kq, x40_6, rfl, HA, HJ6, HO_292004, BK291, HB⟩ := hcut
  cases kq with
  | zero => exact absurd HA.out (by simp [wharfingerlaw13_ConfPorts.j0])
  | succ kj6 =>
   have H := HA.out
   clear HA
   simp only [wharfingerlaw13_ConfPorts.j0] at H
   by_cases c24 : x40_6 = true
   ·
    subst c24
    have H1 : (some t292) = some r := by rw [if_pos rfl] at H; exact H
    clear H
    have H := H1
    clear H1
    obtain rfl := Option.some.inj H
    go_wp2
    go_ret
    exact ⟨by first | rfl | (simp [errW_none, errW_some] <;> rfl) | (simp [*, errW_none, errW_some] <;> rfl), by repeat (first | (with_reducible first | exact HB.out | apply below_alloc | apply pw_below_drewN | apply below_drew1 | refine below_set ?_ GE291.out) | exact HB.out)⟩
   ·
    replace c24 := Bool.eq_false_iff.mpr c24
    subst c24
    have H1 : (if ([] : List (S40)).length + l0_4.length < 1172812402961 then ((some (([] : List (S40)) ++ l0_4 : List (S40))).bind fun y296 => (if 0 ≤ a1 then (if a1 < (y296.length : Int) then ((some (y296.set (a1 : Int).toNat (⟨(rd_T40 y296 a1).f0, (rd_T40 y296 a1).f1, (⟨(⟨(rd_T40 y296 a1).f2.f0.f0, (rd_T40 y296 a1).f2.f0.f1, (rd_T40 y296 a1).f2.f0.f2, (rd_T40 y296 a1).f2.f0.f3⟩ : S23), (rd_T40 y296 a1).f2.f1⟩ : S37), a2, (rd_T40 y296 a1).f4, (rd_T40 y296 a1).f5, (rd_T40 y296 a1).f6, (rd_T40 y296 a1).f7, (rd_T40 y296 a1).f8, (rd_T40 y296 a1).f9⟩ : S40) : List (S40))).bind fun y299 => ((conf_Why.f a0_0 a0_1 a0_2 a0_3 (y299.set (a1 : Int).toNat (⟨(rd_T40 y299 a1).f0, (rd_T40 y299 a1).f1, (⟨(⟨(rd_T40 y299 a1).f2.f0.f0, (rd_T40 y299 a1).f2.f0.f1, (rd_T40 y299 a1).f2.f0.f2, (rd_T40 y299 a1).f2.f0.f3⟩ : S23), (rd_T40 y299 a1).f2.f1⟩ : S37), (rd_T40 y299 a1).f3, a3, (rd_T40 y299 a1).f5, (rd_T40 y299 a1).f6, (rd_T40 y299 a1).f7, (rd_T40 y299 a1).f8, (rd_T40 y299 a1).f9⟩ : S40)) a0_5 a0_6 a0_7 a0_8).bind fun bt301 => (if a2 < 1024 then (wharfingerlaw13_ConfPorts.j1 kj6 a1 a2 a3 bt301.1 bt301.2 true a0_0 a0_1 a0_2 a0_3 l0_4 a0_5 a0_6 a0_7 a0_8) else (if a3 > 65535 then (wharfingerlaw13_ConfPorts.j1 kj6 a1 a2 a3 bt301.1 bt301.2 true a0_0 a0_1 a0_2 a0_3 l0_4 a0_5 a0_6 a0_7 a0_8) else (wharfingerlaw13_ConfPorts.j1 kj6 a1 a2 a3 bt301.1 bt301.2 (decide (a2 > a3)) a0_0 a0_1 a0_2 a0_3 l0_4 a0_5 a0_6 a0_7 a0_8))))) else (none)) else (none))) else (none)) = some r := by rw [if_neg (show ¬ (false = true) by decide)] at H; exact H
    clear H
    have H := H1
    clear H1
    by_cases c25 : ([] : List (S40)).length + l0_4.length < 1172812402961
    ·
     rw [if_pos c25] at H
     have LMc25 := Aside0.mk c25
     clear c25
     obtain ⟨y296, hy296⟩ : ∃ y_ : List (S40), y_ = (([] : List (S40)) ++ l0_4) := ⟨_, rfl⟩
     replace H : (if 0 ≤ a1 then (if a1 < (y296.length : Int) then ((some (y296.set (a1 : Int).toNat (⟨(rd_T40 y296 a1).f0, (rd_T40 y296 a1).f1, (⟨(⟨(rd_T40 y296 a1).f2.f0.f0, (rd_T40 y296 a1).f2.f0.f1, (rd_T40 y296 a1).f2.f0.f2, (rd_T40 y296 a1).f2.f0.f3⟩ : S23), (rd_T40 y296 a1).f2.f1⟩ : S37), a2, (rd_T40 y296 a1).f4, (rd_T40 y296 a1).f5, (rd_T40 y296 a1).f6, (rd_T40 y296 a1).f7, (rd_T40 y296 a1).f8, (rd_T40 y296 a1).f9⟩ : S40) : List (S40))).bind fun y299 => ((conf_Why.f a0_0 a0_1 a0_2 a0_3 (y299.set (a1 : Int).toNat (⟨(rd_T40 y299 a1).f0, (rd_T40 y299 a1).f1, (⟨(⟨(rd_T40 y299 a1).f2.f0.f0, (rd_T40 y299 a1).f2.f0.f1, (rd_T40 y299 a1).f2.f0.f2, (rd_T40 y299 a1).f2.f0.f3⟩ : S23), (rd_T40 y299 a1).f2.f1⟩ : S37), (rd_T40 y299 a1).f3, a3, (rd_T40 y299 a1).f5, (rd_T40 y299 a1).f6, (rd_T40 y299 a1).f7, (rd_T40 y299 a1).f8, (rd_T40 y299 a1).f9⟩ : S40)) a0_5 a0_6 a0_7 a0_8).bind fun bt301 => (if a2 < 1024 then (wharfingerlaw13_ConfPorts.j1 kj6 a1 a2 a3 bt301.1 bt301.2 true a0_0 a0_1 a0_2 a0_3 l0_4 a0_5 a0_6 a0_7 a0_8) else (if a3 > 65535 then (wharfingerlaw13_ConfPorts.j1 kj6 a1 a2 a3 bt301.1 bt301.2 true a0_0 a0_1 a0_2 a0_3 l0_4 a0_5 a0_6 a0_7 a0_8) else (wharfingerlaw13_ConfPorts.j1 kj6 a1 a2 a3 bt301.1 bt301.2 (decide (a2 > a3)) a0_0 a0_1 a0_2 a0_3 l0_4 a0_5 a0_6 a0_7 a0_8))))) else (none)) else (none)) = some r := by first | (rw [hy296]; with_reducible exact H) | (have H2_ := (Option.bind_some _ _).symm.trans H; rw [hy296]; with_reducible exact H2_) | (have H2_ := (Option.bind_some _ _).symm.trans H; with_reducible exact H2_) | with_reducible exact H | (rw [hy296]; exact H) | exact H
     have Ny296 := Aside0.mk hy296
     clear hy296
     by_cases c26 : 0 ≤ a1
     ·
      rw [if_pos c26] at H
      have c26b0 : decide (0 ≤ a1) = true := decide_eq_true c26
      clear c26
      by_cases c27 : a1 < (y296.length : Int)
      ·
       rw [if_pos c27] at H
       have c27b0 : decide (a1 < (y296.length : Int)) = true := decide_eq_true c27
       clear c27
       obtain ⟨y299, hy299⟩ : ∃ y_ : List (S40), y_ = (y296.set (a1 : Int).toNat (⟨(rd_T40 y296 a1).f0, (rd_T40 y296 a1).f1, (⟨(⟨(rd_T40 y296 a1).f2.f0.f0, (rd_T40 y296 a1).f2.f0.f1, (rd_T40 y296 a1).f2.f0.f2, (rd_T40 y296 a1).f2.f0.f3⟩ : S23), (rd_T40 y296 a1).f2.f1⟩ : S37), a2, (rd_T40 y296 a1).f4, (rd_T40 y296 a1).f5, (rd_T40 y296 a1).f6, (rd_T40 y296 a1).f7, (rd_T40 y296 a1).f8, (rd_T40 y296 a1).f9⟩ : S40)) := ⟨_, rfl⟩
       replace H : ((conf_Why.f a0_0 a0_1 a0_2 a0_3 (y299.set (a1 : Int).toNat (⟨(rd_T40 y299 a1).f0, (rd_T40 y299 a1).f1, (⟨(⟨(rd_T40 y299 a1).f2.f0.f0, (rd_T40 y299 a1).f2.f0.f1, (rd_T40 y299 a1).f2.f0.f2, (rd_T40 y299 a1).f2.f0.f3⟩ : S23), (rd_T40 y299 a1).f2.f1⟩ : S37), (rd_T40 y299 a1).f3, a3, (rd_T40 y299 a1).f5, (rd_T40 y299 a1).f6, (rd_T40 y299 a1).f7, (rd_T40 y299 a1).f8, (rd_T40 y299 a1).f9⟩ : S40)) a0_5 a0_6 a0_7 a0_8).bind fun bt301 => (if a2 < 1024 then (wharfingerlaw13_ConfPorts.j1 kj6 a1 a2 a3 bt301.1 bt301.2 true a0_0 a0_1 a0_2 a0_3 l0_4 a0_5 a0_6 a0_7 a0_8) else (if a3 > 65535 then (wharfingerlaw13_ConfPorts.j1 kj6 a1 a2 a3 bt301.1 bt301.2 true a0_0 a0_1 a0_2 a0_3 l0_4 a0_5 a0_6 a0_7 a0_8) else (wharfingerlaw13_ConfPorts.j1 kj6 a1 a2 a3 bt301.1 bt301.2 (decide (a2 > a3)) a0_0 a0_1 a0_2 a0_3 l0_4 a0_5 a0_6 a0_7 a0_8)))) = some r := by first | (rw [hy299]; with_reducible exact H) | (have H2_ := (Option.bind_some _ _).symm.trans H; rw [hy299]; with_reducible exact H2_) | (have H2_ := (Option.bind_some _ _).symm.trans H; with_reducible exact H2_) | with_reducible exact H | (rw [hy299]; exact H) | exact H
       have Ny299 := Aside0.mk hy299
       clear hy299
       obtain ⟨y300, hy300⟩ : ∃ y_ : List (S40), y_ = (y299.set (a1 : Int).toNat (⟨(rd_T40 y299 a1).f0, (rd_T40 y299 a1).f1, (⟨(⟨(rd_T40 y299 a1).f2.f0.f0, (rd_T40 y299 a1).f2.f0.f1, (rd_T40 y299 a1).f2.f0.f2, (rd_T40 y299 a1).f2.f0.f3⟩ : S23), (rd_T40 y299 a1).f2.f1⟩ : S37), (rd_T40 y299 a1).f3, a3, (rd_T40 y299 a1).f5, (rd_T40 y299 a1).f6, (rd_T40 y299 a1).f7, (rd_T40 y299 a1).f8, (rd_T40 y299 a1).f9⟩ : S40)) := ⟨_, rfl⟩
       replace H : ((conf_Why.f a0_0 a0_1 a0_2 a0_3 y300 a0_5 a0_6 a0_7 a0_8).bind fun bt301 => (if a2 < 1024 then (wharfingerlaw13_ConfPorts.j1 kj6 a1 a2 a3 bt301.1 bt301.2 true a0_0 a0_1 a0_2 a0_3 l0_4 a0_5 a0_6 a0_7 a0_8) else (if a3 > 65535 then (wharfingerlaw13_ConfPorts.j1 kj6 a1 a2 a3 bt301.1 bt301.2 true a0_0 a0_1 a0_2 a0_3 l0_4 a0_5 a0_6 a0_7 a0_8) else (wharfingerlaw13_ConfPorts.j1 kj6 a1 a2 a3 bt301.1 bt301.2 (decide (a2 > a3)) a0_0 a0_1 a0_2 a0_3 l0_4 a0_5 a0_6 a0_7 a0_8)))) = some r := by first | (rw [hy300]; with_reducible exact H) | (have H2_ := (Option.bind_some _ _).symm.trans H; rw [hy300]; with_reducible exact H2_) | (have H2_ := (Option.bind_some _ _).symm.trans H; with_reducible exact H2_) | with_reducible exact H | (rw [hy300]; exact H) | exact H
       have Ny300 := Aside0.mk hy300
       clear hy300
       replace H := Option.bind_eq_some_iff.mp H
       obtain ⟨⟨t301, t302⟩, A300, H⟩ := H
       replace H : (if a2 < 1024 then (wharfingerlaw13_ConfPorts.j1 kj6 a1 a2 a3 t301 t302 true a0_0 a0_1 a0_2 a0_3 l0_4 a0_5 a0_6 a0_7 a0_8) else (if a3 > 65535 then (wharfingerlaw13_ConfPorts.j1 kj6 a1 a2 a3 t301 t302 true a0_0 a0_1 a0_2 a0_3 l0_4 a0_5 a0_6 a0_7 a0_8) else (wharfingerlaw13_ConfPorts.j1 kj6 a1 a2 a3 t301 t302 (decide (a2 > a3)) a0_0 a0_1 a0_2 a0_3 l0_4 a0_5 a0_6 a0_7 a0_8))) = some r := H
       have A30 := Aside0.mk A300
       clear A300
       have HC31 := Aside0.mk H
       clear H
       have hcz32_0 : wc.cell? ⟨gb291, 0, none⟩ = some (.int .u8 a0_0) := (blk_cell BK291.out 0).trans rfl
       have hcz32_1 : wc.cell? ⟨gb291, 1, none⟩ = some (.int .u8 a0_1) := (blk_cell BK291.out 1).trans rfl
       have hcz32_2 : wc.cell? ⟨gb291, 2, none⟩ = some (.int .u8 a0_2) := (blk_cell BK291.out 2).trans rfl
       have hcz32_3 : wc.cell? ⟨gb291, 3, none⟩ = some (.int .u8 a0_3) := (blk_cell BK291.out 3).trans rfl
       have hcz32_4 : wc.cell? ⟨gb291, 4, none⟩ = some (.slice A0_4 l0_4.length c0_4) := (blk_cell BK291.out 4).trans rfl
       have hcz32_5 : wc.cell? ⟨gb291, 5, none⟩ = some (.int .i64 a0_5) := (blk_cell BK291.out 5).trans rfl
       have hcz32_6 : wc.cell? ⟨gb291, 6, none⟩ = some (.int .i64 a0_6) := (blk_cell BK291.out 6).trans rfl
       have hcz32_7 : wc.cell? ⟨gb291, 7, none⟩ = some (.int .i64 a0_7) := (blk_cell BK291.out 7).trans rfl
       have hcz32_8 : wc.cell? ⟨gb291, 8, none⟩ = some (.bool a0_8) := (blk_cell BK291.out 8).trans rfl
       have hfz32_0 := blk_frozen BK291.out 0
       have hfz32_1 := blk_frozen BK291.out 1
       have hfz32_2 := blk_frozen BK291.out 2
       have hfz32_3 := blk_frozen BK291.out 3
       have hfz32_4 := blk_frozen BK291.out 4
       have hfz32_5 := blk_frozen BK291.out 5
       have hfz32_6 := blk_frozen BK291.out 6
       have hfz32_7 := blk_frozen BK291.out 7
       have hfz32_8 := blk_frozen BK291.out 8
       go_upto_region 10 with (first | ((with_reducible refine gate_dst (N := 11) rfl ?_); (try (refine gate_guard (by rfl) ?_; dsimp only)); refine box_event ?hg (N := 11) ?hd (cs := #[.int .u8 0, .int .u8 0, .int .u8 0, .int .u8 0, .slice none 0 0, .int .i64 0, .int .i64 0, .int .i64 0, .bool false]) (t := 26) ?hr ?_; (case hd => rfl); (case hg => rfl); (case hr => first | (go_simp; done) | (go_simp; rfl)); intro gb295 hg w33 hbox hb; have n0_ := Aside0.mk (Kd.V_below (Kd.V_elderB (by (with_reducible repeat (first | apply Kd.V_alloc | apply Kd.V_drewN | apply Kd.V_drew)); exact HO_292004.out) gb295 (Nat.le_of_eq hg.symm)) hb); have n1_ := Aside0.mk (blk_below (g := gb291) (o := .cells #[.int .u8 a0_0, .int .u8 a0_1, .int .u8 a0_2, .int .u8 a0_3, .slice A0_4 l0_4.length c0_4, .int .i64 a0_5, .int .i64 a0_6, .int .i64 a0_7, .bool a0_8] 26 (0, 0)) (by (with_reducible repeat (first | refine blk_drewN ?_ _ | refine blk_drew ?_ | refine blk_alloc ?_ _)); exact BK291.out) hb); have n2_ := Aside0.mk (below_step (by repeat (first | (with_reducible first | exact HB.out | apply below_alloc | apply pw_below_drewN | apply below_drew1 | refine below_set ?_ GE291.out) | exact HB.out)) hb); have n3_ := Aside0.mk (hbox); have n4_ := Aside0.mk ((by rw [hg]; exact (below_size (by repeat (first | (with_reducible first | exact HB.out | apply below_alloc | apply pw_below_drewN | apply below_drew1 | refine below_set ?_ GE291.out) | exact HB.out))) : w.heap.size ≤ gb295)); have n5_ := Aside0.mk ((by rw [hg]; exact (below_size (by repeat (first | (with_reducible first | exact HB.out | apply below_alloc | apply pw_below_drewN | apply below_drew1 | refine below_set ?_ GE291.out) | exact HB.out))) : w.heap.size ≤ gb295)); have n6_ := Aside0.mk ((by rw [hg]; exact Nat.ne_of_lt (blk_lt (g := gb291) (o := .cells #[.int .u8 a0_0, .int .u8 a0_1, .int .u8 a0_2, .int .u8 a0_3, .slice A0_4 l0_4.length c0_4, .int .i64 a0_5, .int .i64 a0_6, .int .i64 a0_7, .bool a0_8] 26 (0, 0)) (by (with_reducible repeat (first | refine blk_drewN ?_ _ | refine blk_drew ?_ | refine blk_alloc ?_ _)); exact BK291.out)) : gb291 ≠ gb295)); have n7_ := Aside0.mk ((by rw [hg]; exact Nat.ne_of_gt (blk_lt (g := gb291) (o := .cells #[.int .u8 a0_0, .int .u8 a0_1, .int .u8 a0_2, .int .u8 a0_3, .slice A0_4 l0_4.length c0_4, .int .i64 a0_5, .int .i64 a0_6, .int .i64 a0_7, .bool a0_8] 26 (0, 0)) (by (with_reducible repeat (first | refine blk_drewN ?_ _ | refine blk_drew ?_ | refine blk_alloc ?_ _)); exact BK291.out)) : gb295 ≠ gb291)); clear HO_292004; clear BK291; clear HB; have HO_292004 := n0_; have BK291 := n1_; have HB := n2_; have BK295 := n3_; have GW295 := n4_; have GE295 := n5_; have NB291_295 := n6_; have NB295_291 := n7_; clear n0_ n1_ n2_ n3_ n4_ n5_ n6_ n7_; clear hb hbox hg; have hnb34 := NB295_291.out; have hnc34 := NB291_295.out; obtain ⟨hcz35_0, hcz35_1, hcz35_2, hcz35_3, hcz35_4, hcz35_5, hcz35_6, hcz35_7, hcz35_8⟩ := cl_9 (.int .u8 0) (.int .u8 0) (.int .u8 0) (.int .u8 0) (.slice none 0 0) (.int .i64 0) (.int .i64 0) (.int .i64 0) (.bool false) BK295.out; obtain ⟨hfz35_0, hfz35_1, hfz35_2, hfz35_3, hfz35_4, hfz35_5, hfz35_6, hfz35_7, hfz35_8⟩ := fz_9 BK295.out; obtain ⟨hcz36_0, hcz36_1, hcz36_2, hcz36_3, hcz36_4, hcz36_5, hcz36_6, hcz36_7, hcz36_8⟩ := cl_9 (.int .u8 a0_0) (.int .u8 a0_1) (.int .u8 a0_2) (.int .u8 a0_3) (.slice A0_4 l0_4.length c0_4) (.int .i64 a0_5) (.int .i64 a0_6) (.int .i64 a0_7) (.bool a0_8) BK291.out; obtain ⟨hfz36_0, hfz36_1, hfz36_2, hfz36_3, hfz36_4, hfz36_5, hfz36_6, hfz36_7, hfz36_8⟩ := fz_9 BK291.out) | ((with_reducible refine gate_builtin (b := .append) (xs := #[.const (.slice none 0 0), .tmp 44]) rfl ?_); (try (refine gate_guard (by rfl) ?_; dsimp only)); at_builtin; refine Kd.N_append_rows k40 (w0 := w) w.heap.size rfl (.const (.slice none 0 0)) (.tmp 44) 24 40 (.agg #[(.string ⟨#[]⟩), (.string ⟨#[]⟩), (.int .u8 0), (.int .u8 0), (.int .u8 0), (.int .u8 0), (.int .i64 0), (.int .i64 0), (.int .i64 0), (.slice none 0 0), (.int .i64 0), (.int .i64 0), (.int .i64 0), (.int .i64 0)]) 120 rfl Tryd.underlying24 info40 rfl (by decide) (by omega) (.slice none 0 0) ([] : List (S40)) l0_4 _ _ _ (fun k_ => (P0_4_ k_ ∨ w.heap.size ≤ k_) ∧ k_ ≠ gb291 ∧ k_ ≠ gb295) (fun k_ => ((fun k_ => (P0_4_ k_ ∨ w.heap.size ≤ k_) ∧ k_ ≠ gb291 ∧ k_ ≠ gb295)) k_ ∧ some k_ ≠ (.slice none 0 0 : Value).ownBlock) rfl rfl ?aO ?aR (fun _ hk => hk) ?aF ?aB ?aS ?aL ?_; (case aR => exact (by skip; exact Kd.V_F (Kd.V_mono (ok' := (fun k_ => ((fun k_ => (P0_4_ k_ ∨ w.heap.size ≤ k_) ∧ k_ ≠ gb291 ∧ k_ ≠ gb295)) k_ ∧ some k_ ≠ (.slice none 0 0 : Value).ownBlock)) ((Kd.V_far (p := ⟨gb295, 8, none⟩) (Kd.V_far (p := ⟨gb295, 7, none⟩) (Kd.V_far (p := ⟨gb295, 6, none⟩) (Kd.V_far (p := ⟨gb295, 5, none⟩) (Kd.V_far (p := ⟨gb295, 4, none⟩) (Kd.V_far (p := ⟨gb295, 3, none⟩) (Kd.V_far (p := ⟨gb295, 2, none⟩) (Kd.V_far (p := ⟨gb295, 1, none⟩) (Kd.V_far (p := ⟨gb295, 0, none⟩) (Kd.V_mono HO_292004.out (fun k_ hk => (⟨hk, hk.2⟩ : _ ∧ k_ ≠ gb295))) (fun _ hk => hk.2) (.int .u8 a0_0)) (fun _ hk => hk.2) (.int .u8 a0_1)) (fun _ hk => hk.2) (.int .u8 a0_2)) (fun _ hk => hk.2) (.int .u8 a0_3)) (fun _ hk => hk.2) (.slice A0_4 l0_4.length c0_4)) (fun _ hk => hk.2) (.int .i64 a0_5)) (fun _ hk => hk.2) (.int .i64 a0_6)) (fun _ hk => hk.2) (.int .i64 a0_7)) (fun _ hk => hk.2) (.bool a0_8))) (fun k_ hk => ⟨⟨hk.1.1.1, ⟨hk.1.1.2, hk.1.2⟩⟩, (by simp [Value.ownBlock])⟩)))); (case aB => exact (by repeat (first | (with_reducible first | exact HB.out | apply below_alloc | apply pw_below_drewN | apply below_drew1 | refine below_set ?_ GE291.out | refine below_set ?_ GE295.out) | exact HB.out))); (case aF => exact (fun k_ hk => ⟨(.inr (Nat.le_trans (below_size (by repeat (first | (with_reducible first | exact HB.out | apply below_alloc | apply pw_below_drewN | apply below_drew1 | refine below_set ?_ GE291.out | refine below_set ?_ GE295.out) | exact HB.out))) hk)), Kd.freshB (g := gb291) (o := .cells #[.int .u8 a0_0, .int .u8 a0_1, .int .u8 a0_2, .int .u8 a0_3, .slice A0_4 l0_4.length c0_4, .int .i64 a0_5, .int .i64 a0_6, .int .i64 a0_7, .bool a0_8] 26 (0, 0)) (by (iterate 9 ((with_reducible repeat (first | refine blk_drewN ?_ _ | refine blk_drew ?_ | refine blk_alloc ?_ _)); refine blk_far ?_ NB291_295.out _)); (with_reducible repeat (first | refine blk_drewN ?_ _ | refine blk_drew ?_ | refine blk_alloc ?_ _)); exact BK291.out) k_ hk, Kd.freshB (g := gb295) (o := .cells #[.int .u8 a0_0, .int .u8 a0_1, .int .u8 a0_2, .int .u8 a0_3, .slice A0_4 l0_4.length c0_4, .int .i64 a0_5, .int .i64 a0_6, .int .i64 a0_7, .bool a0_8] 26 (0, 0)) (by (with_reducible repeat (first | refine blk_drewN ?_ _ | refine blk_drew ?_ | refine blk_alloc ?_ _)); refine blk_put (cs := #[.int .u8 a0_0, .int .u8 a0_1, .int .u8 a0_2, .int .u8 a0_3, .slice A0_4 l0_4.length c0_4, .int .i64 a0_5, .int .i64 a0_6, .int .i64 a0_7, .bool false]) ?_ 8 _ rfl; (with_reducible repeat (first | refine blk_drewN ?_ _ | refine blk_drew ?_ | refine blk_alloc ?_ _)); refine blk_put (cs := #[.int .u8 a0_0, .int .u8 a0_1, .int .u8 a0_2, .int .u8 a0_3, .slice A0_4 l0_4.length c0_4, .int .i64 a0_5, .int .i64 a0_6, .int .i64 0, .bool false]) ?_ 7 _ rfl; (with_reducible repeat (first | refine blk_drewN ?_ _ | refine blk_drew ?_ | refine blk_alloc ?_ _)); refine blk_put (cs := #[.int .u8 a0_0, .int .u8 a0_1, .int .u8 a0_2, .int .u8 a0_3, .slice A0_4 l0_4.length c0_4, .int .i64 a0_5, .int .i64 0, .int .i64 0, .bool false]) ?_ 6 _ rfl; (with_reducible repeat (first | refine blk_drewN ?_ _ | refine blk_drew ?_ | refine blk_alloc ?_ _)); refine blk_put (cs := #[.int .u8 a0_0, .int .u8 a0_1, .int .u8 a0_2, .int .u8 a0_3, .slice A0_4 l0_4.length c0_4, .int .i64 0, .int .i64 0, .int .i64 0, .bool false]) ?_ 5 _ rfl; (with_reducible repeat (first | refine blk_drewN ?_ _ | refine blk_drew ?_ | refine blk_alloc ?_ _)); refine blk_put (cs := #[.int .u8 a0_0, .int .u8 a0_1, .int .u8 a0_2, .int .u8 a0_3, .slice none 0 0, .int .i64 0, .int .i64 0, .int .i64 0, .bool false]) ?_ 4 _ rfl; (with_reducible repeat (first | refine blk_drewN ?_ _ | refine blk_drew ?_ | refine blk_alloc ?_ _)); refine blk_put (cs := #[.int .u8 a0_0, .int .u8 a0_1, .int .u8 a0_2, .int .u8 0, .slice none 0 0, .int .i64 0, .int .i64 0, .int .i64 0, .bool false]) ?_ 3 _ rfl; (with_reducible repeat (first | refine blk_drewN ?_ _ | refine blk_drew ?_ | refine blk_alloc ?_ _)); refine blk_put (cs := #[.int .u8 a0_0, .int .u8 a0_1, .int .u8 0, .int .u8 0, .slice none 0 0, .int .i64 0, .int .i64 0, .int .i64 0, .bool false]) ?_ 2 _ rfl; (with_reducible repeat (first | refine blk_drewN ?_ _ | refine blk_drew ?_ | refine blk_alloc ?_ _)); refine blk_put (cs := #[.int .u8 a0_0, .int .u8 0, .int .u8 0, .int .u8 0, .slice none 0 0, .int .i64 0, .int .i64 0, .int .i64 0, .bool false]) ?_ 1 _ rfl; (with_reducible repeat (first | refine blk_drewN ?_ _ | refine blk_drew ?_ | refine blk_alloc ?_ _)); refine blk_put (cs := #[.int .u8 0, .int .u8 0, .int .u8 0, .int .u8 0, .slice none 0 0, .int .i64 0, .int .i64 0, .int .i64 0, .bool false]) ?_ 0 _ rfl; (with_reducible repeat (first | refine blk_drewN ?_ _ | refine blk_drew ?_ | refine blk_alloc ?_ _)); exact BK295.out) k_ hk⟩)); (case aO => exact ((Kd.N_nil _ _ _ _ (fun k_ => (P0_4_ k_ ∨ w.heap.size ≤ k_) ∧ k_ ≠ gb291 ∧ k_ ≠ gb295)))); (case aS => exact (below_size (by repeat (first | (with_reducible first | exact HB.out | apply below_alloc | apply pw_below_drewN | apply below_drew1 | refine below_set ?_ GE291.out | refine below_set ?_ GE295.out) | exact HB.out)))); (case aL => have := LMc25.out; omega); intro v297 w37 ho hb hg hat; rw [← Ny296.out] at ho; have n0_ := Aside0.mk (Kd.V_afterv (Kd.V_apart_nil (by (with_reducible repeat (first | apply Kd.V_alloc | apply Kd.V_drewN | apply Kd.V_drew)); exact (Kd.V_mono (Kd.V_far (p := ⟨gb295, 8, none⟩) (Kd.V_far (p := ⟨gb295, 7, none⟩) (Kd.V_far (p := ⟨gb295, 6, none⟩) (Kd.V_far (p := ⟨gb295, 5, none⟩) (Kd.V_far (p := ⟨gb295, 4, none⟩) (Kd.V_far (p := ⟨gb295, 3, none⟩) (Kd.V_far (p := ⟨gb295, 2, none⟩) (Kd.V_far (p := ⟨gb295, 1, none⟩) (Kd.V_far (p := ⟨gb295, 0, none⟩) (Kd.V_mono HO_292004.out (fun k_ hk => (⟨hk, hk.2⟩ : _ ∧ k_ ≠ gb295))) (fun _ hk => hk.2) (.int .u8 a0_0)) (fun _ hk => hk.2) (.int .u8 a0_1)) (fun _ hk => hk.2) (.int .u8 a0_2)) (fun _ hk => hk.2) (.int .u8 a0_3)) (fun _ hk => hk.2) (.slice A0_4 l0_4.length c0_4)) (fun _ hk => hk.2) (.int .i64 a0_5)) (fun _ hk => hk.2) (.int .i64 a0_6)) (fun _ hk => hk.2) (.int .i64 a0_7)) (fun _ hk => hk.2) (.bool a0_8)) (fun _ h_ => h_.1)))) hg hat); have n1_ := Aside0.mk (blk_grown (g := gb291) (o := .cells #[.int .u8 a0_0, .int .u8 a0_1, .int .u8 a0_2, .int .u8 a0_3, .slice A0_4 l0_4.length c0_4, .int .i64 a0_5, .int .i64 a0_6, .int .i64 a0_7, .bool a0_8] 26 (0, 0)) (by (iterate 9 ((with_reducible repeat (first | refine blk_drewN ?_ _ | refine blk_drew ?_ | refine blk_alloc ?_ _)); refine blk_far ?_ NB291_295.out _)); (with_reducible repeat (first | refine blk_drewN ?_ _ | refine blk_drew ?_ | refine blk_alloc ?_ _)); exact BK291.out) hg (by simp [Value.ownBlock])); have n2_ := Aside0.mk (blk_grown (g := gb295) (o := .cells #[.int .u8 a0_0, .int .u8 a0_1, .int .u8 a0_2, .int .u8 a0_3, .slice A0_4 l0_4.length c0_4, .int .i64 a0_5, .int .i64 a0_6, .int .i64 a0_7, .bool a0_8] 26 (0, 0)) (by (with_reducible repeat (first | refine blk_drewN ?_ _ | refine blk_drew ?_ | refine blk_alloc ?_ _)); refine blk_put (cs := #[.int .u8 a0_0, .int .u8 a0_1, .int .u8 a0_2, .int .u8 a0_3, .slice A0_4 l0_4.length c0_4, .int .i64 a0_5, .int .i64 a0_6, .int .i64 a0_7, .bool false]) ?_ 8 _ rfl; (with_reducible repeat (first | refine blk_drewN ?_ _ | refine blk_drew ?_ | refine blk_alloc ?_ _)); refine blk_put (cs := #[.int .u8 a0_0, .int .u8 a0_1, .int .u8 a0_2, .int .u8 a0_3, .slice A0_4 l0_4.length c0_4, .int .i64 a0_5, .int .i64 a0_6, .int .i64 0, .bool false]) ?_ 7 _ rfl; (with_reducible repeat (first | refine blk_drewN ?_ _ | refine blk_drew ?_ | refine blk_alloc ?_ _)); refine blk_put (cs := #[.int .u8 a0_0, .int .u8 a0_1, .int .u8 a0_2, .int .u8 a0_3, .slice A0_4 l0_4.length c0_4, .int .i64 a0_5, .int .i64 0, .int .i64 0, .bool false]) ?_ 6 _ rfl; (with_reducible repeat (first | refine blk_drewN ?_ _ | refine blk_drew ?_ | refine blk_alloc ?_ _)); refine blk_put (cs := #[.int .u8 a0_0, .int .u8 a0_1, .int .u8 a0_2, .int .u8 a0_3, .slice A0_4 l0_4.length c0_4, .int .i64 0, .int .i64 0, .int .i64 0, .bool false]) ?_ 5 _ rfl; (with_reducible repeat (first | refine blk_drewN ?_ _ | refine blk_drew ?_ | refine blk_alloc ?_ _)); refine blk_put (cs := #[.int .u8 a0_0, .int .u8 a0_1, .int .u8 a0_2, .int .u8 a0_3, .slice none 0 0, .int .i64 0, .int .i64 0, .int .i64 0, .bool false]) ?_ 4 _ rfl; (with_reducible repeat (first | refine blk_drewN ?_ _ | refine blk_drew ?_ | refine blk_alloc ?_ _)); refine blk_put (cs := #[.int .u8 a0_0, .int .u8 a0_1, .int .u8 a0_2, .int .u8 0, .slice none 0 0, .int .i64 0, .int .i64 0, .int .i64 0, .bool false]) ?_ 3 _ rfl; (with_reducible repeat (first | refine blk_drewN ?_ _ | refine blk_drew ?_ | refine blk_alloc ?_ _)); refine blk_put (cs := #[.int .u8 a0_0, .int .u8 a0_1, .int .u8 0, .int .u8 0, .slice none 0 0, .int .i64 0, .int .i64 0, .int .i64 0, .bool false]) ?_ 2 _ rfl; (with_reducible repeat (first | refine blk_drewN ?_ _ | refine blk_drew ?_ | refine blk_alloc ?_ _)); refine blk_put (cs := #[.int .u8 a0_0, .int .u8 0, .int .u8 0, .int .u8 0, .slice none 0 0, .int .i64 0, .int .i64 0, .int .i64 0, .bool false]) ?_ 1 _ rfl; (with_reducible repeat (first | refine blk_drewN ?_ _ | refine blk_drew ?_ | refine blk_alloc ?_ _)); refine blk_put (cs := #[.int .u8 0, .int .u8 0, .int .u8 0, .int .u8 0, .slice none 0 0, .int .i64 0, .int .i64 0, .int .i64 0, .bool false]) ?_ 0 _ rfl; (with_reducible repeat (first | refine blk_drewN ?_ _ | refine blk_drew ?_ | refine blk_alloc ?_ _)); exact BK295.out) hg (by simp [Value.ownBlock])); have n3_ := Aside0.mk (hb); have n4_ := Aside0.mk (ho); clear HO_292004; clear BK291; clear BK295; clear HB; have HO_292004 := n0_; have BK291 := n1_; have BK295 := n2_; have HB := n3_; have HO298 := n4_; clear n0_ n1_ n2_ n3_ n4_; clear ho hb hg hat; obtain ⟨Ao38, co38, eo38⟩ := Kd.N_slice HO298.out; subst eo38; obtain ⟨hcz39_0, hcz39_1, hcz39_2, hcz39_3, hcz39_4, hcz39_5, hcz39_6, hcz39_7, hcz39_8⟩ := cl_9 (.int .u8 a0_0) (.int .u8 a0_1) (.int .u8 a0_2) (.int .u8 a0_3) (.slice A0_4 l0_4.length c0_4) (.int .i64 a0_5) (.int .i64 a0_6) (.int .i64 a0_7) (.bool a0_8) BK295.out; obtain ⟨hfz39_0, hfz39_1, hfz39_2, hfz39_3, hfz39_4, hfz39_5, hfz39_6, hfz39_7, hfz39_8⟩ := fz_9 BK295.out) | ((with_reducible refine gate_store (t := 24) (p := 46) rfl ?_); refine store_event (t := 24) (p := 46) (v := ?vo_w40) (w1 := (w37.setCell ⟨gb295, 4, none⟩ (.slice Ao38 y296.length co38))) ?hg ?ho ?hn ?hr ?_; (case ho => rfl); (case hg => rfl); (case hn => rfl); (case hr => first | (go_simp; done) | (go_simp; rfl)); intro w40 hw; have n0_ : Aside0 (Kd.V k40 40 w40 w.heap.size (fun k_ => (P0_4_ k_ ∨ w.heap.size ≤ k_) ∧ some k_ ≠ (.slice Ao38 y296.length co38 : Value).ownBlock ∧ k_ ≠ gb291 ∧ k_ ≠ gb295) (.slice A0_4 l0_4.length c0_4) l0_4) := ⟨(by rw [hw]; exact (by (with_reducible repeat (first | apply Kd.V_alloc | apply Kd.V_drewN | apply Kd.V_drew)); exact Kd.V_mono (Kd.V_far (p := ⟨gb295, 4, none⟩) (Kd.V_mono HO_292004.out (fun k_ hk => (⟨hk, hk.1.2⟩ : _ ∧ k_ ≠ gb295))) (fun _ hk => hk.2) (.slice Ao38 y296.length co38)) (fun _ hk => ⟨hk.1.1.1.1, ⟨hk.1.2, ⟨hk.1.1.1.2, hk.1.1.2⟩⟩⟩)))⟩; have n1_ : Aside0 (Kd.N k40 40 w40 w.heap.size (fun k_ => (P0_4_ k_ ∨ w.heap.size ≤ k_) ∧ k_ ≠ gb291 ∧ k_ ≠ gb295) (.slice Ao38 y296.length co38) y296) := ⟨(by rw [hw]; exact (by (with_reducible repeat (first | apply Kd.N_alloc | apply Kd.N_drewN | apply Kd.N_drew)); exact Kd.N_mono (Kd.N_far (p := ⟨gb295, 4, none⟩) (Kd.N_mono HO298.out (fun k_ hk => (⟨hk, hk.2.2⟩ : _ ∧ k_ ≠ gb295))) (fun _ hk => hk.2) (.slice Ao38 y296.length co38)) (fun _ hk => ⟨hk.1.1, ⟨hk.1.2.1, hk.1.2.2⟩⟩)))⟩; have n2_ : Aside0 (w40.heap[gb291]? = some (.cells #[.int .u8 a0_0, .int .u8 a0_1, .int .u8 a0_2, .int .u8 a0_3, .slice A0_4 l0_4.length c0_4, .int .i64 a0_5, .int .i64 a0_6, .int .i64 a0_7, .bool a0_8] 26 (0, 0))) := ⟨(by rw [hw]; exact (by (with_reducible repeat (first | refine blk_drewN ?_ _ | refine blk_drew ?_ | refine blk_alloc ?_ _)); refine blk_far ?_ NB291_295.out _; (with_reducible repeat (first | refine blk_drewN ?_ _ | refine blk_drew ?_ | refine blk_alloc ?_ _)); exact BK291.out))⟩; have n3_ : Aside0 (w40.heap[gb295]? = some (.cells #[.int .u8 a0_0, .int .u8 a0_1, .int .u8 a0_2, .int .u8 a0_3, .slice Ao38 y296.length co38, .int .i64 a0_5, .int .i64 a0_6, .int .i64 a0_7, .bool a0_8] 26 (0, 0))) := ⟨(by rw [hw]; exact (by (with_reducible repeat (first | refine blk_drewN ?_ _ | refine blk_drew ?_ | refine blk_alloc ?_ _)); refine blk_put (cs := #[.int .u8 a0_0, .int .u8 a0_1, .int .u8 a0_2, .int .u8 a0_3, .slice A0_4 l0_4.length c0_4, .int .i64 a0_5, .int .i64 a0_6, .int .i64 a0_7, .bool a0_8]) ?_ 4 _ rfl; (with_reducible repeat (first | refine blk_drewN ?_ _ | refine blk_drew ?_ | refine blk_alloc ?_ _)); exact BK295.out))⟩; have n4_ : Aside0 (Below w.heap.size w w40) := ⟨(by rw [hw]; exact (by repeat (first | (with_reducible first | exact HB.out | apply below_alloc | apply pw_below_drewN | apply below_drew1 | refine below_set ?_ GE291.out | refine below_set ?_ GE295.out) | exact HB.out)))⟩; clear hw; clear HO_292004; clear HO298; clear BK291; clear BK295; clear HB; have HO_292004 := n0_; have HO298 := n1_; have BK291 := n2_; have BK295 := n3_; have HB := n4_; clear n0_ n1_ n2_ n3_ n4_; obtain ⟨hcz41_0, hcz41_1, hcz41_2, hcz41_3, hcz41_4, hcz41_5, hcz41_6, hcz41_7, hcz41_8⟩ := cl_9 (.int .u8 a0_0) (.int .u8 a0_1) (.int .u8 a0_2) (.int .u8 a0_3) (.slice Ao38 y296.length co38) (.int .i64 a0_5) (.int .i64 a0_6) (.int .i64 a0_7) (.bool a0_8) BK295.out; obtain ⟨hfz41_0, hfz41_1, hfz41_2, hfz41_3, hfz41_4, hfz41_5, hfz41_6, hfz41_7, hfz41_8⟩ := fz_9 BK295.out; have p28 : 0 ≤ (a1 : Int) := of_decide_eq_true (by first | (with_reducible assumption) | assumption); have q28 : (a1 : Int) < ((y296.length : Int) : Int) := of_decide_eq_true (by first | (with_reducible assumption) | assumption); obtain ⟨go28, co28, eo28, gb28, gl28, cl28, HG28⟩ := Kd.N_form HO298.out (by omega); (first | cases eo28 | (injection eo28 with ea_ en_ ec_; (first | subst ea_ | (injection ea_ with ea_; subst ea_)); subst ec_; clear en_)); have GB28 := Aside0.mk gb28; have GG28 := Aside0.mk HG28; clear gb28 gl28 HG28; obtain ⟨ce28, hcl28, hM28, hcc28, hfr28⟩ := Kd.N_elem HO298.out z40 (a1 : Int) p28 q28; obtain ⟨ua28_9, uc28_9, rfl, ul28_9, ge28_9⟩ := k40_openF hM28; have hx28_0 : w40.cell? ⟨go28, (a1 : Int).toNat * 14, none⟩ = some (.string ((rd_T40 y296 a1).f0)) := hcc28 0 _ rfl; have hx28_1 : w40.cell? ⟨go28, (a1 : Int).toNat * 14 + 1, none⟩ = some (.string ((rd_T40 y296 a1).f1)) := hcc28 1 _ rfl; have hx28_2 : w40.cell? ⟨go28, (a1 : Int).toNat * 14 + 2, none⟩ = some (.int .u8 ((rd_T40 y296 a1).f2.f0.f0)) := hcc28 2 _ rfl; have hx28_3 : w40.cell? ⟨go28, (a1 : Int).toNat * 14 + 3, none⟩ = some (.int .u8 ((rd_T40 y296 a1).f2.f0.f1)) := hcc28 3 _ rfl; have hx28_4 : w40.cell? ⟨go28, (a1 : Int).toNat * 14 + 4, none⟩ = some (.int .u8 ((rd_T40 y296 a1).f2.f0.f2)) := hcc28 4 _ rfl; have hx28_5 : w40.cell? ⟨go28, (a1 : Int).toNat * 14 + 5, none⟩ = some (.int .u8 ((rd_T40 y296 a1).f2.f0.f3)) := hcc28 5 _ rfl; have hx28_6 : w40.cell? ⟨go28, (a1 : Int).toNat * 14 + 6, none⟩ = some (.int .i64 ((rd_T40 y296 a1).f2.f1)) := hcc28 6 _ rfl; have hx28_7 : w40.cell? ⟨go28, (a1 : Int).toNat * 14 + 7, none⟩ = some (.int .i64 ((rd_T40 y296 a1).f3)) := hcc28 7 _ rfl; have hx28_8 : w40.cell? ⟨go28, (a1 : Int).toNat * 14 + 8, none⟩ = some (.int .i64 ((rd_T40 y296 a1).f4)) := hcc28 8 _ rfl; have hx28_9 : w40.cell? ⟨go28, (a1 : Int).toNat * 14 + 9, none⟩ = some (.slice ua28_9 ((rd_T40 y296 a1).f5).length uc28_9) := hcc28 9 _ rfl; have hx28_10 : w40.cell? ⟨go28, (a1 : Int).toNat * 14 + 10, none⟩ = some (.int .i64 ((rd_T40 y296 a1).f6)) := hcc28 10 _ rfl; have hx28_11 : w40.cell? ⟨go28, (a1 : Int).toNat * 14 + 11, none⟩ = some (.int .i64 ((rd_T40 y296 a1).f7)) := hcc28 11 _ rfl; have hx28_12 : w40.cell? ⟨go28, (a1 : Int).toNat * 14 + 12, none⟩ = some (.int .i64 ((rd_T40 y296 a1).f8)) := hcc28 12 _ rfl; have hx28_13 : w40.cell? ⟨go28, (a1 : Int).toNat * 14 + 13, none⟩ = some (.int .i64 ((rd_T40 y296 a1).f9)) := hcc28 13 _ rfl; have hf28_0 : w40.frozen? ⟨go28, (a1 : Int).toNat * 14, none⟩ = false := hfr28 0; have hf28_1 : w40.frozen? ⟨go28, (a1 : Int).toNat * 14 + 1, none⟩ = false := hfr28 1; have hf28_2 : w40.frozen? ⟨go28, (a1 : Int).toNat * 14 + 2, none⟩ = false := hfr28 2; have hf28_3 : w40.frozen? ⟨go28, (a1 : Int).toNat * 14 + 3, none⟩ = false := hfr28 3; have hf28_4 : w40.frozen? ⟨go28, (a1 : Int).toNat * 14 + 4, none⟩ = false := hfr28 4; have hf28_5 : w40.frozen? ⟨go28, (a1 : Int).toNat * 14 + 5, none⟩ = false := hfr28 5; have hf28_6 : w40.frozen? ⟨go28, (a1 : Int).toNat * 14 + 6, none⟩ = false := hfr28 6; have hf28_7 : w40.frozen? ⟨go28, (a1 : Int).toNat * 14 + 7, none⟩ = false := hfr28 7; have hf28_8 : w40.frozen? ⟨go28, (a1 : Int).toNat * 14 + 8, none⟩ = false := hfr28 8; have hf28_9 : w40.frozen? ⟨go28, (a1 : Int).toNat * 14 + 9, none⟩ = false := hfr28 9; have hf28_10 : w40.frozen? ⟨go28, (a1 : Int).toNat * 14 + 10, none⟩ = false := hfr28 10; have hf28_11 : w40.frozen? ⟨go28, (a1 : Int).toNat * 14 + 11, none⟩ = false := hfr28 11; have hf28_12 : w40.frozen? ⟨go28, (a1 : Int).toNat * 14 + 12, none⟩ = false := hfr28 12; have hf28_13 : w40.frozen? ⟨go28, (a1 : Int).toNat * 14 + 13, none⟩ = false := hfr28 13; clear hcl28 hcc28 hfr28 hM28; replace p28 := eq_true p28; replace q28 := eq_true q28; have HX42 := Aside0.mk (show Kd.N k40 40 w40 w.heap.size (fun k_ => (P0_4_ k_ ∨ w.heap.size ≤ k_) ∧ k_ ≠ gb291 ∧ k_ ≠ gb295) (.slice (some ⟨go28, 0, none⟩) y296.length co38) y296 from (by (with_reducible repeat (first | apply Kd.N_alloc | apply Kd.N_drewN | apply Kd.N_drew)); exact HO298.out)); obtain ⟨ce42, hcl42, hM42, hcc42, hfr42⟩ := Kd.N_elem HX42.out z40 (a1 : Int) (of_decide_eq_true (by first | (with_reducible assumption) | assumption)) (by have h_ : (a1 : Int) < ((y296.length : Int) : Int) := of_decide_eq_true (by first | (with_reducible assumption) | assumption); first | exact h_ | (have e_ := (Kd.N_reads' HO298.out).1; omega) | simpa using h_); obtain ⟨ua42_9, uc42_9, rfl, ul42_9, ge42_9⟩ := k40_openF hM42; have HP42 := Kd.N_seg HX42.out (a1 : Int) (of_decide_eq_true (by first | (with_reducible assumption) | assumption)) (by have h_ : (a1 : Int) < ((y296.length : Int) : Int) := of_decide_eq_true (by first | (with_reducible assumption) | assumption); first | exact h_ | (have e_ := (Kd.N_reads' HO298.out).1; omega) | simpa using h_) (seg := [.int .i64 a2]) (j := 7) hcl42 hcc42 (show 8 ≤ 14 from by decide) (x' := (⟨(rd_T40 y296 a1).f0, (rd_T40 y296 a1).f1, (⟨(⟨(rd_T40 y296 a1).f2.f0.f0, (rd_T40 y296 a1).f2.f0.f1, (rd_T40 y296 a1).f2.f0.f2, (rd_T40 y296 a1).f2.f0.f3⟩ : S23), (rd_T40 y296 a1).f2.f1⟩ : S37), a2, (rd_T40 y296 a1).f4, (rd_T40 y296 a1).f5, (rd_T40 y296 a1).f6, (rd_T40 y296 a1).f7, (rd_T40 y296 a1).f8, (rd_T40 y296 a1).f9⟩ : S40)) (k40_mkF _ _ (⟨(rd_T40 y296 a1).f0, (rd_T40 y296 a1).f1, (⟨(⟨(rd_T40 y296 a1).f2.f0.f0, (rd_T40 y296 a1).f2.f0.f1, (rd_T40 y296 a1).f2.f0.f2, (rd_T40 y296 a1).f2.f0.f3⟩ : S23), (rd_T40 y296 a1).f2.f1⟩ : S37), a2, (rd_T40 y296 a1).f4, (rd_T40 y296 a1).f5, (rd_T40 y296 a1).f6, (rd_T40 y296 a1).f7, (rd_T40 y296 a1).f8, (rd_T40 y296 a1).f9⟩ : S40) ul42_9 ge42_9) (fun _ hk => hk); have hx42_7 := hcc42 7 _ rfl; (try simp only [show (k40).sz = 14 from rfl, Nat.mul_one, Nat.add_zero] at hx42_7); have hf42_7 := hfr42 7; (try simp only [show (k40).sz = 14 from rfl, Nat.mul_one, Nat.add_zero] at hf42_7); clear hcl42 hcc42 hfr42 hM42) | ((with_reducible refine gate_store (t := 3) (p := 52) rfl ?_); refine store_event (t := 3) (p := 52) (v := ?vo_w43) (w1 := (w40.setCell ⟨go28, (a1 : Int).toNat * 14 + 7, none⟩ (.int .i64 a2))) ?hg ?ho ?hn ?hr ?_; (case ho => rfl); (case hg => rfl); (case hn => rfl); (case hr => first | (go_simp; done) | (go_simp; rfl)); intro w43 hw; have hg : w40.grownBy w43 (some go28) := (by rw [hw]; exact HP42.2); have hp_ : Kd.N k40 40 w43 w.heap.size (fun k_ => (P0_4_ k_ ∨ w.heap.size ≤ k_) ∧ k_ ≠ gb291 ∧ k_ ≠ gb295) (.slice (some ⟨go28, 0, none⟩) y296.length co38) y299 := (by rw [hw, Ny299.out]; exact HP42.1); clear HP42; have n0_ := Aside0.mk (Kd.V_afterv (v := (.slice (some ⟨go28, 0, none⟩) y296.length co38)) (v1 := (.slice (some ⟨go28, 0, none⟩) y296.length co38)) (ok := (fun k_ => (P0_4_ k_ ∨ w.heap.size ≤ k_) ∧ k_ ≠ gb291 ∧ k_ ≠ gb295)) (by (with_reducible repeat (first | apply Kd.V_alloc | apply Kd.V_drewN | apply Kd.V_drew)); exact Kd.V_mono HO_292004.out (fun _ hk => ⟨⟨hk.1, ⟨hk.2.2.1, hk.2.2.2⟩⟩, hk.2.1⟩)) hg (.inl rfl)); have n1_ := Aside0.mk (blk_grown (g := gb291) (o := .cells #[.int .u8 a0_0, .int .u8 a0_1, .int .u8 a0_2, .int .u8 a0_3, .slice A0_4 l0_4.length c0_4, .int .i64 a0_5, .int .i64 a0_6, .int .i64 a0_7, .bool a0_8] 26 (0, 0)) (by (with_reducible repeat (first | refine blk_drewN ?_ _ | refine blk_drew ?_ | refine blk_alloc ?_ _)); exact BK291.out) hg (Kd.N_ne HO298.out BK291.out (by decide))); have n2_ := Aside0.mk (blk_grown (g := gb295) (o := .cells #[.int .u8 a0_0, .int .u8 a0_1, .int .u8 a0_2, .int .u8 a0_3, .slice (some ⟨go28, 0, none⟩) y296.length co38, .int .i64 a0_5, .int .i64 a0_6, .int .i64 a0_7, .bool a0_8] 26 (0, 0)) (by (with_reducible repeat (first | refine blk_drewN ?_ _ | refine blk_drew ?_ | refine blk_alloc ?_ _)); exact BK295.out) hg (Kd.N_ne HO298.out BK295.out (by decide))); have n3_ := Aside0.mk (hp_); have n4_ := Aside0.mk ((by rw [hw]; exact below_set (HB.out) GB28.out : Below w.heap.size w w43)); clear HO_292004; clear BK291; clear BK295; clear HO298; clear HB; have HO_292004 := n0_; have BK291 := n1_; have BK295 := n2_; have HO298 := n3_; have HB := n4_; clear n0_ n1_ n2_ n3_ n4_; clear hg hw hp_; obtain ⟨hcz44_0, hcz44_1, hcz44_2, hcz44_3, hcz44_4, hcz44_5, hcz44_6, hcz44_7, hcz44_8⟩ := cl_9 (.int .u8 a0_0) (.int .u8 a0_1) (.int .u8 a0_2) (.int .u8 a0_3) (.slice (some ⟨go28, 0, none⟩) y296.length co38) (.int .i64 a0_5) (.int .i64 a0_6) (.int .i64 a0_7) (.bool a0_8) BK295.out; obtain ⟨hfz44_0, hfz44_1, hfz44_2, hfz44_3, hfz44_4, hfz44_5, hfz44_6, hfz44_7, hfz44_8⟩ := fz_9 BK295.out; have p29 : 0 ≤ (a1 : Int) := of_decide_eq_true (by first | (with_reducible assumption) | assumption); have q29 : (a1 : Int) < ((y296.length : Int) : Int) := of_decide_eq_true (by first | (with_reducible assumption) | assumption); obtain ⟨ce29, hcl29, hM29, hcc29, hfr29⟩ := Kd.N_elem HO298.out z40 (a1 : Int) p29 q29; obtain ⟨ua29_9, uc29_9, rfl, ul29_9, ge29_9⟩ := k40_openF hM29; have hx29_0 : w43.cell? ⟨go28, (a1 : Int).toNat * 14, none⟩ = some (.string ((rd_T40 y299 a1).f0)) := hcc29 0 _ rfl; have hx29_1 : w43.cell? ⟨go28, (a1 : Int).toNat * 14 + 1, none⟩ = some (.string ((rd_T40 y299 a1).f1)) := hcc29 1 _ rfl; have hx29_2 : w43.cell? ⟨go28, (a1 : Int).toNat * 14 + 2, none⟩ = some (.int .u8 ((rd_T40 y299 a1).f2.f0.f0)) := hcc29 2 _ rfl; have hx29_3 : w43.cell? ⟨go28, (a1 : Int).toNat * 14 + 3, none⟩ = some (.int .u8 ((rd_T40 y299 a1).f2.f0.f1)) := hcc29 3 _ rfl; have hx29_4 : w43.cell? ⟨go28, (a1 : Int).toNat * 14 + 4, none⟩ = some (.int .u8 ((rd_T40 y299 a1).f2.f0.f2)) := hcc29 4 _ rfl; have hx29_5 : w43.cell? ⟨go28, (a1 : Int).toNat * 14 + 5, none⟩ = some (.int .u8 ((rd_T40 y299 a1).f2.f0.f3)) := hcc29 5 _ rfl; have hx29_6 : w43.cell? ⟨go28, (a1 : Int).toNat * 14 + 6, none⟩ = some (.int .i64 ((rd_T40 y299 a1).f2.f1)) := hcc29 6 _ rfl; have hx29_7 : w43.cell? ⟨go28, (a1 : Int).toNat * 14 + 7, none⟩ = some (.int .i64 ((rd_T40 y299 a1).f3)) := hcc29 7 _ rfl; have hx29_8 : w43.cell? ⟨go28, (a1 : Int).toNat * 14 + 8, none⟩ = some (.int .i64 ((rd_T40 y299 a1).f4)) := hcc29 8 _ rfl; have hx29_9 : w43.cell? ⟨go28, (a1 : Int).toNat * 14 + 9, none⟩ = some (.slice ua29_9 ((rd_T40 y299 a1).f5).length uc29_9) := hcc29 9 _ rfl; have hx29_10 : w43.cell? ⟨go28, (a1 : Int).toNat * 14 + 10, none⟩ = some (.int .i64 ((rd_T40 y299 a1).f6)) := hcc29 10 _ rfl; have hx29_11 : w43.cell? ⟨go28, (a1 : Int).toNat * 14 + 11, none⟩ = some (.int .i64 ((rd_T40 y299 a1).f7)) := hcc29 11 _ rfl; have hx29_12 : w43.cell? ⟨go28, (a1 : Int).toNat * 14 + 12, none⟩ = some (.int .i64 ((rd_T40 y299 a1).f8)) := hcc29 12 _ rfl; have hx29_13 : w43.cell? ⟨go28, (a1 : Int).toNat * 14 + 13, none⟩ = some (.int .i64 ((rd_T40 y299 a1).f9)) := hcc29 13 _ rfl; have hf29_0 : w43.frozen? ⟨go28, (a1 : Int).toNat * 14, none⟩ = false := hfr29 0; have hf29_1 : w43.frozen? ⟨go28, (a1 : Int).toNat * 14 + 1, none⟩ = false := hfr29 1; have hf29_2 : w43.frozen? ⟨go28, (a1 : Int).toNat * 14 + 2, none⟩ = false := hfr29 2; have hf29_3 : w43.frozen? ⟨go28, (a1 : Int).toNat * 14 + 3, none⟩ = false := hfr29 3; have hf29_4 : w43.frozen? ⟨go28, (a1 : Int).toNat * 14 + 4, none⟩ = false := hfr29 4; have hf29_5 : w43.frozen? ⟨go28, (a1 : Int).toNat * 14 + 5, none⟩ = false := hfr29 5; have hf29_6 : w43.frozen? ⟨go28, (a1 : Int).toNat * 14 + 6, none⟩ = false := hfr29 6; have hf29_7 : w43.frozen? ⟨go28, (a1 : Int).toNat * 14 + 7, none⟩ = false := hfr29 7; have hf29_8 : w43.frozen? ⟨go28, (a1 : Int).toNat * 14 + 8, none⟩ = false := hfr29 8; have hf29_9 : w43.frozen? ⟨go28, (a1 : Int).toNat * 14 + 9, none⟩ = false := hfr29 9; have hf29_10 : w43.frozen? ⟨go28, (a1 : Int).toNat * 14 + 10, none⟩ = false := hfr29 10; have hf29_11 : w43.frozen? ⟨go28, (a1 : Int).toNat * 14 + 11, none⟩ = false := hfr29 11; have hf29_12 : w43.frozen? ⟨go28, (a1 : Int).toNat * 14 + 12, none⟩ = false := hfr29 12; have hf29_13 : w43.frozen? ⟨go28, (a1 : Int).toNat * 14 + 13, none⟩ = false := hfr29 13; clear hcl29 hcc29 hfr29 hM29; replace p29 := eq_true p29; replace q29 := eq_true q29; have HX45 := Aside0.mk (show Kd.N k40 40 w43 w.heap.size (fun k_ => (P0_4_ k_ ∨ w.heap.size ≤ k_) ∧ k_ ≠ gb291 ∧ k_ ≠ gb295) (.slice (some ⟨go28, 0, none⟩) y296.length co38) y299 from (by (with_reducible repeat (first | apply Kd.N_alloc | apply Kd.N_drewN | apply Kd.N_drew)); exact HO298.out)); obtain ⟨ce45, hcl45, hM45, hcc45, hfr45⟩ := Kd.N_elem HX45.out z40 (a1 : Int) (of_decide_eq_true (by first | (with_reducible assumption) | assumption)) (by have h_ : (a1 : Int) < ((y296.length : Int) : Int) := of_decide_eq_true (by first | (with_reducible assumption) | assumption); first | exact h_ | (have e_ := (Kd.N_reads' HO298.out).1; omega) | simpa using h_); obtain ⟨ua45_9, uc45_9, rfl, ul45_9, ge45_9⟩ := k40_openF hM45; have HP45 := Kd.N_seg HX45.out (a1 : Int) (of_decide_eq_true (by first | (with_reducible assumption) | assumption)) (by have h_ : (a1 : Int) < ((y296.length : Int) : Int) := of_decide_eq_true (by first | (with_reducible assumption) | assumption); first | exact h_ | (have e_ := (Kd.N_reads' HO298.out).1; omega) | simpa using h_) (seg := [.int .i64 a3]) (j := 8) hcl45 hcc45 (show 9 ≤ 14 from by decide) (x' := (⟨(rd_T40 y299 a1).f0, (rd_T40 y299 a1).f1, (⟨(⟨(rd_T40 y299 a1).f2.f0.f0, (rd_T40 y299 a1).f2.f0.f1, (rd_T40 y299 a1).f2.f0.f2, (rd_T40 y299 a1).f2.f0.f3⟩ : S23), (rd_T40 y299 a1).f2.f1⟩ : S37), (rd_T40 y299 a1).f3, a3, (rd_T40 y299 a1).f5, (rd_T40 y299 a1).f6, (rd_T40 y299 a1).f7, (rd_T40 y299 a1).f8, (rd_T40 y299 a1).f9⟩ : S40)) (k40_mkF _ _ (⟨(rd_T40 y299 a1).f0, (rd_T40 y299 a1).f1, (⟨(⟨(rd_T40 y299 a1).f2.f0.f0, (rd_T40 y299 a1).f2.f0.f1, (rd_T40 y299 a1).f2.f0.f2, (rd_T40 y299 a1).f2.f0.f3⟩ : S23), (rd_T40 y299 a1).f2.f1⟩ : S37), (rd_T40 y299 a1).f3, a3, (rd_T40 y299 a1).f5, (rd_T40 y299 a1).f6, (rd_T40 y299 a1).f7, (rd_T40 y299 a1).f8, (rd_T40 y299 a1).f9⟩ : S40) ul45_9 ge45_9) (fun _ hk => hk); have hx45_8 := hcc45 8 _ rfl; (try simp only [show (k40).sz = 14 from rfl, Nat.mul_one, Nat.add_zero] at hx45_8); have hf45_8 := hfr45 8; (try simp only [show (k40).sz = 14 from rfl, Nat.mul_one, Nat.add_zero] at hf45_8); clear hcl45 hcc45 hfr45 hM45) | ((with_reducible refine gate_store (t := 3) (p := 58) rfl ?_); refine store_event (t := 3) (p := 58) (v := ?vo_w46) (w1 := (w43.setCell ⟨go28, (a1 : Int).toNat * 14 + 8, none⟩ (.int .i64 a3))) ?hg ?ho ?hn ?hr ?_; (case ho => rfl); (case hg => rfl); (case hn => rfl); (case hr => first | (go_simp; done) | (go_simp; rfl)); intro w46 hw; have hg : w43.grownBy w46 (some go28) := (by rw [hw]; exact HP45.2); have hp_ : Kd.N k40 40 w46 w.heap.size (fun k_ => (P0_4_ k_ ∨ w.heap.size ≤ k_) ∧ k_ ≠ gb291 ∧ k_ ≠ gb295) (.slice (some ⟨go28, 0, none⟩) y296.length co38) y300 := (by rw [hw, Ny300.out]; exact HP45.1); clear HP45; have n0_ := Aside0.mk (Kd.V_afterv (v := (.slice (some ⟨go28, 0, none⟩) y296.length co38)) (v1 := (.slice (some ⟨go28, 0, none⟩) y296.length co38)) (ok := (fun k_ => (P0_4_ k_ ∨ w.heap.size ≤ k_) ∧ k_ ≠ gb291 ∧ k_ ≠ gb295)) (by (with_reducible repeat (first | apply Kd.V_alloc | apply Kd.V_drewN | apply Kd.V_drew)); exact HO_292004.out) hg (.inl rfl)); have n1_ := Aside0.mk (blk_grown (g := gb291) (o := .cells #[.int .u8 a0_0, .int .u8 a0_1, .int .u8 a0_2, .int .u8 a0_3, .slice A0_4 l0_4.length c0_4, .int .i64 a0_5, .int .i64 a0_6, .int .i64 a0_7, .bool a0_8] 26 (0, 0)) (by (with_reducible repeat (first | refine blk_drewN ?_ _ | refine blk_drew ?_ | refine blk_alloc ?_ _)); exact BK291.out) hg (Kd.N_ne HO298.out BK291.out (by decide))); have n2_ := Aside0.mk (blk_grown (g := gb295) (o := .cells #[.int .u8 a0_0, .int .u8 a0_1, .int .u8 a0_2, .int .u8 a0_3, .slice (some ⟨go28, 0, none⟩) y296.length co38, .int .i64 a0_5, .int .i64 a0_6, .int .i64 a0_7, .bool a0_8] 26 (0, 0)) (by (with_reducible repeat (first | refine blk_drewN ?_ _ | refine blk_drew ?_ | refine blk_alloc ?_ _)); exact BK295.out) hg (Kd.N_ne HO298.out BK295.out (by decide))); have n3_ := Aside0.mk (hp_); have n4_ := Aside0.mk ((by rw [hw]; exact below_set (HB.out) GB28.out : Below w.heap.size w w46)); clear HO_292004; clear BK291; clear BK295; clear HO298; clear HB; have HO_292004 := n0_; have BK291 := n1_; have BK295 := n2_; have HO298 := n3_; have HB := n4_; clear n0_ n1_ n2_ n3_ n4_; clear hg hw hp_; obtain ⟨hcz47_0, hcz47_1, hcz47_2, hcz47_3, hcz47_4, hcz47_5, hcz47_6, hcz47_7, hcz47_8⟩ := cl_9 (.int .u8 a0_0) (.int .u8 a0_1) (.int .u8 a0_2) (.int .u8 a0_3) (.slice (some ⟨go28, 0, none⟩) y296.length co38) (.int .i64 a0_5) (.int .i64 a0_6) (.int .i64 a0_7) (.bool a0_8) BK295.out; obtain ⟨hfz47_0, hfz47_1, hfz47_2, hfz47_3, hfz47_4, hfz47_5, hfz47_6, hfz47_7, hfz47_8⟩ := fz_9 BK295.out) | ((with_reducible refine gate_callee (f := 11) rfl ?_); refine goesL_ (some 61) rfl rfl Tryd.func11 (by kernel_rfl) rfl #[.agg #[.int .u8 a0_0, .int .u8 a0_1, .int .u8 a0_2, .int .u8 a0_3, .slice (some ⟨go28, 0, none⟩) y300.length co38, .int .i64 a0_5, .int .i64 a0_6, .int .i64 a0_7, .bool a0_8]] rfl (by (try simp only [List.map_toArray, List.map_cons, List.map_nil]); first | done | (rw [show y300.length = y296.length from (Kd.N_reads' HO298.out).1.symm] <;> rfl) | rfl | (simp only [List.length_drop, List.length_take]; rfl)) ?_; (with_reducible refine (conf_Why.calls a0_0 a0_1 a0_2 a0_3 _ _ y300 a0_5 a0_6 a0_7 a0_8 t301 t302 _ ?side1 ?side2 ?side3 A30.out).mono ?_); (case side1 => repeat (first | exact (Kd.N_reads' HO298.out).2.2 | (with_reducible refine Kd.C_alloc ?_ _) | (with_reducible refine Kd.C_drewN ?_ _) | (with_reducible refine Kd.C_drew ?_))); (case side2 => rw [show y300.length = y296.length from (Kd.N_reads' HO298.out).1.symm]; exact (Kd.N_reads' HO298.out).2.1); (case side3 => exact HMET.out.below (by repeat (first | (with_reducible first | exact HB.out | apply below_alloc | apply pw_below_drewN | apply below_drew1 | refine below_set ?_ GE291.out | refine below_set ?_ GE295.out) | exact HB.out))); rintro e w48 ⟨rfl, hb⟩; refine ⟨_, rfl, ?_⟩; have n0_ := Aside0.mk (Kd.V_below (by (with_reducible repeat (first | apply Kd.V_alloc | apply Kd.V_drewN | apply Kd.V_drew)); exact HO_292004.out) hb); have n1_ := Aside0.mk (Kd.N_below (by (with_reducible repeat (first | apply Kd.N_alloc | apply Kd.N_drewN | apply Kd.N_drew)); exact HO298.out) hb); have n2_ := Aside0.mk (blk_below (g := gb291) (o := .cells #[.int .u8 a0_0, .int .u8 a0_1, .int .u8 a0_2, .int .u8 a0_3, .slice A0_4 l0_4.length c0_4, .int .i64 a0_5, .int .i64 a0_6, .int .i64 a0_7, .bool a0_8] 26 (0, 0)) (by (with_reducible repeat (first | refine blk_drewN ?_ _ | refine blk_drew ?_ | refine blk_alloc ?_ _)); exact BK291.out) hb); have n3_ := Aside0.mk (blk_below (g := gb295) (o := .cells #[.int .u8 a0_0, .int .u8 a0_1, .int .u8 a0_2, .int .u8 a0_3, .slice (some ⟨go28, 0, none⟩) y296.length co38, .int .i64 a0_5, .int .i64 a0_6, .int .i64 a0_7, .bool a0_8] 26 (0, 0)) (by (with_reducible repeat (first | refine blk_drewN ?_ _ | refine blk_drew ?_ | refine blk_alloc ?_ _)); exact BK295.out) hb); have n4_ := Aside0.mk (below_step (by repeat (first | (with_reducible first | exact HB.out | apply below_alloc | apply pw_below_drewN | apply below_drew1 | refine below_set ?_ GE291.out | refine below_set ?_ GE295.out) | exact HB.out)) hb); clear HO_292004; clear HO298; clear BK291; clear BK295; clear HB; have HO_292004 := n0_; have HO298 := n1_; have BK291 := n2_; have BK295 := n3_; have HB := n4_; clear n0_ n1_ n2_ n3_ n4_; (try clear hb); (try clear hb2); (try clear hk); (try clear hi)))
       (try simp only [Act.put, List.setIfInBounds_toArray, List.set_cons_zero, List.set_cons_succ])
       go_cut [14] (fun v14 wc => ∃ (kq : Nat) (x14_30 : Bool), v14 = .bool x14_30 ∧ Aside0 (wharfingerlaw13_ConfPorts.j1 kq a1 a2 a3 t301 t302 x14_30 a0_0 a0_1 a0_2 a0_3 l0_4 a0_5 a0_6 a0_7 a0_8 = some r) ∧ Aside0 (kq ≤ kj6) ∧ Aside0 (Kd.V k40 40 wc w.heap.size (fun k_ => (P0_4_ k_ ∨ w.heap.size ≤ k_) ∧ some k_ ≠ ((.slice (some ⟨go28, 0, none⟩) y296.length co38) : Value).ownBlock ∧ k_ ≠ gb291 ∧ k_ ≠ gb295) (.slice A0_4 l0_4.length c0_4) l0_4) ∧ Aside0 (Kd.N k40 40 wc w.heap.size (fun k_ => (P0_4_ k_ ∨ w.heap.size ≤ k_) ∧ k_ ≠ gb291 ∧ k_ ≠ gb295) (.slice (some ⟨go28, 0, none⟩) y296.length co38) y300) ∧ Aside0 (wc.heap[gb291]? = some (.cells #[.int .u8 a0_0, .int .u8 a0_1, .int .u8 a0_2, .int .u8 a0_3, (.slice A0_4 l0_4.length c0_4), .int .i64 a0_5, .int .i64 a0_6, .int .i64 a0_7, .bool a0_8] 26 (0, 0))) ∧ Aside0 (wc.heap[gb295]? = some (.cells #[.int .u8 a0_0, .int .u8 a0_1, .int .u8 a0_2, .int .u8 a0_3, (.slice (some ⟨go28, 0, none⟩) y296.length co38), .int .i64 a0_5, .int .i64 a0_6, .int .i64 a0_7, .bool a0_8] 26 (0, 0))) ∧ Aside0 (Below w.heap.size w wc))
       case first =>
        have H := HC31.out
        clear HC31
        by_cases c49 : a2 < 1024
        ·
         rw [if_pos c49] at H
         have c49b0 : decide (a2 < 1024) = true := decide_eq_true c49
         clear c49
         (first | rw [c49b0] | (simp only [i64_w, i32_w]; rw [c49b0]) | skip)
         have H' := Aside0.mk H
         clear H
         go_wp2
         go_meet
         case rel => exact ⟨_, (true), (by first | rfl | (simp; done) | (simp [*]; done)), H', ⟨by have := HJ6.out; first | omega | exact Nat.le_refl _⟩, ⟨by (with_reducible repeat (first | apply Kd.V_alloc | apply Kd.V_drewN | apply Kd.V_drew)); exact Kd.V_mono HO_292004.out (fun _ hk => ⟨hk.1.1, ⟨hk.2, ⟨hk.1.2.1, hk.1.2.2⟩⟩⟩)⟩, ⟨by (with_reducible repeat (first | apply Kd.N_alloc | apply Kd.N_drewN | apply Kd.N_drew)); exact HO298.out⟩, ⟨by (with_reducible repeat (first | refine blk_drewN ?_ _ | refine blk_drew ?_ | refine blk_alloc ?_ _)); exact BK291.out⟩, ⟨by (with_reducible repeat (first | refine blk_drewN ?_ _ | refine blk_drew ?_ | refine blk_alloc ?_ _)); exact BK295.out⟩, ⟨by repeat (first | (with_reducible first | exact HB.out | apply below_alloc | apply pw_below_drewN | apply below_drew1 | refine below_set ?_ GE291.out | refine below_set ?_ GE295.out) | exact HB.out)⟩⟩
        ·
         rw [if_neg c49] at H
         have c49b0 : decide (a2 < 1024) = false := decide_eq_false c49
         clear c49
         (first | rw [c49b0] | (simp only [i64_w, i32_w]; rw [c49b0]) | skip)
         by_cases c50 : a3 > 65535
         ·
          rw [if_pos c50] at H
          have c50b0 : decide (65535 < a3) = true := decide_eq_true c50
          clear c50
          have H' := Aside0.mk H
          clear H
          go_wp2
          go_meet
          case rel => exact ⟨_, (true), (by first | rfl | (simp; done) | (simp [*]; done)), H', ⟨by have := HJ6.out; first | omega | exact Nat.le_refl _⟩, ⟨by (with_reducible repeat (first | apply Kd.V_alloc | apply Kd.V_drewN | apply Kd.V_drew)); exact Kd.V_mono HO_292004.out (fun _ hk => ⟨hk.1.1, ⟨hk.2, ⟨hk.1.2.1, hk.1.2.2⟩⟩⟩)⟩, ⟨by (with_reducible repeat (first | apply Kd.N_alloc | apply Kd.N_drewN | apply Kd.N_drew)); exact HO298.out⟩, ⟨by (with_reducible repeat (first | refine blk_drewN ?_ _ | refine blk_drew ?_ | refine blk_alloc ?_ _)); exact BK291.out⟩, ⟨by (with_reducible repeat (first | refine blk_drewN ?_ _ | refine blk_drew ?_ | refine blk_alloc ?_ _)); exact BK295.out⟩, ⟨by repeat (first | (with_reducible first | exact HB.out | apply below_alloc | apply pw_below_drewN | apply below_drew1 | refine below_set ?_ GE291.out | refine below_set ?_ GE295.out) | exact HB.out)⟩⟩
         ·
          rw [if_neg c50] at H
          have c50b0 : decide (65535 < a3) = false := decide_eq_false c50
          clear c50
          have H' := Aside0.mk H
          clear H
          go_wp2
          go_meet
          case rel => exact ⟨_, (decide (a2 > a3)), (by first | rfl | (simp; done) | (simp [*]; done)), H', ⟨by have := HJ6.out; first | omega | exact Nat.le_refl _⟩, ⟨by (with_reducible repeat (first | apply Kd.V_alloc | apply Kd.V_drewN | apply Kd.V_drew)); exact Kd.V_mono HO_292004.out (fun _ hk => ⟨hk.1.1, ⟨hk.2, ⟨hk.1.2.1, hk.1.2.2⟩⟩⟩)⟩, ⟨by (with_reducible repeat (first | apply Kd.N_alloc | apply Kd.N_drewN | apply Kd.N_drew)); exact HO298.out⟩, ⟨by (with_reducible repeat (first | refine blk_drewN ?_ _ | refine blk_drew ?_ | refine blk_alloc ?_ _)); exact BK291.out⟩, ⟨by (with_reducible repeat (first | refine blk_drewN ?_ _ | refine blk_drew ?_ | refine blk_alloc ?_ _)); exact BK295.out⟩, ⟨by repeat (first | (with_reducible first | exact HB.out | apply below_alloc | apply pw_below_drewN | apply below_drew1 | refine below_set ?_ GE291.out | refine below_set ?_ GE295.out) | exact HB.out)⟩⟩
       case rest =>
        clear HC31
        try clear c1
        try clear c2
        try clear p2
        try clear q2
        try clear hx2
        try clear c3
        try clear c4
        try clear hx4
        try clear hf4
        try clear c5
        try clear c8
        try clear c9
        try clear c10
        try clear c11
        try clear c12
        try clear c13
        try clear c15
        try clear c16
        try clear c16b0
        try clear c24
        try clear c25
        try clear c26
        try clear c26b0
        try clear c27
        try clear c27b0
        try clear c28
        try clear p28
        try clear q28
        try clear hx28
        try clear hf28
        try clear c29
        try clear p29
        try clear q29
        try clear hx29
        try clear hf29
        try clear c34
        try clear c42
        try clear hx42
        try clear hf42
        try clear c45
        try clear hx45
        try clear hf45
        try clear c49
        try clear c49b0
        try clear c50
        try clear c50b0
        try clear hcz10_0
        try clear hcz10_1
        try clear hcz10_2
        try clear hcz10_3
        try clear hcz10_4
        try clear hcz10_5
        try clear hcz10_6
        try clear hcz10_7
        try clear hcz10_8
        try clear hcz17_0
        try clear hcz17_1
        try clear hcz17_2
        try clear hcz17_3
        try clear hcz17_4
        try clear hcz17_5
        try clear hcz17_6
        try clear hcz17_7
        try clear hcz17_8
        try clear hcz19_0
        try clear hcz19_1
        try clear hcz19_2
        try clear hcz19_3
        try clear hcz19_4
        try clear hcz19_5
        try clear hcz19_6
        try clear hcz19_7
        try clear hcz19_8
        try clear hcz21_0
        try clear hcz21_1
        try clear hcz21_2
        try clear hcz21_3
        try clear hcz21_4
        try clear hcz21_5
        try clear hcz21_6
        try clear hcz21_7
        try clear hcz21_8
        try clear hcz22_0
        try clear hcz22_1
        try clear hcz22_2
        try clear hcz22_3
        try clear hcz22_4
        try clear hcz22_5
        try clear hcz22_6
        try clear hcz22_7
        try clear hcz22_8
        try clear hcz32_0
        try clear hcz32_1
        try clear hcz32_2
        try clear hcz32_3
        try clear hcz32_4
        try clear hcz32_5
        try clear hcz32_6
        try clear hcz32_7
        try clear hcz32_8
        try clear hcz35_0
        try clear hcz35_1
        try clear hcz35_2
        try clear hcz35_3
        try clear hcz35_4
        try clear hcz35_5
        try clear hcz35_6
        try clear hcz35_7
        try clear hcz35_8
        try clear hcz36_0
        try clear hcz36_1
        try clear hcz36_2
        try clear hcz36_3
        try clear hcz36_4
        try clear hcz36_5
        try clear hcz36_6
        try clear hcz36_7
        try clear hcz36_8
        try clear hcz39_0
        try clear hcz39_1
        try clear hcz39_2
        try clear hcz39_3
        try clear hcz39_4
        try clear hcz39_5
        try clear hcz39_6
        try clear hcz39_7
        try clear hcz39_8
        try clear hcz41_0
        try clear hcz41_1
        try clear hcz41_2
        try clear hcz41_3
        try clear hcz41_4
        try clear hcz41_5
        try clear hcz41_6
        try clear hcz41_7
        try clear hcz41_8
        try clear hcz44_0
        try clear hcz44_1
        try clear hcz44_2
        try clear hcz44_3
        try clear hcz44_4
        try clear hcz44_5
        try clear hcz44_6
        try clear hcz44_7
        try clear hcz44_8
        try clear hcz47_0
        try clear hcz47_1
        try clear hcz47_2
        try clear hcz47_3
        try clear hcz47_4
        try clear hcz47_5
        try clear hcz47_6
        try clear hcz47_7
        try clear hcz47_8
        try clear hfz10_0
        try clear hfz10_1
        try clear hfz10_2
        try clear hfz10_3
        try clear hfz10_4
        try clear hfz10_5
        try clear hfz10_6
        try clear hfz10_7
        try clear hfz10_8
        try clear hfz17_0
        try clear hfz17_1
        try clear hfz17_2
        try clear hfz17_3
        try clear hfz17_4
        try clear hfz17_5
        try clear hfz17_6
        try clear hfz17_7
        try clear hfz17_8
        try clear hfz19_0
        try clear hfz19_1
        try clear hfz19_2
        try clear hfz19_3
        try clear hfz19_4
        try clear hfz19_5
        try clear hfz19_6
        try clear hfz19_7
        try clear hfz19_8
        try clear hfz21_0
        try clear hfz21_1
        try clear hfz21_2
        try clear hfz21_3
        try clear hfz21_4
        try clear hfz21_5
        try clear hfz21_6
        try clear hfz21_7
        try clear hfz21_8
        try clear hfz22_0
        try clear hfz22_1
        try clear hfz22_2
        try clear hfz22_3
        try clear hfz22_4
        try clear hfz22_5
        try clear hfz22_6
        try clear hfz22_7
        try clear hfz22_8
        try clear hfz32_0
        try clear hfz32_1
        try clear hfz32_2
        try clear hfz32_3
        try clear hfz32_4
        try clear hfz32_5
        try clear hfz32_6
        try clear hfz32_7
        try clear hfz32_8
        try clear hfz35_0
        try clear hfz35_1
        try clear hfz35_2
        try clear hfz35_3
        try clear hfz35_4
        try clear hfz35_5
        try clear hfz35_6
        try clear hfz35_7
        try clear hfz35_8
        try clear hfz36_0
        try clear hfz36_1
        try clear hfz36_2
        try clear hfz36_3
        try clear hfz36_4
        try clear hfz36_5
        try clear hfz36_6
        try clear hfz36_7
        try clear hfz36_8
        try clear hfz39_0
        try clear hfz39_1
        try clear hfz39_2
        try clear hfz39_3
        try clear hfz39_4
        try clear hfz39_5
        try clear hfz39_6
        try clear hfz39_7
        try clear hfz39_8
        try clear hfz41_0
        try clear hfz41_1
        try clear hfz41_2
        try clear hfz41_3
        try clear hfz41_4
        try clear hfz41_5
        try clear hfz41_6
        try clear hfz41_7
        try clear hfz41_8
        try clear hfz44_0
        try clear hfz44_1
        try clear hfz44_2
        try clear hfz44_3
        try clear hfz44_4
        try clear hfz44_5
        try clear hfz44_6
        try clear hfz44_7
        try clear hfz44_8
        try clear hfz47_0
        try clear hfz47_1
        try clear hfz47_2
        try clear hfz47_3
        try clear hfz47_4
        try clear hfz47_5
        try clear hfz47_6
        try clear hfz47_7
        try clear hfz47_8
        try clear hx28_0
        try clear hx28_1
        try clear hx28_10
        try clear hx28_11
        try clear hx28_12
        try clear hx28_13
        try clear hx28_2
        try clear hx28_3
        try clear hx28_4
        try clear hx28_5
        try clear hx28_6
        try clear hx28_7
        try clear hx28_8
        try clear hx28_9
        try clear hx29_0
        try clear hx29_1
        try clear hx29_10
        try clear hx29_11
        try clear hx29_12
        try clear hx29_13
        try clear hx29_2
        try clear hx29_3
        try clear hx29_4
        try clear hx29_5
        try clear hx29_6
        try clear hx29_7
        try clear hx29_8
        try clear hx29_9
        try clear hx42_7
        try clear hx45_8
        try clear p2
        try clear p28
        try clear p29
        try clear q28
        try clear q29
        obtain ⟨kq, x14_30, rfl, HA, HJ30, HO_292004, HO_296004, BK291, BK295, HB⟩ := hcut
        have hl296004_30 := (Kd.N_reads' HO_296004.out).1
        rw [hl296004_30] at HO_296004
        (try simp only [hl296004_30])
        (try simp only [hl296004_30] at BK291)
        (try simp only [hl296004_30] at BK295)
        (try simp only [hl296004_30] at HO_292004)
        cases kq with
        | zero => exact absurd HA.out (by simp [wharfingerlaw13_ConfPorts.j1])
        | succ kj30 =>
         have H := HA.out
         clear HA
         simp only [wharfingerlaw13_ConfPorts.j1] at H
         have H' := Aside0.mk H
         clear H
         go_wp2
         go_loopg [14, 15] kj30 (fun kq v14 v15 w' => ∃ (x14_3 : Bool) (x15_3 : Int), v14 = .bool x14_3 ∧ v15 = .int .i64 x15_3 ∧ Aside0 (wharfingerlaw13_ConfPorts.l0 kq a1 a2 a3 t301 t302 x14_3 x15_3 a0_0 a0_1 a0_2 a0_3 l0_4 a0_5 a0_6 a0_7 a0_8 = some r) ∧ Aside0 (kq ≤ kj30) ∧ Aside0 (Kd.V k40 40 w' w.heap.size (fun k_ => (P0_4_ k_ ∨ w.heap.size ≤ k_) ∧ some k_ ≠ ((.slice (some ⟨go28, 0, none⟩) y300.length co38) : Value).ownBlock ∧ k_ ≠ gb291 ∧ k_ ≠ gb295) (.slice A0_4 l0_4.length c0_4) l0_4) ∧ Aside0 (Kd.N k40 40 w' w.heap.size (fun k_ => (P0_4_ k_ ∨ w.heap.size ≤ k_) ∧ k_ ≠ gb291 ∧ k_ ≠ gb295) (.slice (some ⟨go28, 0, none⟩) y300.length co38) y300) ∧ Aside0 (w'.heap[gb291]? = some (.cells #[.int .u8 a0_0, .int .u8 a0_1, .int .u8 a0_2, .int .u8 a0_3, (.slice A0_4 l0_4.length c0_4), .int .i64 a0_5, .int .i64 a0_6, .int .i64 a0_7, .bool a0_8] 26 (0, 0))) ∧ Aside0 (w'.heap[gb295]? = some (.cells #[.int .u8 a0_0, .int .u8 a0_1, .int .u8 a0_2, .int .u8 a0_3, (.slice (some ⟨go28, 0, none⟩) y300.length co38), .int .i64 a0_5, .int .i64 a0_6, .int .i64 a0_7, .bool a0_8] 26 (0, 0))) ∧ Aside0 (Below w.heap.size w w'))
         case atStart => exact ⟨(x14_30), (0), (by first | rfl | (simp; done) | (simp [*]; done)), (by first | rfl | (simp; done) | (simp [*]; done)), H', ⟨Nat.le_refl _⟩, ⟨by (try simp only [hl296004_30]); (with_reducible repeat (first | apply Kd.V_alloc | apply Kd.V_drewN | apply Kd.V_drew)); exact HO_292004.out⟩, ⟨by (try simp only [hl296004_30]); (with_reducible repeat (first | apply Kd.N_alloc | apply Kd.N_drewN | apply Kd.N_drew)); exact HO_296004.out⟩, ⟨by (try simp only [hl296004_30]); (with_reducible repeat (first | refine blk_drewN ?_ _ | refine blk_drew ?_ | refine blk_alloc ?_ _)); exact BK291.out⟩, ⟨by (try simp only [hl296004_30]); (with_reducible repeat (first | refine blk_drewN ?_ _ | refine blk_drew ?_ | refine blk_alloc ?_ _)); exact BK295.out⟩, ⟨by repeat (first | (with_reducible first | exact HB.out | apply below_alloc | apply pw_below_drewN | apply below_drew1 | refine below_set ?_ GE291.out | refine below_set ?_ GE295.out) | exact HB.out)⟩⟩
         case round =>
          clear H'
          try clear c1
          try clear c2
          try clear p2
          try clear q2
          try clear hx2
          try clear c3
          try clear c4
          try clear hx4
          try clear hf4
          try clear c5
          try clear c8
          try clear c9
          try clear c10
          try clear c11
          try clear c12
          try clear c13
          try clear c15
          try clear c16
          try clear c16b0
          try clear c24
          try clear c25
          try clear c26
          try clear c26b0
          try clear c27
          try clear c27b0
          try clear c28
          try clear p28
          try clear q28
          try clear hx28
          try clear hf28
          try clear c29
          try clear p29
          try clear q29
          try clear hx29
          try clear hf29
          try clear c34
          try clear c42
          try clear hx42
          try clear hf42
          try clear c45
          try clear hx45
          try clear hf45
          try clear c49
          try clear c49b0
          try clear c50
          try clear c50b0
          try clear hcz10_0
          try clear hcz10_1
          try clear hcz10_2
          try clear hcz10_3
          try clear hcz10_4
          try clear hcz10_5
          try clear hcz10_6
          try clear hcz10_7
          try clear hcz10_8
          try clear hcz17_0
          try clear hcz17_1
          try clear hcz17_2
          try clear hcz17_3
          try clear hcz17_4
          try clear hcz17_5
          try clear hcz17_6
          try clear hcz17_7
          try clear hcz17_8
          try clear hcz19_0
          try clear hcz19_1
          try clear hcz19_2
          try clear hcz19_3
          try clear hcz19_4
          try clear hcz19_5
          try clear hcz19_6
          try clear hcz19_7
          try clear hcz19_8
          try clear hcz21_0
          try clear hcz21_1
          try clear hcz21_2
          try clear hcz21_3
          try clear hcz21_4
          try clear hcz21_5
          try clear hcz21_6
          try clear hcz21_7
          try clear hcz21_8
          try clear hcz22_0
          try clear hcz22_1
          try clear hcz22_2
          try clear hcz22_3
          try clear hcz22_4
          try clear hcz22_5
          try clear hcz22_6
          try clear hcz22_7
          try clear hcz22_8
          try clear hcz32_0
          try clear hcz32_1
          try clear hcz32_2
          try clear hcz32_3
          try clear hcz32_4
          try clear hcz32_5
          try clear hcz32_6
          try clear hcz32_7
          try clear hcz32_8
          try clear hcz35_0
          try clear hcz35_1
          try clear hcz35_2
          try clear hcz35_3
          try clear hcz35_4
          try clear hcz35_5
          try clear hcz35_6
          try clear hcz35_7
          try clear hcz35_8
          try clear hcz36_0
          try clear hcz36_1
          try clear hcz36_2
          try clear hcz36_3
          try clear hcz36_4
          try clear hcz36_5
          try clear hcz36_6
          try clear hcz36_7
          try clear hcz36_8
          try clear hcz39_0
          try clear hcz39_1
          try clear hcz39_2
          try clear hcz39_3
          try clear hcz39_4
          try clear hcz39_5
          try clear hcz39_6
          try clear hcz39_7
          try clear hcz39_8
          try clear hcz41_0
          try clear hcz41_1
          try clear hcz41_2
          try clear hcz41_3
          try clear hcz41_4
          try clear hcz41_5
          try clear hcz41_6
          try clear hcz41_7
          try clear hcz41_8
          try clear hcz44_0
          try clear hcz44_1
          try clear hcz44_2
          try clear hcz44_3
          try clear hcz44_4
          try clear hcz44_5
          try clear hcz44_6
          try clear hcz44_7
          try clear hcz44_8
          try clear hcz47_0
          try clear hcz47_1
          try clear hcz47_2
          try clear hcz47_3
          try clear hcz47_4
          try clear hcz47_5
          try clear hcz47_6
          try clear hcz47_7
          try clear hcz47_8
          try clear hfz10_0
          try clear hfz10_1
          try clear hfz10_2
          try clear hfz10_3
          try clear hfz10_4
          try clear hfz10_5
          try clear hfz10_6
          try clear hfz10_7
          try clear hfz10_8
          try clear hfz17_0
          try clear hfz17_1
          try clear hfz17_2
          try clear hfz17_3
          try clear hfz17_4
          try clear hfz17_5
          try clear hfz17_6
          try clear hfz17_7
          try clear hfz17_8
          try clear hfz19_0
          try clear hfz19_1
          try clear hfz19_2
          try clear hfz19_3
          try clear hfz19_4
          try clear hfz19_5
          try clear hfz19_6
          try clear hfz19_7
          try clear hfz19_8
          try clear hfz21_0
          try clear hfz21_1
          try clear hfz21_2
          try clear hfz21_3
          try clear hfz21_4
          try clear hfz21_5
          try clear hfz21_6
          try clear hfz21_7
          try clear hfz21_8
          try clear hfz22_0
          try clear hfz22_1
          try clear hfz22_2
          try clear hfz22_3
          try clear hfz22_4
          try clear hfz22_5
          try clear hfz22_6
          try clear hfz22_7
          try clear hfz22_8
          try clear hfz32_0
          try clear hfz32_1
          try clear hfz32_2
          try clear hfz32_3
          try clear hfz32_4
          try clear hfz32_5
          try clear hfz32_6
          try clear hfz32_7
          try clear hfz32_8
          try clear hfz35_0
          try clear hfz35_1
          try clear hfz35_2
          try clear hfz35_3
          try clear hfz35_4
          try clear hfz35_5
          try clear hfz35_6
          try clear hfz35_7
          try clear hfz35_8
          try clear hfz36_0
          try clear hfz36_1
          try clear hfz36_2
          try clear hfz36_3
          try clear hfz36_4
          try clear hfz36_5
          try clear hfz36_6
          try clear hfz36_7
          try clear hfz36_8
          try clear hfz39_0
          try clear hfz39_1
          try clear hfz39_2
          try clear hfz39_3
          try clear hfz39_4
          try clear hfz39_5
          try clear hfz39_6
          try clear hfz39_7
          try clear hfz39_8
          try clear hfz41_0
          try clear hfz41_1
          try clear hfz41_2
          try clear hfz41_3
          try clear hfz41_4
          try clear hfz41_5
          try clear hfz41_6
          try clear hfz41_7
          try clear hfz41_8
          try clear hfz44_0
          try clear hfz44_1
          try clear hfz44_2
          try clear hfz44_3
          try clear hfz44_4
          try clear hfz44_5
          try clear hfz44_6
          try clear hfz44_7
          try clear hfz44_8
          try clear hfz47_0
          try clear hfz47_1
          try clear hfz47_2
          try clear hfz47_3
          try clear hfz47_4
          try clear hfz47_5
          try clear hfz47_6
          try clear hfz47_7
          try clear hfz47_8
          try clear hx28_0
          try clear hx28_1
          try clear hx28_10
          try clear hx28_11
          try clear hx28_12
          try clear hx28_13
          try clear hx28_2
          try clear hx28_3
          try clear hx28_4
          try clear hx28_5
          try clear hx28_6
          try clear hx28_7
          try clear hx28_8
          try clear hx28_9
          try clear hx29_0
          try clear hx29_1
          try clear hx29_10
          try clear hx29_11
          try clear hx29_12
          try clear hx29_13
          try clear hx29_2
          try clear hx29_3
          try clear hx29_4
          try clear hx29_5
          try clear hx29_6
          try clear hx29_7
          try clear hx29_8
          try clear hx29_9
          try clear hx42_7
          try clear hx45_8
          try clear p2
          try clear p28
          try clear p29
          try clear q2
          try clear q28
          try clear q29
          obtain ⟨x14_3, x15_3, rfl, rfl, HA, HK3, HO_292004, HO_296004, BK291, BK295, HB⟩ := hrel
          cases gk with
          | zero => exact absurd HA.out (by simp [wharfingerlaw13_ConfPorts.l0])
          | succ k3 =>
           have H := HA.out
           clear HA
           simp only [wharfingerlaw13_ConfPorts.l0] at H
           by_cases c51 : x15_3 < a1
           ·
            rw [if_pos c51] at H
            have c51b0 : decide (x15_3 < a1) = true := decide_eq_true c51
            clear c51
            by_cases c52 : x14_3 = true
            ·
             subst c52
             have H1 : (wharfingerlaw13_ConfPorts.l0 k3 a1 a2 a3 t301 t302 true (wrap64 (x15_3 + 1)) a0_0 a0_1 a0_2 a0_3 l0_4 a0_5 a0_6 a0_7 a0_8) = some r := by rw [if_pos rfl] at H; exact H
             clear H
             have H := H1
             clear H1
             have H' := Aside0.mk H
             clear H
             go_wp2
             go_roundg k3
             case measure => have := HJ6.out; have := HJ30.out; have := HK3.out; omega
             case rel => exact ⟨(true), (wrap64 (x15_3 + 1)), (by first | rfl | (simp; done) | (simp [*]; done)), (by first | rfl | (simp; done) | (simp [*]; done)), H', ⟨by have := HJ6.out; have := HJ30.out; have := HK3.out; omega⟩, ⟨by (try simp only [hl296004_30]); (with_reducible repeat (first | apply Kd.V_alloc | apply Kd.V_drewN | apply Kd.V_drew)); exact HO_292004.out⟩, ⟨by (try simp only [hl296004_30]); (with_reducible repeat (first | apply Kd.N_alloc | apply Kd.N_drewN | apply Kd.N_drew)); exact HO_296004.out⟩, ⟨by (try simp only [hl296004_30]); (with_reducible repeat (first | refine blk_drewN ?_ _ | refine blk_drew ?_ | refine blk_alloc ?_ _)); exact BK291.out⟩, ⟨by (try simp only [hl296004_30]); (with_reducible repeat (first | refine blk_drewN ?_ _ | refine blk_drew ?_ | refine blk_alloc ?_ _)); exact BK295.out⟩, ⟨by repeat (first | (with_reducible first | exact HB.out | apply below_alloc | apply pw_below_drewN | apply below_drew1 | refine below_set ?_ GE291.out | refine below_set ?_ GE295.out) | exact HB.out)⟩⟩
            ·
             replace c52 := Bool.eq_false_iff.mpr c52
             subst c52
             have H1 : (if 0 ≤ x15_3 then (if x15_3 < (l0_4.length : Int) then (if a2 ≤ ((rd_T40 l0_4 x15_3).f4) then (wharfingerlaw13_ConfPorts.l0 k3 a1 a2 a3 t301 t302 (decide (a3 ≥ ((rd_T40 l0_4 x15_3).f3))) (wrap64 (x15_3 + 1)) a0_0 a0_1 a0_2 a0_3 l0_4 a0_5 a0_6 a0_7 a0_8) else (wharfingerlaw13_ConfPorts.l0 k3 a1 a2 a3 t301 t302 false (wrap64 (x15_3 + 1)) a0_0 a0_1 a0_2 a0_3 l0_4 a0_5 a0_6 a0_7 a0_8)) else (none)) else (none)) = some r := by rw [if_neg (show ¬ (false = true) by decide)] at H; exact H
             clear H
             have H := H1
             clear H1
             by_cases c53 : 0 ≤ x15_3
             ·
              rw [if_pos c53] at H
              have c53b0 : decide (0 ≤ x15_3) = true := decide_eq_true c53
              clear c53
              by_cases c54 : x15_3 < (l0_4.length : Int)
              ·
               rw [if_pos c54] at H
               have c54b0 : decide (x15_3 < (l0_4.length : Int)) = true := decide_eq_true c54
               clear c54
               by_cases c55 : a2 ≤ ((rd_T40 l0_4 x15_3).f4)
               ·
                rw [if_pos c55] at H
                have c55b0 : decide (a2 ≤ ((rd_T40 l0_4 x15_3).f4)) = true := decide_eq_true c55
                clear c55
                have H' := Aside0.mk H
                clear H
                have hnb56 := NB291_295.out
                have hnc56 := NB295_291.out
                have hcz57_0 : wr.cell? ⟨gb291, 0, none⟩ = some (.int .u8 a0_0) := (blk_cell BK291.out 0).trans rfl
                have hcz57_1 : wr.cell? ⟨gb291, 1, none⟩ = some (.int .u8 a0_1) := (blk_cell BK291.out 1).trans rfl
                have hcz57_2 : wr.cell? ⟨gb291, 2, none⟩ = some (.int .u8 a0_2) := (blk_cell BK291.out 2).trans rfl
                have hcz57_3 : wr.cell? ⟨gb291, 3, none⟩ = some (.int .u8 a0_3) := (blk_cell BK291.out 3).trans rfl
                have hcz57_4 : wr.cell? ⟨gb291, 4, none⟩ = some (.slice A0_4 l0_4.length c0_4) := (blk_cell BK291.out 4).trans rfl
                have hcz57_5 : wr.cell? ⟨gb291, 5, none⟩ = some (.int .i64 a0_5) := (blk_cell BK291.out 5).trans rfl
                have hcz57_6 : wr.cell? ⟨gb291, 6, none⟩ = some (.int .i64 a0_6) := (blk_cell BK291.out 6).trans rfl
                have hcz57_7 : wr.cell? ⟨gb291, 7, none⟩ = some (.int .i64 a0_7) := (blk_cell BK291.out 7).trans rfl
                have hcz57_8 : wr.cell? ⟨gb291, 8, none⟩ = some (.bool a0_8) := (blk_cell BK291.out 8).trans rfl
                have hfz57_0 := blk_frozen BK291.out 0
                have hfz57_1 := blk_frozen BK291.out 1
                have hfz57_2 := blk_frozen BK291.out 2
                have hfz57_3 := blk_frozen BK291.out 3
                have hfz57_4 := blk_frozen BK291.out 4
                have hfz57_5 := blk_frozen BK291.out 5
                have hfz57_6 := blk_frozen BK291.out 6
                have hfz57_7 := blk_frozen BK291.out 7
                have hfz57_8 := blk_frozen BK291.out 8
                have p303 : 0 ≤ (x15_3 : Int) := of_decide_eq_true (by first | (with_reducible assumption) | assumption)
                have q303 : x15_3 < (l0_4.length : Int) := of_decide_eq_true (by first | (with_reducible assumption) | assumption)
                obtain ⟨ad303, A303_9, c303_9, e303, hx303_0, hx303_1, hx303_2, hx303_3, hx303_4, hx303_5, hx303_6, hx303_7, hx303_8, hx303_9, hx303_10, hx303_11, hx303_12, hx303_13, hl303_9, hi303_9⟩ := at_T40 (Kd.V_reads' HO_292004.out).2.2 x15_3 p303 q303
                cases e303
                obtain ⟨ce303, hce303, hMe303, hcc303⟩ := Kd.V_get HO_292004.out z40 x15_3 p303 (by first | exact q303 | exact of_decide_eq_true (by first | (with_reducible assumption) | assumption) | (have e_ := (Kd.V_reads' HO_292004.out).1; omega))
                obtain ⟨ua303_9, uc303_9, rfl, ul303_9, ge303_9⟩ := k40_openF hMe303
                have hv303_9 := hcc303 9 _ rfl
                rw [add_field _ _ 9 (by omega)] at hv303_9
                replace hv303_9 := Option.some.inj (hv303_9.symm.trans hx303_9)
                injection hv303_9 with hva_ hvn_ hvc_
                rw [hva_] at ge303_9
                rw [hvc_] at ul303_9
                have HL303_9 := Aside0.mk (show Kd.V k44 44 _ w.heap.size _ _ ((rd_T40 l0_4 x15_3).f5) from Kd.V_mk ul303_9 ge303_9)
                clear hva_ hvn_ hvc_ ge303_9 ul303_9
                clear hcc303 hce303
                have HR303_9 := Aside0.mk hi303_9
                have HC303_9 := Aside0.mk hl303_9
                clear hi303_9 hl303_9
                replace p303 := eq_true p303
                replace q303 := eq_true q303
                have p304 : 0 ≤ (x15_3 : Int) := of_decide_eq_true (by first | (with_reducible assumption) | assumption)
                have q304 : x15_3 < (l0_4.length : Int) := of_decide_eq_true (by first | (with_reducible assumption) | assumption)
                obtain ⟨ad304, A304_9, c304_9, e304, hx304_0, hx304_1, hx304_2, hx304_3, hx304_4, hx304_5, hx304_6, hx304_7, hx304_8, hx304_9, hx304_10, hx304_11, hx304_12, hx304_13, hl304_9, hi304_9⟩ := at_T40 (Kd.V_reads' HO_292004.out).2.2 x15_3 p304 q304
                obtain rfl : ad303 = ad304 := (by injection e304)
                obtain ⟨ce304, hce304, hMe304, hcc304⟩ := Kd.V_get HO_292004.out z40 x15_3 p304 (by first | exact q304 | exact of_decide_eq_true (by first | (with_reducible assumption) | assumption) | (have e_ := (Kd.V_reads' HO_292004.out).1; omega))
                obtain ⟨ua304_9, uc304_9, rfl, ul304_9, ge304_9⟩ := k40_openF hMe304
                have hv304_9 := hcc304 9 _ rfl
                rw [add_field _ _ 9 (by omega)] at hv304_9
                replace hv304_9 := Option.some.inj (hv304_9.symm.trans hx304_9)
                injection hv304_9 with hva_ hvn_ hvc_
                rw [hva_] at ge304_9
                rw [hvc_] at ul304_9
                have HL304_9 := Aside0.mk (show Kd.V k44 44 _ w.heap.size _ _ ((rd_T40 l0_4 x15_3).f5) from Kd.V_mk ul304_9 ge304_9)
                clear hva_ hvn_ hvc_ ge304_9 ul304_9
                clear hcc304 hce304
                have HR304_9 := Aside0.mk hi304_9
                have HC304_9 := Aside0.mk hl304_9
                clear hi304_9 hl304_9
                replace p304 := eq_true p304
                replace q304 := eq_true q304
                have ea_ := Option.some.inj (hx303_9.symm.trans hx304_9)
                injection ea_ with ea_ en_ ec_
                subst ea_
                subst ec_
                clear en_
                go_wp2
                go_roundg k3
                case measure => have := HJ6.out; have := HJ30.out; have := HK3.out; omega
                case rel => exact ⟨(decide (a3 ≥ ((rd_T40 l0_4 x15_3).f3))), (wrap64 (x15_3 + 1)), (by first | rfl | (simp; done) | (simp [*]; done)), (by first | rfl | (simp; done) | (simp [*]; done)), H', ⟨by have := HJ6.out; have := HJ30.out; have := HK3.out; omega⟩, ⟨by (try simp only [hl296004_30]); (with_reducible repeat (first | apply Kd.V_alloc | apply Kd.V_drewN | apply Kd.V_drew)); exact HO_292004.out⟩, ⟨by (try simp only [hl296004_30]); (with_reducible repeat (first | apply Kd.N_alloc | apply Kd.N_drewN | apply Kd.N_drew)); exact HO_296004.out⟩, ⟨by (try simp only [hl296004_30]); (with_reducible repeat (first | refine blk_drewN ?_ _ | refine blk_drew ?_ | refine blk_alloc ?_ _)); exact BK291.out⟩, ⟨by (try simp only [hl296004_30]); (with_reducible repeat (first | refine blk_drewN ?_ _ | refine blk_drew ?_ | refine blk_alloc ?_ _)); exact BK295.out⟩, ⟨by repeat (first | (with_reducible first | exact HB.out | apply below_alloc | apply pw_below_drewN | apply below_drew1 | refine below_set ?_ GE291.out | refine below_set ?_ GE295.out) | exact HB.out)⟩⟩
               ·
                rw [if_neg c55] at H
                have c55b0 : decide (a2 ≤ ((rd_T40 l0_4 x15_3).f4)) = false := decide_eq_false c55
                clear c55
                have H' := Aside0.mk H
                clear H
                have hnb58 := NB291_295.out
                have hnc58 := NB295_291.out
                have hcz59_0 : wr.cell? ⟨gb291, 0, none⟩ = some (.int .u8 a0_0) := (blk_cell BK291.out 0).trans rfl
                have hcz59_1 : wr.cell? ⟨gb291, 1, none⟩ = some (.int .u8 a0_1) := (blk_cell BK291.out 1).trans rfl
                have hcz59_2 : wr.cell? ⟨gb291, 2, none⟩ = some (.int .u8 a0_2) := (blk_cell BK291.out 2).trans rfl
                have hcz59_3 : wr.cell? ⟨gb291, 3, none⟩ = some (.int .u8 a0_3) := (blk_cell BK291.out 3).trans rfl
                have hcz59_4 : wr.cell? ⟨gb291, 4, none⟩ = some (.slice A0_4 l0_4.length c0_4) := (blk_cell BK291.out 4).trans rfl
                have hcz59_5 : wr.cell? ⟨gb291, 5, none⟩ = some (.int .i64 a0_5) := (blk_cell BK291.out 5).trans rfl
                have hcz59_6 : wr.cell? ⟨gb291, 6, none⟩ = some (.int .i64 a0_6) := (blk_cell BK291.out 6).trans rfl
                have hcz59_7 : wr.cell? ⟨gb291, 7, none⟩ = some (.int .i64 a0_7) := (blk_cell BK291.out 7).trans rfl
                have hcz59_8 : wr.cell? ⟨gb291, 8, none⟩ = some (.bool a0_8) := (blk_cell BK291.out 8).trans rfl
                have hfz59_0 := blk_frozen BK291.out 0
                have hfz59_1 := blk_frozen BK291.out 1
                have hfz59_2 := blk_frozen BK291.out 2
                have hfz59_3 := blk_frozen BK291.out 3
                have hfz59_4 := blk_frozen BK291.out 4
                have hfz59_5 := blk_frozen BK291.out 5
                have hfz59_6 := blk_frozen BK291.out 6
                have hfz59_7 := blk_frozen BK291.out 7
                have hfz59_8 := blk_frozen BK291.out 8
                have p303 : 0 ≤ (x15_3 : Int) := of_decide_eq_true (by first | (with_reducible assumption) | assumption)
                have q303 : x15_3 < (l0_4.length : Int) := of_decide_eq_true (by first | (with_reducible assumption) | assumption)
                obtain ⟨ad303, A303_9, c303_9, e303, hx303_0, hx303_1, hx303_2, hx303_3, hx303_4, hx303_5, hx303_6, hx303_7, hx303_8, hx303_9, hx303_10, hx303_11, hx303_12, hx303_13, hl303_9, hi303_9⟩ := at_T40 (Kd.V_reads' HO_292004.out).2.2 x15_3 p303 q303
                cases e303
                obtain ⟨ce303, hce303, hMe303, hcc303⟩ := Kd.V_get HO_292004.out z40 x15_3 p303 (by first | exact q303 | exact of_decide_eq_true (by first | (with_reducible assumption) | assumption) | (have e_ := (Kd.V_reads' HO_292004.out).1; omega))
                obtain ⟨ua303_9, uc303_9, rfl, ul303_9, ge303_9⟩ := k40_openF hMe303
                have hv303_9 := hcc303 9 _ rfl
                rw [add_field _ _ 9 (by omega)] at hv303_9
                replace hv303_9 := Option.some.inj (hv303_9.symm.trans hx303_9)
                injection hv303_9 with hva_ hvn_ hvc_
                rw [hva_] at ge303_9
                rw [hvc_] at ul303_9
                have HL303_9 := Aside0.mk (show Kd.V k44 44 _ w.heap.size _ _ ((rd_T40 l0_4 x15_3).f5) from Kd.V_mk ul303_9 ge303_9)
                clear hva_ hvn_ hvc_ ge303_9 ul303_9
                clear hcc303 hce303
                have HR303_9 := Aside0.mk hi303_9
                have HC303_9 := Aside0.mk hl303_9
                clear hi303_9 hl303_9
                replace p303 := eq_true p303
                replace q303 := eq_true q303
                go_wp2
                go_roundg k3
                case measure => have := HJ6.out; have := HJ30.out; have := HK3.out; omega
                case rel => exact ⟨(false), (wrap64 (x15_3 + 1)), (by first | rfl | (simp; done) | (simp [*]; done)), (by first | rfl | (simp; done) | (simp [*]; done)), H', ⟨by have := HJ6.out; have := HJ30.out; have := HK3.out; omega⟩, ⟨by (try simp only [hl296004_30]); (with_reducible repeat (first | apply Kd.V_alloc | apply Kd.V_drewN | apply Kd.V_drew)); exact HO_292004.out⟩, ⟨by (try simp only [hl296004_30]); (with_reducible repeat (first | apply Kd.N_alloc | apply Kd.N_drewN | apply Kd.N_drew)); exact HO_296004.out⟩, ⟨by (try simp only [hl296004_30]); (with_reducible repeat (first | refine blk_drewN ?_ _ | refine blk_drew ?_ | refine blk_alloc ?_ _)); exact BK291.out⟩, ⟨by (try simp only [hl296004_30]); (with_reducible repeat (first | refine blk_drewN ?_ _ | refine blk_drew ?_ | refine blk_alloc ?_ _)); exact BK295.out⟩, ⟨by repeat (first | (with_reducible first | exact HB.out | apply below_alloc | apply pw_below_drewN | apply below_drew1 | refine below_set ?_ GE291.out | refine below_set ?_ GE295.out) | exact HB.out)⟩⟩
              ·
               rw [if_neg c54] at H
               exact absurd H (by simp)
             ·
              rw [if_neg c53] at H
              exact absurd H (by simp)
           ·
            rw [if_neg c51] at H
            have c51b0 : decide (x15_3 < a1) = false := decide_eq_false c51
            clear c51
            by_cases c60 : x14_3 = true
            ·
             subst c60
             have H1 : (if t301 = a1 then (some (t302 == 3)) else (some false)) = some r := by rw [if_pos rfl] at H; exact H
             clear H
             have H := H1
             clear H1
             by_cases c61 : t301 = a1
             ·
              rw [if_pos c61] at H
              have c61b0 : (t301 == a1) = true := beq_iff_eq.mpr c61
              have c61b1 : (t301 != a1) = false := bne_eq_false_iff_eq.mpr c61
              clear c61
              obtain rfl := Option.some.inj H
              go_wp2
              go_ret
              exact ⟨by first | rfl | (simp [errW_none, errW_some] <;> rfl) | (simp [*, errW_none, errW_some] <;> rfl), by repeat (first | (with_reducible first | exact HB.out | apply below_alloc | apply pw_below_drewN | apply below_drew1 | refine below_set ?_ GE291.out | refine below_set ?_ GE295.out) | exact HB.out)⟩
             ·
              rw [if_neg c61] at H
              have c61b0 : (t301 == a1) = false := beq_eq_false_iff_ne.mpr c61
              have c61b1 : (t301 != a1) = true := bne_iff_ne.mpr c61
              obtain rfl := Option.some.inj H
              go_wp2
              go_ret
              exact ⟨by first | rfl | (simp [errW_none, errW_some] <;> rfl) | (simp [*, errW_none, errW_some] <;> rfl), by repeat (first | (with_reducible first | exact HB.out | apply below_alloc | apply pw_below_drewN | apply below_drew1 | refine below_set ?_ GE291.out | refine below_set ?_ GE295.out) | exact HB.out)⟩
            ·
             replace c60 := Bool.eq_false_iff.mpr c60
             subst c60
             have H1 : (if t302 = 0 then (if t301 = (-1) then (some true) else (if t302 = 3 then (some (decide (t301 > a1))) else (some false))) else (if t302 = 3 then (some (decide (t301 > a1))) else (some false))) = some r := by rw [if_neg (show ¬ (false = true) by decide)] at H; exact H
             clear H
             have H := H1
             clear H1
             by_cases c62 : t302 = 0
             ·
              rw [if_pos c62] at H
              have c62b0 : (t302 == 0) = true := beq_iff_eq.mpr c62
              have c62b1 : (t302 != 0) = false := bne_eq_false_iff_eq.mpr c62
              clear c62
              by_cases c63 : t301 = (-1)
              ·
               rw [if_pos c63] at H
               have c63b0 : (t301 == (-1)) = true := beq_iff_eq.mpr c63
               have c63b1 : (t301 != (-1)) = false := bne_eq_false_iff_eq.mpr c63
               clear c63
               obtain rfl := Option.some.inj H
               go_wp2
               go_ret
               exact ⟨by first | rfl | (simp [errW_none, errW_some] <;> rfl) | (simp [*, errW_none, errW_some] <;> rfl), by repeat (first | (with_reducible first | exact HB.out | apply below_alloc | apply pw_below_drewN | apply below_drew1 | refine below_set ?_ GE291.out | refine below_set ?_ GE295.out) | exact HB.out)⟩
              ·
               rw [if_neg c63] at H
               have c63b0 : (t301 == (-1)) = false := beq_eq_false_iff_ne.mpr c63
               have c63b1 : (t301 != (-1)) = true := bne_iff_ne.mpr c63
               by_cases c64 : t302 = 3
               ·
                rw [if_pos c64] at H
                have c64b0 : (t302 == 3) = true := beq_iff_eq.mpr c64
                have c64b1 : (t302 != 3) = false := bne_eq_false_iff_eq.mpr c64
                clear c64
                obtain rfl := Option.some.inj H
                go_wp2
                go_ret
                exact ⟨by first | rfl | (simp [errW_none, errW_some] <;> rfl) | (simp [*, errW_none, errW_some] <;> rfl), by repeat (first | (with_reducible first | exact HB.out | apply below_alloc | apply pw_below_drewN | apply below_drew1 | refine below_set ?_ GE291.out | refine below_set ?_ GE295.out) | exact HB.out)⟩
               ·
                rw [if_neg c64] at H
                have c64b0 : (t302 == 3) = false := beq_eq_false_iff_ne.mpr c64
                have c64b1 : (t302 != 3) = true := bne_iff_ne.mpr c64
                obtain rfl := Option.some.inj H
                go_wp2
                go_ret
                exact ⟨by first | rfl | (simp [errW_none, errW_some] <;> rfl) | (simp [*, errW_none, errW_some] <;> rfl), by repeat (first | (with_reducible first | exact HB.out | apply below_alloc | apply pw_below_drewN | apply below_drew1 | refine below_set ?_ GE291.out | refine below_set ?_ GE295.out) | exact HB.out)⟩
             ·
              rw [if_neg c62] at H
              have c62b0 : (t302 == 0) = false := beq_eq_false_iff_ne.mpr c62
              have c62b1 : (t302 != 0) = true := bne_iff_ne.mpr c62
              by_cases c65 : t302 = 3
              ·
               rw [if_pos c65] at H
               have c65b0 : (t302 == 3) = true := beq_iff_eq.mpr c65
               have c65b1 : (t302 != 3) = false := bne_eq_false_iff_eq.mpr c65
               clear c65
               obtain rfl := Option.some.inj H
               go_wp2
               go_ret
               exact ⟨by first | rfl | (simp [errW_none, errW_some] <;> rfl) | (simp [*, errW_none, errW_some] <;> rfl), by repeat (first | (with_reducible first | exact HB.out | apply below_alloc | apply pw_below_drewN | apply below_drew1 | refine below_set ?_ GE291.out | refine below_set ?_ GE295.out) | exact HB.out)⟩
              ·
               rw [if_neg c65] at H
               have c65b0 : (t302 == 3) = false := beq_eq_false_iff_ne.mpr c65
               have c65b1 : (t302 != 3) = true := bne_iff_ne.mpr c65
               obtain rfl := Option.some.inj H
               go_wp2
               go_ret
               exact ⟨by first | rfl | (simp [errW_none, errW_some] <;> rfl) | (simp [*, errW_none, errW_some] <;> rfl), by repeat (first | (with_reducible first | exact HB.out | apply below_alloc | apply pw_below_drewN | apply below_drew1 | refine below_set ?_ GE291.out | refine below_set ?_ GE295.out) | exact HB.out)⟩
      ·
       rw [if_neg c27] at H
       exact absurd H (by simp)
     ·
      rw [if_neg c26] at H
      exact absurd H (by simp)
    ·
     rw [if_neg c25] at H
     exact absurd H (by simp)

end Go.Proofs.YtajaedebndeajaaDoor.Q

namespace Go.Proofs.YtajaedebndeajaaDoor.Pure
open Go Go.RowKit Go.Proofs.YtajaedebndeajaaDoor.Q Go.Proofs.YtajaedebndeajaaDoor.Quad Go.Proofs.YtajaedebndeajaaDoorW.PrintWords Go.Proofs.YtajaedebndeajaaDoorW.PrintLast Go.Proofs.YtajaedebndeajaaDoorW.PrintMore
set_option linter.unusedVariables false
set_option linter.unusedSimpArgs false

def withP (t : Ten) (lo hi : Int) : Ten := ⟨t.f0, t.f1, t.f2, lo, hi, t.f5, t.f6, t.f7, t.f8, t.f9⟩
theorem hosts_any {l m : List Ten} (h : l.map (·.f1) = m.map (·.f1)) (host : ByteArray) : l.any (isHost host) = m.any (isHost host) := by
  have e : ∀ x : List Ten, x.any (isHost host) = (x.map (·.f1)).any (fun b => b.toList == host.toList) := fun x => by rw [List.any_map]; rfl
  rw [e, e, h]
theorem set_hosts (l : List Ten) (i : Nat) (hi : i < l.length) (lo hi' : Int) (j : Nat) : ((l.set i (withP l[i] lo hi')).take j).map (·.f1) = (l.take j).map (·.f1) := by
  rw [List.map_take, List.map_take, List.map_set]
  congr 1
  have e : (withP l[i] lo hi').f1 = (l.map (·.f1))[i]'(by simpa using hi) := by rw [List.getElem_map]; rfl
  rw [e, List.set_getElem_self]
theorem one_hosts {t : Ten} {l m : List Ten} (h : l.map (·.f1) = m.map (·.f1)) : oneS t l = oneS t m := by rw [oneS, oneS, hosts_any h]
theorem set_one (l : List Ten) (i : Nat) (hi : i < l.length) (lo hi' : Int) (j : Nat) (hj : j < l.length) : oneS ((l.set i (withP l[i] lo hi'))[j]'(by simpa using hj)) ((l.set i (withP l[i] lo hi')).take j) = oneS l[j] (l.take j) := by
  rw [one_hosts (set_hosts l i hi lo hi' j)]
  by_cases h : i = j
  · subst h
    rw [List.getElem_set_self]; rfl
  · rw [List.getElem_set_ne h]
theorem set_low (l : List Ten) (i : Nat) (t : Ten) (j : Nat) (hj : j ≤ i) : (l.set i t).take j = l.take j := List.take_set_of_le hj
theorem set_fine {l : List Ten} (hf : ∀ j, j < l.length → fine l j) {i : Nat} (hi : i < l.length) (t : Ten) : ∀ j, j < i → fine (l.set i t) j := by
  intro j hj x hx
  rw [List.getElem?_set_ne (by omega)] at hx
  rw [set_low l i t j (by omega)]
  exact hf j (by omega) x hx
/-- May the new ports not be? -/
def badP (l : List Ten) (i : Nat) (lo hi : Int) : Bool := decide (lo < 1024) || decide (hi > 65535) || decide (lo > hi) || (l.take i).any fun x => decide (lo ≤ x.f4) && decide (x.f3 ≤ hi)
theorem bad_ports {l : List Ten} (hf : ∀ j, j < l.length → fine l j) {i : Nat} (hi : i < l.length) (lo hi' : Int) : portsS (withP l[i] lo hi') (l.take i) = !badP l i lo hi' := by
  have hlow : ∀ x ∈ l.take i, x.f3 ≤ x.f4 := by
    intro x hx
    obtain ⟨j, hj, rfl⟩ := List.mem_take_iff_getElem.1 hx
    exact (fine_facts (by omega) (hf j (by omega))).2.1
  by_cases h1 : lo < 1024
  · rw [badP, decide_eq_true h1, portsS, inR, decide_eq_false (show ¬ (1024 ≤ (withP l[i] lo hi').f3) from fun h => by have : 1024 ≤ lo := h; omega)]; simp
  · by_cases h2 : hi' > 65535
    · rw [badP, decide_eq_true h2, portsS, decide_eq_false (show ¬ ((withP l[i] lo hi').f4 ≤ 65535) from fun h => by have : hi' ≤ 65535 := h; omega)]; simp
    · by_cases h3 : lo > hi'
      · rw [badP, decide_eq_true h3, portsS, inR, decide_eq_false (show ¬ ((withP l[i] lo hi').f3 ≤ (withP l[i] lo hi').f4) from fun h => by have : lo ≤ hi' := h; omega)]; simp
      · rw [badP, decide_eq_false h1, decide_eq_false h2, decide_eq_false h3, portsS, inR, decide_eq_true (show 1024 ≤ (withP l[i] lo hi').f3 from by show 1024 ≤ lo; omega), decide_eq_true (show (withP l[i] lo hi').f3 ≤ (withP l[i] lo hi').f4 from by show lo ≤ hi'; omega), decide_eq_true (show (withP l[i] lo hi').f4 ≤ 65535 from by show hi' ≤ 65535; omega)]
        rw [Bool.and_self, Bool.and_self, Bool.and_true, Bool.or_self, Bool.or_self, Bool.false_or]
        congr 1
        have hx : ∀ m : List Ten, (∀ x ∈ m, x.f3 ≤ x.f4) → m.any (meets (withP l[i] lo hi')) = m.any fun x => decide (lo ≤ x.f4) && decide (x.f3 ≤ hi') := by
          intro m
          induction m with
          | nil => exact fun _ => rfl
          | cons x m ih =>
            intro hm
            rw [List.any_cons, List.any_cons, ih fun y hy => hm y (by simp [hy])]
            congr 1
            have h5 := hm x (by simp)
            show decide (mx lo x.f3 ≤ mn hi' x.f4) = _
            rw [Bool.eq_iff_iff, decide_eq_true_iff, Bool.and_eq_true, decide_eq_true_iff, decide_eq_true_iff, mx, mn]
            omega
        exact hx _ hlow
/-- What the law asks at the end. -/
def finP (i a n : Int) (b : Bool) : Option Bool := if b = true then (if a = i then (some (n == 3)) else (some false)) else (if n = 0 then (if a = (-1) then (some true) else (if n = 3 then (some (decide (a > i))) else (some false))) else (if n = 3 then (some (decide (a > i))) else (some false)))
theorem fin_is {l : List Ten} {pre life idle : Int} (hh : okHead l.length pre life idle = true) (hf : ∀ j, j < l.length → fine l j) {i : Nat} (hi : i < l.length) (lo hi' : Int) (w : Int × Int) (hw : w = whyS (l.set i (withP l[i] lo hi')) pre life idle) : finP (i : Int) w.1 w.2 (badP l i lo hi') = some true := by
  obtain ⟨m, hm⟩ : ∃ m, m = l.set i (withP l[i] lo hi') := ⟨_, rfl⟩
  have hml : m.length = l.length := by rw [hm, List.length_set]
  have hs : w = scanS m m.length 0 := by rw [hw, ← hm, whyS, hml, if_pos hh]
  have hfi : ∀ j, j < i → fine m j := by rw [hm]; exact set_fine hf hi _
  have hone : ∀ j (hj : j < m.length), oneS m[j] (m.take j) = true := by
    intro j hj
    have h1 := (hf j (by omega) _ (List.getElem?_eq_getElem (by omega))).1
    subst hm
    rw [set_one l i hi lo hi' j (by simpa using hj)]
    exact h1
  have hgi : m[i]'(by omega) = withP l[i] lo hi' := by subst hm; rw [List.getElem_set_self]
  have hpi : portsS (m[i]'(by omega)) (m.take i) = !badP l i lo hi' := by
    rw [hgi, ← bad_ports hf hi lo hi']
    congr 1
    rw [hm]; exact set_low l i _ i (Nat.le_refl _)
  cases hb : badP l i lo hi'
  · rw [hb] at hpi
    have hfin : fine m i := fine_of (by omega) (hone i (by omega)) hpi
    rcases scan_goes m with ⟨he, _⟩ | ⟨j, hj, he, _, h1⟩ | ⟨j, hj, he, h0, _, h2⟩
    · rw [hs, he]; rfl
    · rw [hone j hj] at h1; cases h1
    · have hij : i < j := by
        rcases Nat.lt_or_ge i j with h | h
        · exact h
        · rcases Nat.lt_or_ge j i with h' | h'
          · have := (hfi j h' _ (List.getElem?_eq_getElem hj)).2
            rw [h2] at this; cases this
          · obtain rfl : i = j := by omega
            rw [hpi] at h2; cases h2
      rw [hs, he]
      show finP (i : Int) (j : Int) 3 false = some true
      rw [finP, if_neg Bool.false_ne_true, if_neg (by decide), if_pos rfl, decide_eq_true (by omega)]
  · rw [hb] at hpi
    rw [hs, scan_three m i (by omega) hfi (hone i (by omega)) hpi]
    show finP (i : Int) (i : Int) 3 true = some true
    rw [finP, if_pos rfl, if_pos rfl]; rfl
theorem ports13_l0 (o0 o1 o2 o3 : Int) (l : List Ten) (pre life idle : Int) (lf : Bool) (lo hi a n : Int) (i : Nat) (hi' : i < l.length) (hl : l.length ≤ 1000000) :
    ∀ d j : Nat, j + d = i → ∀ b : Bool, finP (i : Int) a n (b || ((l.take i).drop j).any fun x => decide (lo ≤ x.f4) && decide (x.f3 ≤ hi)) = some true → Ev (fun k => wharfingerlaw13_ConfPorts.l0 k (i : Int) lo hi a n b (j : Int) o0 o1 o2 o3 l pre life idle lf) true := by
  have hlen : (l.take i).length = i := by rw [List.length_take]; omega
  intro d
  induction d with
  | zero =>
    intro j hj b hb
    rw [List.drop_of_length_le (by omega), List.any_nil, Bool.or_false] at hb
    refine Ev.step (f := fun _ => some true) (fun k => ?_) (Ev.now _)
    simp only [wharfingerlaw13_ConfPorts.l0]
    rw [if_neg (by omega)]
    exact hb
  | succ d ih =>
    intro j hj b hb
    have hlt : j < (l.take i).length := by omega
    have hjl : j < l.length := by omega
    rw [List.drop_eq_getElem_cons hlt, List.any_cons, List.getElem_take] at hb
    cases b
    · rw [Bool.false_or] at hb
      by_cases h1 : lo ≤ (l[j]).f4
      · rw [decide_eq_true h1, Bool.true_and] at hb
        refine Ev.step (fun k => ?_) (ih (j + 1) (by omega) _ hb)
        simp only [wharfingerlaw13_ConfPorts.l0]
        rw [if_pos (by omega), if_neg Bool.false_ne_true, if_pos (by omega), if_pos (by omega), rd_ten l j hjl, if_pos h1, wrap_up (by omega)]
      · rw [decide_eq_false h1, Bool.false_and] at hb
        refine Ev.step (fun k => ?_) (ih (j + 1) (by omega) _ hb)
        simp only [wharfingerlaw13_ConfPorts.l0]
        rw [if_pos (by omega), if_neg Bool.false_ne_true, if_pos (by omega), if_pos (by omega), rd_ten l j hjl, if_neg h1, wrap_up (by omega)]
    · rw [Bool.true_or] at hb
      refine Ev.step (fun k => ?_) (ih (j + 1) (by omega) true (by rw [Bool.true_or]; exact hb))
      simp only [wharfingerlaw13_ConfPorts.l0]
      rw [if_pos (by omega), if_pos trivial, wrap_up (by omega)]
theorem rd_set (l : List Ten) (i : Nat) (hi : i < l.length) (t : Ten) : rd_T40 (l.set i t) (i : Int) = t := by
  rw [rd_ten _ i (by rw [List.length_set]; exact hi), List.getElem_set_self]
theorem ports13_j0 (o0 o1 o2 o3 : Int) (l : List Ten) (pre life idle : Int) (lf : Bool) (hl : okAll l) (hh : okHead l.length pre life idle = true) (hf : ∀ j, j < l.length → fine l j) (lo hi : Int) (i : Nat) (hi' : i < l.length) :
    Ev (fun k => wharfingerlaw13_ConfPorts.j0 k (i : Int) lo hi true false o0 o1 o2 o3 l pre life idle lf) true := by
  have hl6 := hl.1
  obtain ⟨w, hw⟩ : ∃ w, w = whyS (l.set i (withP l[i] lo hi)) pre life idle := ⟨_, rfl⟩
  have hok : okAll (l.set i (withP l[i] lo hi)) := by
    refine ⟨by rw [List.length_set]; exact hl6, fun t ht => ?_⟩
    rcases List.mem_or_eq_of_mem_set ht with h | rfl
    · exact hl.2 t h
    · exact hl.2 l[i] (List.getElem_mem _)
  have hj1 : ∀ b : Bool, finP (i : Int) w.1 w.2 (b || (l.take i).any fun x => decide (lo ≤ x.f4) && decide (x.f3 ≤ hi)) = some true → Ev (fun k => wharfingerlaw13_ConfPorts.j1 k (i : Int) lo hi w.1 w.2 b o0 o1 o2 o3 l pre life idle lf) true := by
    intro b hb
    refine Ev.step (fun k => ?_) (ports13_l0 o0 o1 o2 o3 l pre life idle lf lo hi w.1 w.2 i hi' hl6 i 0 (by omega) b (by rw [List.drop_zero]; exact hb))
    simp only [wharfingerlaw13_ConfPorts.j1]
    rfl
  have hfin := fin_is hh hf hi' lo hi w hw
  have hst : ∀ k, wharfingerlaw13_ConfPorts.j0 (k + 1) (i : Int) lo hi true false o0 o1 o2 o3 l pre life idle lf = (if lo < 1024 then (wharfingerlaw13_ConfPorts.j1 k (i : Int) lo hi w.1 w.2 true o0 o1 o2 o3 l pre life idle lf) else (if hi > 65535 then (wharfingerlaw13_ConfPorts.j1 k (i : Int) lo hi w.1 w.2 true o0 o1 o2 o3 l pre life idle lf) else (wharfingerlaw13_ConfPorts.j1 k (i : Int) lo hi w.1 w.2 (decide (lo > hi)) o0 o1 o2 o3 l pre life idle lf))) := fun k => by
    simp only [wharfingerlaw13_ConfPorts.j0]
    rw [if_neg Bool.false_ne_true, if_pos (by simp; omega)]
    simp only [Option.bind_some, List.nil_append]
    rw [if_pos (by omega), if_pos (by omega)]
    simp only [Int.toNat_natCast, rd_ten l i hi', rd_set l i hi', List.set_set]
    rw [show conf_Why.f o0 o1 o2 o3 (l.set i _) pre life idle lf = some w from by rw [hw]; exact why_at o0 o1 o2 o3 _ pre life idle lf hok]
    rfl
  rw [badP] at hfin
  by_cases h1 : lo < 1024
  · rw [decide_eq_true h1] at hfin
    refine Ev.step (fun k => ?_) (hj1 true (by simpa using hfin))
    rw [hst, if_pos h1]
  · by_cases h2 : hi > 65535
    · rw [decide_eq_false h1, decide_eq_true h2] at hfin
      refine Ev.step (fun k => ?_) (hj1 true (by simpa using hfin))
      rw [hst, if_neg h1, if_pos h2]
    · rw [decide_eq_false h1, decide_eq_false h2, Bool.or_self, Bool.false_or] at hfin
      refine Ev.step (fun k => ?_) (hj1 _ hfin)
      rw [hst, if_neg h1, if_neg h2]
theorem confPorts_ev (o0 o1 o2 o3 : Int) (l : List Ten) (pre life idle : Int) (lf : Bool) (i lo hi : Int) : Ev (fun k => wharfingerlaw13_ConfPorts.f k o0 o1 o2 o3 l pre life idle lf i lo hi) true := by
  have hj : Ev (fun k => wharfingerlaw13_ConfPorts.j0 k i lo hi true true o0 o1 o2 o3 l pre life idle lf) true := by
    refine Ev.step (f := fun _ => some true) (fun k => ?_) (Ev.now _)
    simp only [wharfingerlaw13_ConfPorts.j0]
    rfl
  unfold wharfingerlaw13_ConfPorts.f
  simp only [awake_is, Option.bind_some, ↓reduceIte]
  refine Ev.bind (few_ev o0 o1 o2 o3 l pre life idle lf) ?_
  cases hfew : fewS l
  · simp only [Bool.false_eq_true, ↓reduceIte]
    exact hj
  · have hl := few_ok hfew
    simp only [↓reduceIte, may_at _ _ _ _ l _ _ _ _ hl, Option.bind_some]
    cases hm : ((whyS l pre life idle).2 == 0)
    · simp only [Bool.false_eq_true, ↓reduceIte]
      exact hj
    · simp only [↓reduceIte]
      obtain ⟨hh, hf⟩ := may_means hm
      by_cases h0 : i < 0
      · simp only [h0, ↓reduceIte]
        exact hj
      · simp only [h0, ↓reduceIte]
        by_cases h1 : i ≥ (l.length : Int)
        · rw [decide_eq_true h1]
          exact hj
        · rw [decide_eq_false h1]
          obtain ⟨n, rfl⟩ : ∃ n : Nat, i = (n : Int) := ⟨i.toNat, by omega⟩
          exact ports13_j0 o0 o1 o2 o3 l pre life idle lf hl hh hf lo hi n (by omega)
theorem heapR : Kd.Heap k44 := Kd.heap_iso _ (Kd.heap_pair Kd.heap_bool (Kd.heap_pair Kd.heap_string Kd.heap_string))
theorem heapH : Kd.Heap k23 := Kd.heap_iso _ (Kd.heap_pair (Kd.heap_int _) (Kd.heap_pair (Kd.heap_int _) (Kd.heap_pair (Kd.heap_int _) (Kd.heap_int _))))
theorem heapE : Kd.Heap k37 := Kd.heap_iso _ (Kd.heap_pair heapH (Kd.heap_int _))
theorem heapT : Kd.Heap k40 := Kd.heap_iso _ (Kd.heap_pair Kd.heap_string (Kd.heap_pair Kd.heap_string (Kd.heap_pair heapE (Kd.heap_pair (Kd.heap_int _) (Kd.heap_pair (Kd.heap_int _) (Kd.heap_pair (Kd.heap_slice _ heapR) (Kd.heap_pair (Kd.heap_int _) (Kd.heap_pair (Kd.heap_int _) (Kd.heap_pair (Kd.heap_int _) (Kd.heap_int _))))))))))
theorem ports_walk (o0 o1 o2 o3 : Int) (A : Option Addr) (c : Nat) (l : List S40) (pre life idle : Int) (lf : Bool) (i lo hi : Int) (w : World) (hc : l.length ≤ c) (hr : Kd.C k40 w A l.length l) (hmet : AclMet.WMet w) :
    Calls Tryd.prog 8 #[.agg #[.int .u8 o0, .int .u8 o1, .int .u8 o2, .int .u8 o3, .slice A l.length c, .int .i64 pre, .int .i64 life, .int .i64 idle, .bool lf], .int .i64 i, .int .i64 lo, .int .i64 hi] w fun e w' => e = .returned (.bool true) ∧ Below w.heap.size w w' := by
  obtain ⟨k, hk⟩ := (confPorts_ev o0 o1 o2 o3 l pre life idle lf i lo hi).rounds
  exact wharfingerlaw13_ConfPorts.calls k o0 o1 o2 o3 (fun j => j < w.heap.size) A c l pre life idle lf i lo hi true w (Kd.V_mk hc (Kd.C_F heapT hr)) hmet hk
end Go.Proofs.YtajaedebndeajaaDoor.Pure
