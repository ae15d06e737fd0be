/- Contracts and plain facts that the law's proof needs. -/
import Derived.Test.YtajaedebndeajaaDoorM2
import Derived.Test.YtajaedebndeajaaDoorM4
import Derived.Test.YtajaedebndeajaaDoorM7
import Derived.Test.YtajaedebndeajaaDoorM8
namespace Go.Proofs.YtajaedebndeajaaDoor.Q
open Go.RowKit Go.Proofs.YtajaedebndeajaaDoor.AclMet Go.Proofs.YtajaedebndeajaaDoorW.PrintWords Go.Proofs.YtajaedebndeajaaDoorW.PrintLast Go.Proofs.YtajaedebndeajaaDoorW.PrintMore
attribute [local go_sem] max2_int min2_int max_two min_two max_three min_three max_four min_four   -- for this text's walks alone
set_option linter.unusedVariables false
set_option linter.unusedSimpArgs false

/-! ### wharfingerlaw13_ConfApart: function 5 -/
mutual
def wharfingerlaw13_ConfApart.j0 : Nat → Int → Bool → Bool → Int → Int → Int → Int → List (S40) → Int → Int → Int → Bool → Option (Bool)
 | 0, _, _, _, _, _, _, _, _, _, _, _, _ => none
 | k + 1, x1, x5, x24, x239000, x239001, x239002, x239003, x239004, x239005, x239006, x239007, x239008 => if x24 = true then (some x5) else (wharfingerlaw13_ConfApart.l0 k x1 0 0 x239000 x239001 x239002 x239003 x239004 x239005 x239006 x239007 x239008)
def wharfingerlaw13_ConfApart.l0 : Nat → Int → Int → Int → Int → Int → Int → Int → List (S40) → Int → Int → Int → Bool → Option (Bool)
 | 0, _, _, _, _, _, _, _, _, _, _, _, _ => none
 | k + 1, x1, x7, x8, x239000, x239001, x239002, x239003, x239004, x239005, x239006, x239007, x239008 => if x8 < (x239004.length : Int) then (if 0 ≤ x8 then (if x1 ≥ ((rd_T40 x239004 x8).f3) then (wharfingerlaw13_ConfApart.j2 k x1 x7 x8 (decide (x1 ≤ ((rd_T40 x239004 x8).f4))) x239000 x239001 x239002 x239003 x239004 x239005 x239006 x239007 x239008 ((rd_T40 x239004 x8).f0) ((rd_T40 x239004 x8).f1) ((rd_T40 x239004 x8).f2.f0.f0) ((rd_T40 x239004 x8).f2.f0.f1) ((rd_T40 x239004 x8).f2.f0.f2) ((rd_T40 x239004 x8).f2.f0.f3) ((rd_T40 x239004 x8).f2.f1) ((rd_T40 x239004 x8).f3) ((rd_T40 x239004 x8).f4) ((rd_T40 x239004 x8).f5) ((rd_T40 x239004 x8).f6) ((rd_T40 x239004 x8).f7) ((rd_T40 x239004 x8).f8) ((rd_T40 x239004 x8).f9)) else (wharfingerlaw13_ConfApart.j2 k x1 x7 x8 false x239000 x239001 x239002 x239003 x239004 x239005 x239006 x239007 x239008 ((rd_T40 x239004 x8).f0) ((rd_T40 x239004 x8).f1) ((rd_T40 x239004 x8).f2.f0.f0) ((rd_T40 x239004 x8).f2.f0.f1) ((rd_T40 x239004 x8).f2.f0.f2) ((rd_T40 x239004 x8).f2.f0.f3) ((rd_T40 x239004 x8).f2.f1) ((rd_T40 x239004 x8).f3) ((rd_T40 x239004 x8).f4) ((rd_T40 x239004 x8).f5) ((rd_T40 x239004 x8).f6) ((rd_T40 x239004 x8).f7) ((rd_T40 x239004 x8).f8) ((rd_T40 x239004 x8).f9))) else (none)) else (if x7 ≤ 1 then (if (x239004.length : Int) ≥ 1 then (some (decide ((x239004.length : Int) ≤ 4))) else (some false)) else (some false))
def wharfingerlaw13_ConfApart.j2 : Nat → Int → Int → Int → Bool → Int → Int → Int → Int → List (S40) → Int → Int → Int → Bool → ByteArray → ByteArray → Int → Int → Int → Int → Int → Int → Int → List (S44) → Int → Int → Int → Int → Option (Bool)
 | 0, _, _, _, _, _, _, _, _, _, _, _, _, _, _, _, _, _, _, _, _, _, _, _, _, _, _, _ => none
 | k + 1, x1, x7, x8, x47, x239000, x239001, x239002, x239003, x239004, x239005, x239006, x239007, x239008, x244000, x244001, x244002, x244003, x244004, x244005, x244006, x244007, x244008, x244009, x244010, x244011, x244012, x244013 => if x47 = true then (wharfingerlaw13_ConfApart.j3 k x1 (wrap64 (x7 + 1)) x8 x239000 x239001 x239002 x239003 x239004 x239005 x239006 x239007 x239008 x244000 x244001 x244002 x244003 x244004 x244005 x244006 x244007 x244008 x244009 x244010 x244011 x244012 x244013) else (wharfingerlaw13_ConfApart.j3 k x1 x7 x8 x239000 x239001 x239002 x239003 x239004 x239005 x239006 x239007 x239008 x244000 x244001 x244002 x244003 x244004 x244005 x244006 x244007 x244008 x244009 x244010 x244011 x244012 x244013)
def wharfingerlaw13_ConfApart.j3 : Nat → Int → Int → Int → Int → Int → Int → Int → List (S40) → Int → Int → Int → Bool → ByteArray → ByteArray → Int → Int → Int → Int → Int → Int → Int → List (S44) → Int → Int → Int → Int → Option (Bool)
 | 0, _, _, _, _, _, _, _, _, _, _, _, _, _, _, _, _, _, _, _, _, _, _, _, _, _, _ => none
 | k + 1, x1, x7, x8, x239000, x239001, x239002, x239003, x239004, x239005, x239006, x239007, x239008, x244000, x244001, x244002, x244003, x244004, x244005, x244006, x244007, x244008, x244009, x244010, x244011, x244012, x244013 => if x244007 < 1024 then (wharfingerlaw13_ConfApart.j4 k x1 x7 x8 true x239000 x239001 x239002 x239003 x239004 x239005 x239006 x239007 x239008 x244000 x244001 x244002 x244003 x244004 x244005 x244006 x244007 x244008 x244009 x244010 x244011 x244012 x244013) else (if x244008 > 65535 then (wharfingerlaw13_ConfApart.j4 k x1 x7 x8 true x239000 x239001 x239002 x239003 x239004 x239005 x239006 x239007 x239008 x244000 x244001 x244002 x244003 x244004 x244005 x244006 x244007 x244008 x244009 x244010 x244011 x244012 x244013) else (if x244007 > x244008 then (wharfingerlaw13_ConfApart.j4 k x1 x7 x8 true x239000 x239001 x239002 x239003 x239004 x239005 x239006 x239007 x239008 x244000 x244001 x244002 x244003 x244004 x244005 x244006 x244007 x244008 x244009 x244010 x244011 x244012 x244013) else (if x244010 < 1 then (wharfingerlaw13_ConfApart.j4 k x1 x7 x8 true x239000 x239001 x239002 x239003 x239004 x239005 x239006 x239007 x239008 x244000 x244001 x244002 x244003 x244004 x244005 x244006 x244007 x244008 x244009 x244010 x244011 x244012 x244013) else (wharfingerlaw13_ConfApart.j4 k x1 x7 x8 (decide (x244011 < 1)) x239000 x239001 x239002 x239003 x239004 x239005 x239006 x239007 x239008 x244000 x244001 x244002 x244003 x244004 x244005 x244006 x244007 x244008 x244009 x244010 x244011 x244012 x244013))))
def wharfingerlaw13_ConfApart.j4 : Nat → Int → Int → Int → Bool → Int → Int → Int → Int → List (S40) → Int → Int → Int → Bool → ByteArray → ByteArray → Int → Int → Int → Int → Int → Int → Int → List (S44) → Int → Int → Int → Int → Option (Bool)
 | 0, _, _, _, _, _, _, _, _, _, _, _, _, _, _, _, _, _, _, _, _, _, _, _, _, _, _, _ => none
 | k + 1, x1, x7, x8, x74, x239000, x239001, x239002, x239003, x239004, x239005, x239006, x239007, x239008, x244000, x244001, x244002, x244003, x244004, x244005, x244006, x244007, x244008, x244009, x244010, x244011, x244012, x244013 => if x74 = true then (some false) else (wharfingerlaw13_ConfApart.l1 k x1 x7 x8 0 x239000 x239001 x239002 x239003 x239004 x239005 x239006 x239007 x239008 x244000 x244001 x244002 x244003 x244004 x244005 x244006 x244007 x244008 x244009 x244010 x244011 x244012 x244013)
def wharfingerlaw13_ConfApart.l1 : Nat → Int → Int → Int → Int → Int → Int → Int → Int → List (S40) → Int → Int → Int → Bool → ByteArray → ByteArray → Int → Int → Int → Int → Int → Int → Int → List (S44) → Int → Int → Int → Int → Option (Bool)
 | 0, _, _, _, _, _, _, _, _, _, _, _, _, _, _, _, _, _, _, _, _, _, _, _, _, _, _, _ => none
 | k + 1, x1, x7, x8, x10, x239000, x239001, x239002, x239003, x239004, x239005, x239006, x239007, x239008, x244000, x244001, x244002, x244003, x244004, x244005, x244006, x244007, x244008, x244009, x244010, x244011, x244012, x244013 => if x10 < x8 then (if 0 ≤ x10 then (if x10 < (x239004.length : Int) then (if ((rd_T40 x239004 x10).f1).toList = x244001.toList then (some false) else (wharfingerlaw13_ConfApart.l1 k x1 x7 x8 (wrap64 (x10 + 1)) x239000 x239001 x239002 x239003 x239004 x239005 x239006 x239007 x239008 x244000 x244001 x244002 x244003 x244004 x244005 x244006 x244007 x244008 x244009 x244010 x244011 x244012 x244013)) else (none)) else (none)) else (wharfingerlaw13_ConfApart.l0 k x1 x7 (wrap64 (x8 + 1)) x239000 x239001 x239002 x239003 x239004 x239005 x239006 x239007 x239008)
end
def wharfingerlaw13_ConfApart.f (k : Nat) (a0_0 : Int) (a0_1 : Int) (a0_2 : Int) (a0_3 : Int) (l0_4 : List (S40)) (a0_5 : Int) (a0_6 : Int) (a0_7 : Int) (a0_8 : Bool) (a1 : Int) : Option (Bool) := (wharfingerlaw13_awake.f).bind fun t239 => ((wharfingerlaw13_Few.f k a0_0 a0_1 a0_2 a0_3 l0_4 a0_5 a0_6 a0_7 a0_8).bind fun t240 => (if t239 = true then (if t240 = true then ((conf_May.f a0_0 a0_1 a0_2 a0_3 l0_4 a0_5 a0_6 a0_7 a0_8).bind fun t241 => (wharfingerlaw13_ConfApart.j0 k a1 t239 (!t241) a0_0 a0_1 a0_2 a0_3 l0_4 a0_5 a0_6 a0_7 a0_8)) else (wharfingerlaw13_ConfApart.j0 k a1 t239 true a0_0 a0_1 a0_2 a0_3 l0_4 a0_5 a0_6 a0_7 a0_8)) else (wharfingerlaw13_ConfApart.j0 k a1 t239 true a0_0 a0_1 a0_2 a0_3 l0_4 a0_5 a0_6 a0_7 a0_8)))
theorem wharfingerlaw13_ConfApart.mono_l : ∀ k, (∀ y0 y1 y2 y3 y4 y5 y6 y7 y8 y9 y10 y11, LeO (wharfingerlaw13_ConfApart.j0 k y0 y1 y2 y3 y4 y5 y6 y7 y8 y9 y10 y11) (wharfingerlaw13_ConfApart.j0 (k + 1) y0 y1 y2 y3 y4 y5 y6 y7 y8 y9 y10 y11)) ∧ (∀ y0 y1 y2 y3 y4 y5 y6 y7 y8 y9 y10 y11, LeO (wharfingerlaw13_ConfApart.l0 k y0 y1 y2 y3 y4 y5 y6 y7 y8 y9 y10 y11) (wharfingerlaw13_ConfApart.l0 (k + 1) y0 y1 y2 y3 y4 y5 y6 y7 y8 y9 y10 y11)) ∧ (∀ y0 y1 y2 y3 y4 y5 y6 y7 y8 y9 y10 y11 y12 y13 y14 y15 y16 y17 y18 y19 y20 y21 y22 y23 y24 y25 y26, LeO (wharfingerlaw13_ConfApart.j2 k y0 y1 y2 y3 y4 y5 y6 y7 y8 y9 y10 y11 y12 y13 y14 y15 y16 y17 y18 y19 y20 y21 y22 y23 y24 y25 y26) (wharfingerlaw13_ConfApart.j2 (k + 1) y0 y1 y2 y3 y4 y5 y6 y7 y8 y9 y10 y11 y12 y13 y14 y15 y16 y17 y18 y19 y20 y21 y22 y23 y24 y25 y26)) ∧ (∀ y0 y1 y2 y3 y4 y5 y6 y7 y8 y9 y10 y11 y12 y13 y14 y15 y16 y17 y18 y19 y20 y21 y22 y23 y24 y25, LeO (wharfingerlaw13_ConfApart.j3 k y0 y1 y2 y3 y4 y5 y6 y7 y8 y9 y10 y11 y12 y13 y14 y15 y16 y17 y18 y19 y20 y21 y22 y23 y24 y25) (wharfingerlaw13_ConfApart.j3 (k + 1) y0 y1 y2 y3 y4 y5 y6 y7 y8 y9 y10 y11 y12 y13 y14 y15 y16 y17 y18 y19 y20 y21 y22 y23 y24 y25)) ∧ (∀ y0 y1 y2 y3 y4 y5 y6 y7 y8 y9 y10 y11 y12 y13 y14 y15 y16 y17 y18 y19 y20 y21 y22 y23 y24 y25 y26, LeO (wharfingerlaw13_ConfApart.j4 k y0 y1 y2 y3 y4 y5 y6 y7 y8 y9 y10 y11 y12 y13 y14 y15 y16 y17 y18 y19 y20 y21 y22 y23 y24 y25 y26) (wharfingerlaw13_ConfApart.j4 (k + 1) y0 y1 y2 y3 y4 y5 y6 y7 y8 y9 y10 y11 y12 y13 y14 y15 y16 y17 y18 y19 y20 y21 y22 y23 y24 y25 y26)) ∧ (∀ y0 y1 y2 y3 y4 y5 y6 y7 y8 y9 y10 y11 y12 y13 y14 y15 y16 y17 y18 y19 y20 y21 y22 y23 y24 y25 y26, LeO (wharfingerlaw13_ConfApart.l1 k y0 y1 y2 y3 y4 y5 y6 y7 y8 y9 y10 y11 y12 y13 y14 y15 y16 y17 y18 y19 y20 y21 y22 y23 y24 y25 y26) (wharfingerlaw13_ConfApart.l1 (k + 1) y0 y1 y2 y3 y4 y5 y6 y7 y8 y9 y10 y11 y12 y13 y14 y15 y16 y17 y18 y19 y20 y21 y22 y23 y24 y25 y26))
 | 0 => ⟨fun _ _ _ _ _ _ _ _ _ _ _ _ r h => by simp [wharfingerlaw13_ConfApart.j0] at h, fun _ _ _ _ _ _ _ _ _ _ _ _ r h => by simp [wharfingerlaw13_ConfApart.l0] at h, fun _ _ _ _ _ _ _ _ _ _ _ _ _ _ _ _ _ _ _ _ _ _ _ _ _ _ _ r h => by simp [wharfingerlaw13_ConfApart.j2] at h, fun _ _ _ _ _ _ _ _ _ _ _ _ _ _ _ _ _ _ _ _ _ _ _ _ _ _ r h => by simp [wharfingerlaw13_ConfApart.j3] at h, fun _ _ _ _ _ _ _ _ _ _ _ _ _ _ _ _ _ _ _ _ _ _ _ _ _ _ _ r h => by simp [wharfingerlaw13_ConfApart.j4] at h, fun _ _ _ _ _ _ _ _ _ _ _ _ _ _ _ _ _ _ _ _ _ _ _ _ _ _ _ r h => by simp [wharfingerlaw13_ConfApart.l1] at h⟩
 | k + 1 => by
  obtain ⟨ih0, ih1, ih2, ih3, ih4, ih5⟩ := wharfingerlaw13_ConfApart.mono_l k
  refine ⟨?_, ?_, ?_, ?_, ?_, ?_⟩
  ·
   intro y0 y1 y2 y3 y4 y5 y6 y7 y8 y9 y10 y11
   unfold wharfingerlaw13_ConfApart.j0
   repeat' first
   | (with_reducible exact ih0 _ _ _ _ _ _ _ _ _ _ _ _)
   | (with_reducible exact ih1 _ _ _ _ _ _ _ _ _ _ _ _)
   | (with_reducible exact ih2 _ _ _ _ _ _ _ _ _ _ _ _ _ _ _ _ _ _ _ _ _ _ _ _ _ _ _)
   | (with_reducible exact ih3 _ _ _ _ _ _ _ _ _ _ _ _ _ _ _ _ _ _ _ _ _ _ _ _ _ _)
   | (with_reducible exact ih4 _ _ _ _ _ _ _ _ _ _ _ _ _ _ _ _ _ _ _ _ _ _ _ _ _ _ _)
   | (with_reducible exact ih5 _ _ _ _ _ _ _ _ _ _ _ _ _ _ _ _ _ _ _ _ _ _ _ _ _ _ _)
   | (with_reducible exact wharfingerlaw13_Few.mono _ _ _ _ _ _ _ _ _ _)
   | (with_reducible exact LeO.refl _)
   | (with_reducible exact LeO.none _)
   | (with_reducible refine LeO.ite ?_ ?_)
   | (with_reducible refine LeO.bind ?_ (fun _ => ?_))
   | exact ih0 _ _ _ _ _ _ _ _ _ _ _ _
   | exact ih1 _ _ _ _ _ _ _ _ _ _ _ _
   | exact ih2 _ _ _ _ _ _ _ _ _ _ _ _ _ _ _ _ _ _ _ _ _ _ _ _ _ _ _
   | exact ih3 _ _ _ _ _ _ _ _ _ _ _ _ _ _ _ _ _ _ _ _ _ _ _ _ _ _
   | exact ih4 _ _ _ _ _ _ _ _ _ _ _ _ _ _ _ _ _ _ _ _ _ _ _ _ _ _ _
   | exact ih5 _ _ _ _ _ _ _ _ _ _ _ _ _ _ _ _ _ _ _ _ _ _ _ _ _ _ _
   | exact wharfingerlaw13_Few.mono _ _ _ _ _ _ _ _ _ _
   | exact LeO.none _
   | refine LeO.ite ?_ ?_
   | refine LeO.bind ?_ (fun _ => ?_)
  ·
   intro y0 y1 y2 y3 y4 y5 y6 y7 y8 y9 y10 y11
   unfold wharfingerlaw13_ConfApart.l0
   repeat' first
   | (with_reducible exact ih0 _ _ _ _ _ _ _ _ _ _ _ _)
   | (with_reducible exact ih1 _ _ _ _ _ _ _ _ _ _ _ _)
   | (with_reducible exact ih2 _ _ _ _ _ _ _ _ _ _ _ _ _ _ _ _ _ _ _ _ _ _ _ _ _ _ _)
   | (with_reducible exact ih3 _ _ _ _ _ _ _ _ _ _ _ _ _ _ _ _ _ _ _ _ _ _ _ _ _ _)
   | (with_reducible exact ih4 _ _ _ _ _ _ _ _ _ _ _ _ _ _ _ _ _ _ _ _ _ _ _ _ _ _ _)
   | (with_reducible exact ih5 _ _ _ _ _ _ _ _ _ _ _ _ _ _ _ _ _ _ _ _ _ _ _ _ _ _ _)
   | (with_reducible exact wharfingerlaw13_Few.mono _ _ _ _ _ _ _ _ _ _)
   | (with_reducible exact LeO.refl _)
   | (with_reducible exact LeO.none _)
   | (with_reducible refine LeO.ite ?_ ?_)
   | (with_reducible refine LeO.bind ?_ (fun _ => ?_))
   | exact ih0 _ _ _ _ _ _ _ _ _ _ _ _
   | exact ih1 _ _ _ _ _ _ _ _ _ _ _ _
   | exact ih2 _ _ _ _ _ _ _ _ _ _ _ _ _ _ _ _ _ _ _ _ _ _ _ _ _ _ _
   | exact ih3 _ _ _ _ _ _ _ _ _ _ _ _ _ _ _ _ _ _ _ _ _ _ _ _ _ _
   | exact ih4 _ _ _ _ _ _ _ _ _ _ _ _ _ _ _ _ _ _ _ _ _ _ _ _ _ _ _
   | exact ih5 _ _ _ _ _ _ _ _ _ _ _ _ _ _ _ _ _ _ _ _ _ _ _ _ _ _ _
   | exact wharfingerlaw13_Few.mono _ _ _ _ _ _ _ _ _ _
   | exact LeO.none _
   | refine LeO.ite ?_ ?_
   | refine LeO.bind ?_ (fun _ => ?_)
  ·
   intro y0 y1 y2 y3 y4 y5 y6 y7 y8 y9 y10 y11 y12 y13 y14 y15 y16 y17 y18 y19 y20 y21 y22 y23 y24 y25 y26
   unfold wharfingerlaw13_ConfApart.j2
   repeat' first
   | (with_reducible exact ih0 _ _ _ _ _ _ _ _ _ _ _ _)
   | (with_reducible exact ih1 _ _ _ _ _ _ _ _ _ _ _ _)
   | (with_reducible exact ih2 _ _ _ _ _ _ _ _ _ _ _ _ _ _ _ _ _ _ _ _ _ _ _ _ _ _ _)
   | (with_reducible exact ih3 _ _ _ _ _ _ _ _ _ _ _ _ _ _ _ _ _ _ _ _ _ _ _ _ _ _)
   | (with_reducible exact ih4 _ _ _ _ _ _ _ _ _ _ _ _ _ _ _ _ _ _ _ _ _ _ _ _ _ _ _)
   | (with_reducible exact ih5 _ _ _ _ _ _ _ _ _ _ _ _ _ _ _ _ _ _ _ _ _ _ _ _ _ _ _)
   | (with_reducible exact wharfingerlaw13_Few.mono _ _ _ _ _ _ _ _ _ _)
   | (with_reducible exact LeO.refl _)
   | (with_reducible exact LeO.none _)
   | (with_reducible refine LeO.ite ?_ ?_)
   | (with_reducible refine LeO.bind ?_ (fun _ => ?_))
   | exact ih0 _ _ _ _ _ _ _ _ _ _ _ _
   | exact ih1 _ _ _ _ _ _ _ _ _ _ _ _
   | exact ih2 _ _ _ _ _ _ _ _ _ _ _ _ _ _ _ _ _ _ _ _ _ _ _ _ _ _ _
   | exact ih3 _ _ _ _ _ _ _ _ _ _ _ _ _ _ _ _ _ _ _ _ _ _ _ _ _ _
   | exact ih4 _ _ _ _ _ _ _ _ _ _ _ _ _ _ _ _ _ _ _ _ _ _ _ _ _ _ _
   | exact ih5 _ _ _ _ _ _ _ _ _ _ _ _ _ _ _ _ _ _ _ _ _ _ _ _ _ _ _
   | exact wharfingerlaw13_Few.mono _ _ _ _ _ _ _ _ _ _
   | exact LeO.none _
   | refine LeO.ite ?_ ?_
   | refine LeO.bind ?_ (fun _ => ?_)
  ·
   intro y0 y1 y2 y3 y4 y5 y6 y7 y8 y9 y10 y11 y12 y13 y14 y15 y16 y17 y18 y19 y20 y21 y22 y23 y24 y25
   unfold wharfingerlaw13_ConfApart.j3
   repeat' first
   | (with_reducible exact ih0 _ _ _ _ _ _ _ _ _ _ _ _)
   | (with_reducible exact ih1 _ _ _ _ _ _ _ _ _ _ _ _)
   | (with_reducible exact ih2 _ _ _ _ _ _ _ _ _ _ _ _ _ _ _ _ _ _ _ _ _ _ _ _ _ _ _)
   | (with_reducible exact ih3 _ _ _ _ _ _ _ _ _ _ _ _ _ _ _ _ _ _ _ _ _ _ _ _ _ _)
   | (with_reducible exact ih4 _ _ _ _ _ _ _ _ _ _ _ _ _ _ _ _ _ _ _ _ _ _ _ _ _ _ _)
   | (with_reducible exact ih5 _ _ _ _ _ _ _ _ _ _ _ _ _ _ _ _ _ _ _ _ _ _ _ _ _ _ _)
   | (with_reducible exact wharfingerlaw13_Few.mono _ _ _ _ _ _ _ _ _ _)
   | (with_reducible exact LeO.refl _)
   | (with_reducible exact LeO.none _)
   | (with_reducible refine LeO.ite ?_ ?_)
   | (with_reducible refine LeO.bind ?_ (fun _ => ?_))
   | exact ih0 _ _ _ _ _ _ _ _ _ _ _ _
   | exact ih1 _ _ _ _ _ _ _ _ _ _ _ _
   | exact ih2 _ _ _ _ _ _ _ _ _ _ _ _ _ _ _ _ _ _ _ _ _ _ _ _ _ _ _
   | exact ih3 _ _ _ _ _ _ _ _ _ _ _ _ _ _ _ _ _ _ _ _ _ _ _ _ _ _
   | exact ih4 _ _ _ _ _ _ _ _ _ _ _ _ _ _ _ _ _ _ _ _ _ _ _ _ _ _ _
   | exact ih5 _ _ _ _ _ _ _ _ _ _ _ _ _ _ _ _ _ _ _ _ _ _ _ _ _ _ _
   | exact wharfingerlaw13_Few.mono _ _ _ _ _ _ _ _ _ _
   | exact LeO.none _
   | refine LeO.ite ?_ ?_
   | refine LeO.bind ?_ (fun _ => ?_)
  ·
   intro y0 y1 y2 y3 y4 y5 y6 y7 y8 y9 y10 y11 y12 y13 y14 y15 y16 y17 y18 y19 y20 y21 y22 y23 y24 y25 y26
   unfold wharfingerlaw13_ConfApart.j4
   repeat' first
   | (with_reducible exact ih0 _ _ _ _ _ _ _ _ _ _ _ _)
   | (with_reducible exact ih1 _ _ _ _ _ _ _ _ _ _ _ _)
   | (with_reducible exact ih2 _ _ _ _ _ _ _ _ _ _ _ _ _ _ _ _ _ _ _ _ _ _ _ _ _ _ _)
   | (with_reducible exact ih3 _ _ _ _ _ _ _ _ _ _ _ _ _ _ _ _ _ _ _ _ _ _ _ _ _ _)
   | (with_reducible exact ih4 _ _ _ _ _ _ _ _ _ _ _ _ _ _ _ _ _ _ _ _ _ _ _ _ _ _ _)
   | (with_reducible exact ih5 _ _ _ _ _ _ _ _ _ _ _ _ _ _ _ _ _ _ _ _ _ _ _ _ _ _ _)
   | (with_reducible exact wharfingerlaw13_Few.mono _ _ _ _ _ _ _ _ _ _)
   | (with_reducible exact LeO.refl _)
   | (with_reducible exact LeO.none _)
   | (with_reducible refine LeO.ite ?_ ?_)
   | (with_reducible refine LeO.bind ?_ (fun _ => ?_))
   | exact ih0 _ _ _ _ _ _ _ _ _ _ _ _
   | exact ih1 _ _ _ _ _ _ _ _ _ _ _ _
   | exact ih2 _ _ _ _ _ _ _ _ _ _ _ _ _ _ _ _ _ _ _ _ _ _ _ _ _ _ _
   | exact ih3 _ _ _ _ _ _ _ _ _ _ _ _ _ _ _ _ _ _ _ _ _ _ _ _ _ _
   | exact ih4 _ _ _ _ _ _ _ _ _ _ _ _ _ _ _ _ _ _ _ _ _ _ _ _ _ _ _
   | exact ih5 _ _ _ _ _ _ _ _ _ _ _ _ _ _ _ _ _ _ _ _ _ _ _ _ _ _ _
   | exact wharfingerlaw13_Few.mono _ _ _ _ _ _ _ _ _ _
   | exact LeO.none _
   | refine LeO.ite ?_ ?_
   | refine LeO.bind ?_ (fun _ => ?_)
  ·
   intro y0 y1 y2 y3 y4 y5 y6 y7 y8 y9 y10 y11 y12 y13 y14 y15 y16 y17 y18 y19 y20 y21 y22 y23 y24 y25 y26
   unfold wharfingerlaw13_ConfApart.l1
   repeat' first
   | (with_reducible exact ih0 _ _ _ _ _ _ _ _ _ _ _ _)
   | (with_reducible exact ih1 _ _ _ _ _ _ _ _ _ _ _ _)
   | (with_reducible exact ih2 _ _ _ _ _ _ _ _ _ _ _ _ _ _ _ _ _ _ _ _ _ _ _ _ _ _ _)
   | (with_reducible exact ih3 _ _ _ _ _ _ _ _ _ _ _ _ _ _ _ _ _ _ _ _ _ _ _ _ _ _)
   | (with_reducible exact ih4 _ _ _ _ _ _ _ _ _ _ _ _ _ _ _ _ _ _ _ _ _ _ _ _ _ _ _)
   | (with_reducible exact ih5 _ _ _ _ _ _ _ _ _ _ _ _ _ _ _ _ _ _ _ _ _ _ _ _ _ _ _)
   | (with_reducible exact wharfingerlaw13_Few.mono _ _ _ _ _ _ _ _ _ _)
   | (with_reducible exact LeO.refl _)
   | (with_reducible exact LeO.none _)
   | (with_reducible refine LeO.ite ?_ ?_)
   | (with_reducible refine LeO.bind ?_ (fun _ => ?_))
   | exact ih0 _ _ _ _ _ _ _ _ _ _ _ _
   | exact ih1 _ _ _ _ _ _ _ _ _ _ _ _
   | exact ih2 _ _ _ _ _ _ _ _ _ _ _ _ _ _ _ _ _ _ _ _ _ _ _ _ _ _ _
   | exact ih3 _ _ _ _ _ _ _ _ _ _ _ _ _ _ _ _ _ _ _ _ _ _ _ _ _ _
   | exact ih4 _ _ _ _ _ _ _ _ _ _ _ _ _ _ _ _ _ _ _ _ _ _ _ _ _ _ _
   | exact ih5 _ _ _ _ _ _ _ _ _ _ _ _ _ _ _ _ _ _ _ _ _ _ _ _ _ _ _
   | exact wharfingerlaw13_Few.mono _ _ _ _ _ _ _ _ _ _
   | exact LeO.none _
   | refine LeO.ite ?_ ?_
   | refine LeO.bind ?_ (fun _ => ?_)
theorem wharfingerlaw13_ConfApart.mono : ∀ a0 a1 a2 a3 a4 a5 a6 a7 a8 a9 k, LeO (wharfingerlaw13_ConfApart.f k a0 a1 a2 a3 a4 a5 a6 a7 a8 a9) (wharfingerlaw13_ConfApart.f (k + 1) a0 a1 a2 a3 a4 a5 a6 a7 a8 a9) := by
 intro a0 a1 a2 a3 a4 a5 a6 a7 a8 a9 k
 obtain ⟨ih0, ih1, ih2, ih3, ih4, ih5⟩ := wharfingerlaw13_ConfApart.mono_l k
 unfold wharfingerlaw13_ConfApart.f
 repeat' first
   | (with_reducible exact ih0 _ _ _ _ _ _ _ _ _ _ _ _)
   | (with_reducible exact ih1 _ _ _ _ _ _ _ _ _ _ _ _)
   | (with_reducible exact ih2 _ _ _ _ _ _ _ _ _ _ _ _ _ _ _ _ _ _ _ _ _ _ _ _ _ _ _)
   | (with_reducible exact ih3 _ _ _ _ _ _ _ _ _ _ _ _ _ _ _ _ _ _ _ _ _ _ _ _ _ _)
   | (with_reducible exact ih4 _ _ _ _ _ _ _ _ _ _ _ _ _ _ _ _ _ _ _ _ _ _ _ _ _ _ _)
   | (with_reducible exact ih5 _ _ _ _ _ _ _ _ _ _ _ _ _ _ _ _ _ _ _ _ _ _ _ _ _ _ _)
   | (with_reducible exact wharfingerlaw13_Few.mono _ _ _ _ _ _ _ _ _ _)
   | (with_reducible exact LeO.refl _)
   | (with_reducible exact LeO.none _)
   | (with_reducible refine LeO.ite ?_ ?_)
   | (with_reducible refine LeO.bind ?_ (fun _ => ?_))
   | exact ih0 _ _ _ _ _ _ _ _ _ _ _ _
   | exact ih1 _ _ _ _ _ _ _ _ _ _ _ _
   | exact ih2 _ _ _ _ _ _ _ _ _ _ _ _ _ _ _ _ _ _ _ _ _ _ _ _ _ _ _
   | exact ih3 _ _ _ _ _ _ _ _ _ _ _ _ _ _ _ _ _ _ _ _ _ _ _ _ _ _
   | exact ih4 _ _ _ _ _ _ _ _ _ _ _ _ _ _ _ _ _ _ _ _ _ _ _ _ _ _ _
   | exact ih5 _ _ _ _ _ _ _ _ _ _ _ _ _ _ _ _ _ _ _ _ _ _ _ _ _ _ _
   | exact wharfingerlaw13_Few.mono _ _ _ _ _ _ _ _ _ _
   | exact LeO.none _
   | refine LeO.ite ?_ ?_
   | refine LeO.bind ?_ (fun _ => ?_)
set_option maxHeartbeats 8000000 in
set_option maxRecDepth 100000 in
theorem wharfingerlaw13_ConfApart.calls (k : Nat) (a0_0 : Int) (a0_1 : Int) (a0_2 : Int) (a0_3 : Int) (A0_4 : Option Addr) (c0_4 : Nat) (l0_4 : List (S40)) (a0_5 : Int) (a0_6 : Int) (a0_7 : Int) (a0_8 : Bool) (a1 : Int) (r : Bool) (w : World) (hr0_4 : Kd.C k40 w A0_4 l0_4.length l0_4) (hc0_4 : l0_4.length ≤ c0_4) (hmet : WMet w) (h : wharfingerlaw13_ConfApart.f k a0_0 a0_1 a0_2 a0_3 l0_4 a0_5 a0_6 a0_7 a0_8 a1 = some r) :
  Calls Tryd.prog 5 #[.agg #[.int .u8 a0_0, .int .u8 a0_1, .int .u8 a0_2, .int .u8 a0_3, .slice A0_4 l0_4.length c0_4, .int .i64 a0_5, .int .i64 a0_6, .int .i64 a0_7, .bool a0_8], .int .i64 a1] w fun e w' => e = .returned (.bool r) ∧ Below w.heap.size w w' := by
 have HMET := Aside0.mk hmet
 clear hmet
 have hu26 := Tryd.underlying26
 have hu40 := Tryd.underlying40
 have HR0_4 := Aside0.mk hr0_4
 have HC0_4 := Aside0.mk hc0_4
 clear hr0_4 hc0_4
 have HB := Aside0.mk (Below.refl w.heap.size w)
 have H : ((wharfingerlaw13_awake.f).bind fun t239 => ((wharfingerlaw13_Few.f k a0_0 a0_1 a0_2 a0_3 l0_4 a0_5 a0_6 a0_7 a0_8).bind fun t240 => (if t239 = true then (if t240 = true then ((conf_May.f a0_0 a0_1 a0_2 a0_3 l0_4 a0_5 a0_6 a0_7 a0_8).bind fun t241 => (wharfingerlaw13_ConfApart.j0 k a1 t239 (!t241) a0_0 a0_1 a0_2 a0_3 l0_4 a0_5 a0_6 a0_7 a0_8)) else (wharfingerlaw13_ConfApart.j0 k a1 t239 true a0_0 a0_1 a0_2 a0_3 l0_4 a0_5 a0_6 a0_7 a0_8)) else (wharfingerlaw13_ConfApart.j0 k a1 t239 true a0_0 a0_1 a0_2 a0_3 l0_4 a0_5 a0_6 a0_7 a0_8)))) = some r := h
 clear h
 replace H := Option.bind_eq_some_iff.mp H
 obtain ⟨t239, A30, H⟩ := H
 replace H : ((wharfingerlaw13_Few.f k a0_0 a0_1 a0_2 a0_3 l0_4 a0_5 a0_6 a0_7 a0_8).bind fun t240 => (if t239 = true then (if t240 = true then ((conf_May.f a0_0 a0_1 a0_2 a0_3 l0_4 a0_5 a0_6 a0_7 a0_8).bind fun t241 => (wharfingerlaw13_ConfApart.j0 k a1 t239 (!t241) a0_0 a0_1 a0_2 a0_3 l0_4 a0_5 a0_6 a0_7 a0_8)) else (wharfingerlaw13_ConfApart.j0 k a1 t239 true a0_0 a0_1 a0_2 a0_3 l0_4 a0_5 a0_6 a0_7 a0_8)) else (wharfingerlaw13_ConfApart.j0 k a1 t239 true a0_0 a0_1 a0_2 a0_3 l0_4 a0_5 a0_6 a0_7 a0_8))) = some r := H
 have A3 := Aside0.mk A30
 clear A30
 replace H := Option.bind_eq_some_iff.mp H
 obtain ⟨t240, A40, H⟩ := H
 replace H : (if t239 = true then (if t240 = true then ((conf_May.f a0_0 a0_1 a0_2 a0_3 l0_4 a0_5 a0_6 a0_7 a0_8).bind fun t241 => (wharfingerlaw13_ConfApart.j0 k a1 t239 (!t241) a0_0 a0_1 a0_2 a0_3 l0_4 a0_5 a0_6 a0_7 a0_8)) else (wharfingerlaw13_ConfApart.j0 k a1 t239 true a0_0 a0_1 a0_2 a0_3 l0_4 a0_5 a0_6 a0_7 a0_8)) else (wharfingerlaw13_ConfApart.j0 k a1 t239 true a0_0 a0_1 a0_2 a0_3 l0_4 a0_5 a0_6 a0_7 a0_8)) = some r := H
 have A4 := Aside0.mk A40
 clear A40
 have HC5 := Aside0.mk H
 clear H
 go_enter Tryd.func5, Tryd.ntmps5
 go_upto_region 3 with (first | ((with_reducible refine gate_dst (N := 2) rfl ?_); (try (refine gate_guard (by rfl) ?_; dsimp only)); refine box_event ?hg (N := 2) ?hd (cs := #[.int .u8 a0_0, .int .u8 a0_1, .int .u8 a0_2, .int .u8 a0_3, .slice A0_4 l0_4.length c0_4, .int .i64 a0_5, .int .i64 a0_6, .int .i64 a0_7, .bool a0_8]) (t := 26) ?hr ?_; (case hd => rfl); (case hg => rfl); (case hr => first | (go_simp; done) | (go_simp; rfl)); intro gb238 hg w6 hbox hb; have n0_ := Aside0.mk (below_step (by repeat (first | (with_reducible first | exact HB.out | apply below_alloc | apply pw_below_drewN | apply below_drew1) | exact HB.out)) hb); have n1_ := Aside0.mk (hbox); have n2_ := Aside0.mk ((by rw [hg]; exact (below_size (by repeat (first | (with_reducible first | exact HB.out | apply below_alloc | apply pw_below_drewN | apply below_drew1) | exact HB.out))) : w.heap.size ≤ gb238)); have n3_ := Aside0.mk ((by rw [hg]; exact (below_size (by repeat (first | (with_reducible first | exact HB.out | apply below_alloc | apply pw_below_drewN | apply below_drew1) | exact HB.out))) : w.heap.size ≤ gb238)); clear HB; have HB := n0_; have BK238 := n1_; have GW238 := n2_; have GE238 := n3_; clear n0_ n1_ n2_ n3_; clear hb hbox hg) | (go_at_call 9; (with_reducible refine (wharfingerlaw13_awake.calls  t239 _ ?side1 A3.out).mono ?_); (case side1 => exact HMET.out.below (by repeat (first | (with_reducible first | exact HB.out | apply below_alloc | apply pw_below_drewN | apply below_drew1 | refine below_set ?_ GE238.out) | exact HB.out))); rintro e w7 ⟨rfl, hb⟩; have n0_ := Aside0.mk (blk_below (g := gb238) (o := .cells #[.int .u8 a0_0, .int .u8 a0_1, .int .u8 a0_2, .int .u8 a0_3, .slice A0_4 l0_4.length c0_4, .int .i64 a0_5, .int .i64 a0_6, .int .i64 a0_7, .bool a0_8] 26 (0, 0)) (by (with_reducible repeat (first | refine blk_drewN ?_ _ | refine blk_drew ?_ | refine blk_alloc ?_ _)); exact BK238.out) hb); have n1_ := Aside0.mk (below_step (by repeat (first | (with_reducible first | exact HB.out | apply below_alloc | apply pw_below_drewN | apply below_drew1 | refine below_set ?_ GE238.out) | exact HB.out)) hb); clear BK238; clear HB; have BK238 := n0_; have HB := n1_; clear n0_ n1_; (try clear hb); (try clear hb2); (try clear hk); (try clear hi); obtain ⟨hcz8_0, hcz8_1, hcz8_2, hcz8_3, hcz8_4, hcz8_5, hcz8_6, hcz8_7, hcz8_8⟩ := cl_9 (.int .u8 a0_0) (.int .u8 a0_1) (.int .u8 a0_2) (.int .u8 a0_3) (.slice A0_4 l0_4.length c0_4) (.int .i64 a0_5) (.int .i64 a0_6) (.int .i64 a0_7) (.bool a0_8) BK238.out; obtain ⟨hfz8_0, hfz8_1, hfz8_2, hfz8_3, hfz8_4, hfz8_5, hfz8_6, hfz8_7, hfz8_8⟩ := fz_9 BK238.out) | (go_at_call 10; (with_reducible refine (wharfingerlaw13_Few.calls k a0_0 a0_1 a0_2 a0_3 _ _ l0_4 a0_5 a0_6 a0_7 a0_8 t240 _ ?side1 ?side2 A4.out).mono ?_); (case side1 => repeat (first | exact (Kd.C_below HR0_4.out HB.out) | (with_reducible refine Kd.C_alloc ?_ _) | (with_reducible refine Kd.C_drewN ?_ _) | (with_reducible refine Kd.C_drew ?_))); (case side2 => exact HC0_4.out); rintro e w9 ⟨rfl, hb⟩; have n0_ := Aside0.mk (blk_below (g := gb238) (o := .cells #[.int .u8 a0_0, .int .u8 a0_1, .int .u8 a0_2, .int .u8 a0_3, .slice A0_4 l0_4.length c0_4, .int .i64 a0_5, .int .i64 a0_6, .int .i64 a0_7, .bool a0_8] 26 (0, 0)) (by (with_reducible repeat (first | refine blk_drewN ?_ _ | refine blk_drew ?_ | refine blk_alloc ?_ _)); exact BK238.out) hb); have n1_ := Aside0.mk (below_step (by repeat (first | (with_reducible first | exact HB.out | apply below_alloc | apply pw_below_drewN | apply below_drew1 | refine below_set ?_ GE238.out) | exact HB.out)) hb); clear BK238; clear HB; have BK238 := n0_; have HB := n1_; clear n0_ n1_; (try clear hb); (try clear hb2); (try clear hk); (try clear hi)))
 repeat (go_quiet (first | ((with_reducible refine gate_dst (N := 2) rfl ?_); (try (refine gate_guard (by rfl) ?_; dsimp only)); refine box_event ?hg (N := 2) ?hd (cs := #[.int .u8 a0_0, .int .u8 a0_1, .int .u8 a0_2, .int .u8 a0_3, .slice A0_4 l0_4.length c0_4, .int .i64 a0_5, .int .i64 a0_6, .int .i64 a0_7, .bool a0_8]) (t := 26) ?hr ?_; (case hd => rfl); (case hg => rfl); (case hr => first | (go_simp; done) | (go_simp; rfl)); intro gb238 hg w6 hbox hb; have n0_ := Aside0.mk (below_step (by repeat (first | (with_reducible first | exact HB.out | apply below_alloc | apply pw_below_drewN | apply below_drew1) | exact HB.out)) hb); have n1_ := Aside0.mk (hbox); have n2_ := Aside0.mk ((by rw [hg]; exact (below_size (by repeat (first | (with_reducible first | exact HB.out | apply below_alloc | apply pw_below_drewN | apply below_drew1) | exact HB.out))) : w.heap.size ≤ gb238)); have n3_ := Aside0.mk ((by rw [hg]; exact (below_size (by repeat (first | (with_reducible first | exact HB.out | apply below_alloc | apply pw_below_drewN | apply below_drew1) | exact HB.out))) : w.heap.size ≤ gb238)); clear HB; have HB := n0_; have BK238 := n1_; have GW238 := n2_; have GE238 := n3_; clear n0_ n1_ n2_ n3_; clear hb hbox hg) | (go_at_call 9; (with_reducible refine (wharfingerlaw13_awake.calls  t239 _ ?side1 A3.out).mono ?_); (case side1 => exact HMET.out.below (by repeat (first | (with_reducible first | exact HB.out | apply below_alloc | apply pw_below_drewN | apply below_drew1 | refine below_set ?_ GE238.out) | exact HB.out))); rintro e w7 ⟨rfl, hb⟩; have n0_ := Aside0.mk (blk_below (g := gb238) (o := .cells #[.int .u8 a0_0, .int .u8 a0_1, .int .u8 a0_2, .int .u8 a0_3, .slice A0_4 l0_4.length c0_4, .int .i64 a0_5, .int .i64 a0_6, .int .i64 a0_7, .bool a0_8] 26 (0, 0)) (by (with_reducible repeat (first | refine blk_drewN ?_ _ | refine blk_drew ?_ | refine blk_alloc ?_ _)); exact BK238.out) hb); have n1_ := Aside0.mk (below_step (by repeat (first | (with_reducible first | exact HB.out | apply below_alloc | apply pw_below_drewN | apply below_drew1 | refine below_set ?_ GE238.out) | exact HB.out)) hb); clear BK238; clear HB; have BK238 := n0_; have HB := n1_; clear n0_ n1_; (try clear hb); (try clear hb2); (try clear hk); (try clear hi); obtain ⟨hcz8_0, hcz8_1, hcz8_2, hcz8_3, hcz8_4, hcz8_5, hcz8_6, hcz8_7, hcz8_8⟩ := cl_9 (.int .u8 a0_0) (.int .u8 a0_1) (.int .u8 a0_2) (.int .u8 a0_3) (.slice A0_4 l0_4.length c0_4) (.int .i64 a0_5) (.int .i64 a0_6) (.int .i64 a0_7) (.bool a0_8) BK238.out; obtain ⟨hfz8_0, hfz8_1, hfz8_2, hfz8_3, hfz8_4, hfz8_5, hfz8_6, hfz8_7, hfz8_8⟩ := fz_9 BK238.out) | (go_at_call 10; (with_reducible refine (wharfingerlaw13_Few.calls k a0_0 a0_1 a0_2 a0_3 _ _ l0_4 a0_5 a0_6 a0_7 a0_8 t240 _ ?side1 ?side2 A4.out).mono ?_); (case side1 => repeat (first | exact (Kd.C_below HR0_4.out HB.out) | (with_reducible refine Kd.C_alloc ?_ _) | (with_reducible refine Kd.C_drewN ?_ _) | (with_reducible refine Kd.C_drew ?_))); (case side2 => exact HC0_4.out); rintro e w9 ⟨rfl, hb⟩; have n0_ := Aside0.mk (blk_below (g := gb238) (o := .cells #[.int .u8 a0_0, .int .u8 a0_1, .int .u8 a0_2, .int .u8 a0_3, .slice A0_4 l0_4.length c0_4, .int .i64 a0_5, .int .i64 a0_6, .int .i64 a0_7, .bool a0_8] 26 (0, 0)) (by (with_reducible repeat (first | refine blk_drewN ?_ _ | refine blk_drew ?_ | refine blk_alloc ?_ _)); exact BK238.out) hb); have n1_ := Aside0.mk (below_step (by repeat (first | (with_reducible first | exact HB.out | apply below_alloc | apply pw_below_drewN | apply below_drew1 | refine below_set ?_ GE238.out) | exact HB.out)) hb); clear BK238; clear HB; have BK238 := n0_; have HB := n1_; clear n0_ n1_; (try clear hb); (try clear hb2); (try clear hk); (try clear hi))); go_upto_region 3 with (first | ((with_reducible refine gate_dst (N := 2) rfl ?_); (try (refine gate_guard (by rfl) ?_; dsimp only)); refine box_event ?hg (N := 2) ?hd (cs := #[.int .u8 a0_0, .int .u8 a0_1, .int .u8 a0_2, .int .u8 a0_3, .slice A0_4 l0_4.length c0_4, .int .i64 a0_5, .int .i64 a0_6, .int .i64 a0_7, .bool a0_8]) (t := 26) ?hr ?_; (case hd => rfl); (case hg => rfl); (case hr => first | (go_simp; done) | (go_simp; rfl)); intro gb238 hg w6 hbox hb; have n0_ := Aside0.mk (below_step (by repeat (first | (with_reducible first | exact HB.out | apply below_alloc | apply pw_below_drewN | apply below_drew1) | exact HB.out)) hb); have n1_ := Aside0.mk (hbox); have n2_ := Aside0.mk ((by rw [hg]; exact (below_size (by repeat (first | (with_reducible first | exact HB.out | apply below_alloc | apply pw_below_drewN | apply below_drew1) | exact HB.out))) : w.heap.size ≤ gb238)); have n3_ := Aside0.mk ((by rw [hg]; exact (below_size (by repeat (first | (with_reducible first | exact HB.out | apply below_alloc | apply pw_below_drewN | apply below_drew1) | exact HB.out))) : w.heap.size ≤ gb238)); clear HB; have HB := n0_; have BK238 := n1_; have GW238 := n2_; have GE238 := n3_; clear n0_ n1_ n2_ n3_; clear hb hbox hg) | (go_at_call 9; (with_reducible refine (wharfingerlaw13_awake.calls  t239 _ ?side1 A3.out).mono ?_); (case side1 => exact HMET.out.below (by repeat (first | (with_reducible first | exact HB.out | apply below_alloc | apply pw_below_drewN | apply below_drew1 | refine below_set ?_ GE238.out) | exact HB.out))); rintro e w7 ⟨rfl, hb⟩; have n0_ := Aside0.mk (blk_below (g := gb238) (o := .cells #[.int .u8 a0_0, .int .u8 a0_1, .int .u8 a0_2, .int .u8 a0_3, .slice A0_4 l0_4.length c0_4, .int .i64 a0_5, .int .i64 a0_6, .int .i64 a0_7, .bool a0_8] 26 (0, 0)) (by (with_reducible repeat (first | refine blk_drewN ?_ _ | refine blk_drew ?_ | refine blk_alloc ?_ _)); exact BK238.out) hb); have n1_ := Aside0.mk (below_step (by repeat (first | (with_reducible first | exact HB.out | apply below_alloc | apply pw_below_drewN | apply below_drew1 | refine below_set ?_ GE238.out) | exact HB.out)) hb); clear BK238; clear HB; have BK238 := n0_; have HB := n1_; clear n0_ n1_; (try clear hb); (try clear hb2); (try clear hk); (try clear hi); obtain ⟨hcz8_0, hcz8_1, hcz8_2, hcz8_3, hcz8_4, hcz8_5, hcz8_6, hcz8_7, hcz8_8⟩ := cl_9 (.int .u8 a0_0) (.int .u8 a0_1) (.int .u8 a0_2) (.int .u8 a0_3) (.slice A0_4 l0_4.length c0_4) (.int .i64 a0_5) (.int .i64 a0_6) (.int .i64 a0_7) (.bool a0_8) BK238.out; obtain ⟨hfz8_0, hfz8_1, hfz8_2, hfz8_3, hfz8_4, hfz8_5, hfz8_6, hfz8_7, hfz8_8⟩ := fz_9 BK238.out) | (go_at_call 10; (with_reducible refine (wharfingerlaw13_Few.calls k a0_0 a0_1 a0_2 a0_3 _ _ l0_4 a0_5 a0_6 a0_7 a0_8 t240 _ ?side1 ?side2 A4.out).mono ?_); (case side1 => repeat (first | exact (Kd.C_below HR0_4.out HB.out) | (with_reducible refine Kd.C_alloc ?_ _) | (with_reducible refine Kd.C_drewN ?_ _) | (with_reducible refine Kd.C_drew ?_))); (case side2 => exact HC0_4.out); rintro e w9 ⟨rfl, hb⟩; have n0_ := Aside0.mk (blk_below (g := gb238) (o := .cells #[.int .u8 a0_0, .int .u8 a0_1, .int .u8 a0_2, .int .u8 a0_3, .slice A0_4 l0_4.length c0_4, .int .i64 a0_5, .int .i64 a0_6, .int .i64 a0_7, .bool a0_8] 26 (0, 0)) (by (with_reducible repeat (first | refine blk_drewN ?_ _ | refine blk_drew ?_ | refine blk_alloc ?_ _)); exact BK238.out) hb); have n1_ := Aside0.mk (below_step (by repeat (first | (with_reducible first | exact HB.out | apply below_alloc | apply pw_below_drewN | apply below_drew1 | refine below_set ?_ GE238.out) | exact HB.out)) hb); clear BK238; clear HB; have BK238 := n0_; have HB := n1_; clear n0_ n1_; (try clear hb); (try clear hb2); (try clear hk); (try clear hi))))
 (try simp only [Act.put, List.setIfInBounds_toArray, List.set_cons_zero, List.set_cons_succ])
 go_cut [24] (fun v24 wc => ∃ (kq : Nat) (x24_4 : Bool), v24 = .bool x24_4 ∧ Aside0 (wharfingerlaw13_ConfApart.j0 kq a1 t239 x24_4 a0_0 a0_1 a0_2 a0_3 l0_4 a0_5 a0_6 a0_7 a0_8 = some r) ∧ Aside0 (kq ≤ k) ∧ Aside0 (wc.heap[gb238]? = some (.cells #[.int .u8 a0_0, .int .u8 a0_1, .int .u8 a0_2, .int .u8 a0_3, (.slice A0_4 l0_4.length c0_4), .int .i64 a0_5, .int .i64 a0_6, .int .i64 a0_7, .bool a0_8] 26 (0, 0))) ∧ Aside0 (Below w.heap.size w wc))
 case first =>
  have H := HC5.out
  clear HC5
  by_cases c10 : t239 = true
  ·
   subst c10
   have H1 : (if t240 = true then ((conf_May.f a0_0 a0_1 a0_2 a0_3 l0_4 a0_5 a0_6 a0_7 a0_8).bind fun t241 => (wharfingerlaw13_ConfApart.j0 k a1 true (!t241) a0_0 a0_1 a0_2 a0_3 l0_4 a0_5 a0_6 a0_7 a0_8)) else (wharfingerlaw13_ConfApart.j0 k a1 true true a0_0 a0_1 a0_2 a0_3 l0_4 a0_5 a0_6 a0_7 a0_8)) = some r := by rw [if_pos rfl] at H; exact H
   clear H
   have H := H1
   clear H1
   by_cases c11 : t240 = true
   ·
    subst c11
    have H1 : ((conf_May.f a0_0 a0_1 a0_2 a0_3 l0_4 a0_5 a0_6 a0_7 a0_8).bind fun t241 => (wharfingerlaw13_ConfApart.j0 k a1 true (!t241) a0_0 a0_1 a0_2 a0_3 l0_4 a0_5 a0_6 a0_7 a0_8)) = some r := by rw [if_pos rfl] at H; exact H
    clear H
    have H := H1
    clear H1
    replace H := Option.bind_eq_some_iff.mp H
    obtain ⟨t241, A120, H⟩ := H
    replace H : (wharfingerlaw13_ConfApart.j0 k a1 true (!t241) a0_0 a0_1 a0_2 a0_3 l0_4 a0_5 a0_6 a0_7 a0_8) = some r := H
    have A12 := Aside0.mk A120
    clear A120
    have H' := Aside0.mk H
    clear H
    have hcz13_0 : w9.cell? ⟨gb238, 0, none⟩ = some (.int .u8 a0_0) := (blk_cell BK238.out 0).trans rfl
    have hcz13_1 : w9.cell? ⟨gb238, 1, none⟩ = some (.int .u8 a0_1) := (blk_cell BK238.out 1).trans rfl
    have hcz13_2 : w9.cell? ⟨gb238, 2, none⟩ = some (.int .u8 a0_2) := (blk_cell BK238.out 2).trans rfl
    have hcz13_3 : w9.cell? ⟨gb238, 3, none⟩ = some (.int .u8 a0_3) := (blk_cell BK238.out 3).trans rfl
    have hcz13_4 : w9.cell? ⟨gb238, 4, none⟩ = some (.slice A0_4 l0_4.length c0_4) := (blk_cell BK238.out 4).trans rfl
    have hcz13_5 : w9.cell? ⟨gb238, 5, none⟩ = some (.int .i64 a0_5) := (blk_cell BK238.out 5).trans rfl
    have hcz13_6 : w9.cell? ⟨gb238, 6, none⟩ = some (.int .i64 a0_6) := (blk_cell BK238.out 6).trans rfl
    have hcz13_7 : w9.cell? ⟨gb238, 7, none⟩ = some (.int .i64 a0_7) := (blk_cell BK238.out 7).trans rfl
    have hcz13_8 : w9.cell? ⟨gb238, 8, none⟩ = some (.bool a0_8) := (blk_cell BK238.out 8).trans rfl
    have hfz13_0 := blk_frozen BK238.out 0
    have hfz13_1 := blk_frozen BK238.out 1
    have hfz13_2 := blk_frozen BK238.out 2
    have hfz13_3 := blk_frozen BK238.out 3
    have hfz13_4 := blk_frozen BK238.out 4
    have hfz13_5 := blk_frozen BK238.out 5
    have hfz13_6 := blk_frozen BK238.out 6
    have hfz13_7 := blk_frozen BK238.out 7
    have hfz13_8 := blk_frozen BK238.out 8
    go_wp2_with (first | (go_at_call 14; (with_reducible refine (conf_May.calls a0_0 a0_1 a0_2 a0_3 _ _ l0_4 a0_5 a0_6 a0_7 a0_8 t241 _ ?side1 ?side2 ?side3 A12.out).mono ?_); (case side1 => repeat (first | exact (Kd.C_below HR0_4.out HB.out) | (with_reducible refine Kd.C_alloc ?_ _) | (with_reducible refine Kd.C_drewN ?_ _) | (with_reducible refine Kd.C_drew ?_))); (case side2 => exact HC0_4.out); (case side3 => exact HMET.out.below (by repeat (first | (with_reducible first | exact HB.out | apply below_alloc | apply pw_below_drewN | apply below_drew1 | refine below_set ?_ GE238.out) | exact HB.out))); rintro e w14 ⟨rfl, hb⟩; have n0_ := Aside0.mk (blk_below (g := gb238) (o := .cells #[.int .u8 a0_0, .int .u8 a0_1, .int .u8 a0_2, .int .u8 a0_3, .slice A0_4 l0_4.length c0_4, .int .i64 a0_5, .int .i64 a0_6, .int .i64 a0_7, .bool a0_8] 26 (0, 0)) (by (with_reducible repeat (first | refine blk_drewN ?_ _ | refine blk_drew ?_ | refine blk_alloc ?_ _)); exact BK238.out) hb); have n1_ := Aside0.mk (below_step (by repeat (first | (with_reducible first | exact HB.out | apply below_alloc | apply pw_below_drewN | apply below_drew1 | refine below_set ?_ GE238.out) | exact HB.out)) hb); clear BK238; clear HB; have BK238 := n0_; have HB := n1_; clear n0_ n1_; (try clear hb); (try clear hb2); (try clear hk); (try clear hi)))
    repeat (go_quiet (first | (go_at_call 14; (with_reducible refine (conf_May.calls a0_0 a0_1 a0_2 a0_3 _ _ l0_4 a0_5 a0_6 a0_7 a0_8 t241 _ ?side1 ?side2 ?side3 A12.out).mono ?_); (case side1 => repeat (first | exact (Kd.C_below HR0_4.out HB.out) | (with_reducible refine Kd.C_alloc ?_ _) | (with_reducible refine Kd.C_drewN ?_ _) | (with_reducible refine Kd.C_drew ?_))); (case side2 => exact HC0_4.out); (case side3 => exact HMET.out.below (by repeat (first | (with_reducible first | exact HB.out | apply below_alloc | apply pw_below_drewN | apply below_drew1 | refine below_set ?_ GE238.out) | exact HB.out))); rintro e w14 ⟨rfl, hb⟩; have n0_ := Aside0.mk (blk_below (g := gb238) (o := .cells #[.int .u8 a0_0, .int .u8 a0_1, .int .u8 a0_2, .int .u8 a0_3, .slice A0_4 l0_4.length c0_4, .int .i64 a0_5, .int .i64 a0_6, .int .i64 a0_7, .bool a0_8] 26 (0, 0)) (by (with_reducible repeat (first | refine blk_drewN ?_ _ | refine blk_drew ?_ | refine blk_alloc ?_ _)); exact BK238.out) hb); have n1_ := Aside0.mk (below_step (by repeat (first | (with_reducible first | exact HB.out | apply below_alloc | apply pw_below_drewN | apply below_drew1 | refine below_set ?_ GE238.out) | exact HB.out)) hb); clear BK238; clear HB; have BK238 := n0_; have HB := n1_; clear n0_ n1_; (try clear hb); (try clear hb2); (try clear hk); (try clear hi))); try go_wp2_with (first | (go_at_call 14; (with_reducible refine (conf_May.calls a0_0 a0_1 a0_2 a0_3 _ _ l0_4 a0_5 a0_6 a0_7 a0_8 t241 _ ?side1 ?side2 ?side3 A12.out).mono ?_); (case side1 => repeat (first | exact (Kd.C_below HR0_4.out HB.out) | (with_reducible refine Kd.C_alloc ?_ _) | (with_reducible refine Kd.C_drewN ?_ _) | (with_reducible refine Kd.C_drew ?_))); (case side2 => exact HC0_4.out); (case side3 => exact HMET.out.below (by repeat (first | (with_reducible first | exact HB.out | apply below_alloc | apply pw_below_drewN | apply below_drew1 | refine below_set ?_ GE238.out) | exact HB.out))); rintro e w14 ⟨rfl, hb⟩; have n0_ := Aside0.mk (blk_below (g := gb238) (o := .cells #[.int .u8 a0_0, .int .u8 a0_1, .int .u8 a0_2, .int .u8 a0_3, .slice A0_4 l0_4.length c0_4, .int .i64 a0_5, .int .i64 a0_6, .int .i64 a0_7, .bool a0_8] 26 (0, 0)) (by (with_reducible repeat (first | refine blk_drewN ?_ _ | refine blk_drew ?_ | refine blk_alloc ?_ _)); exact BK238.out) hb); have n1_ := Aside0.mk (below_step (by repeat (first | (with_reducible first | exact HB.out | apply below_alloc | apply pw_below_drewN | apply below_drew1 | refine below_set ?_ GE238.out) | exact HB.out)) hb); clear BK238; clear HB; have BK238 := n0_; have HB := n1_; clear n0_ n1_; (try clear hb); (try clear hb2); (try clear hk); (try clear hi))))
    go_meet
    case rel => exact ⟨_, (!t241), (by first | rfl | (simp; done) | (simp [*]; done)), H', ⟨by first | omega | exact Nat.le_refl _⟩, ⟨by (with_reducible repeat (first | refine blk_drewN ?_ _ | refine blk_drew ?_ | refine blk_alloc ?_ _)); exact BK238.out⟩, ⟨by repeat (first | (with_reducible first | exact HB.out | apply below_alloc | apply pw_below_drewN | apply below_drew1 | refine below_set ?_ GE238.out) | exact HB.out)⟩⟩
   ·
    replace c11 := Bool.eq_false_iff.mpr c11
    subst c11
    have H1 : (wharfingerlaw13_ConfApart.j0 k a1 true true a0_0 a0_1 a0_2 a0_3 l0_4 a0_5 a0_6 a0_7 a0_8) = some r := by rw [if_neg (show ¬ (false = true) by decide)] at H; exact H
    clear H
    have H := H1
    clear H1
    have H' := Aside0.mk H
    clear H
    go_wp2
    repeat (go_quiet (fail); try go_wp2)
    go_meet
    case rel => exact ⟨_, (true), (by first | rfl | (simp; done) | (simp [*]; done)), H', ⟨by first | omega | exact Nat.le_refl _⟩, ⟨by (with_reducible repeat (first | refine blk_drewN ?_ _ | refine blk_drew ?_ | refine blk_alloc ?_ _)); exact BK238.out⟩, ⟨by repeat (first | (with_reducible first | exact HB.out | apply below_alloc | apply pw_below_drewN | apply below_drew1 | refine below_set ?_ GE238.out) | exact HB.out)⟩⟩
  ·
   replace c10 := Bool.eq_false_iff.mpr c10
   subst c10
   have H1 : (wharfingerlaw13_ConfApart.j0 k a1 false true a0_0 a0_1 a0_2 a0_3 l0_4 a0_5 a0_6 a0_7 a0_8) = some r := by rw [if_neg (show ¬ (false = true) by decide)] at H; exact H
   clear H
   have H := H1
   clear H1
   have H' := Aside0.mk H
   clear H
   go_wp2
   repeat (go_quiet (fail); try go_wp2)
   go_meet
   case rel => exact ⟨_, (true), (by first | rfl | (simp; done) | (simp [*]; done)), H', ⟨by first | omega | exact Nat.le_refl _⟩, ⟨by (with_reducible repeat (first | refine blk_drewN ?_ _ | refine blk_drew ?_ | refine blk_alloc ?_ _)); exact BK238.out⟩, ⟨by repeat (first | (with_reducible first | exact HB.out | apply below_alloc | apply pw_below_drewN | apply below_drew1 | refine below_set ?_ GE238.out) | exact HB.out)⟩⟩
 case rest =>
  clear HC5
  try clear c1
  try clear p2
  try clear c5
  try clear c10
  try clear c11
  try clear hcz13_0
  try clear hcz13_1
  try clear hcz13_2
  try clear hcz13_3
  try clear hcz13_4
  try clear hcz13_5
  try clear hcz13_6
  try clear hcz13_7
  try clear hcz13_8
  try clear hcz8_0
  try clear hcz8_1
  try clear hcz8_2
  try clear hcz8_3
  try clear hcz8_4
  try clear hcz8_5
  try clear hcz8_6
  try clear hcz8_7
  try clear hcz8_8
  try clear hfz13_0
  try clear hfz13_1
  try clear hfz13_2
  try clear hfz13_3
  try clear hfz13_4
  try clear hfz13_5
  try clear hfz13_6
  try clear hfz13_7
  try clear hfz13_8
  try clear hfz8_0
  try clear hfz8_1
  try clear hfz8_2
  try clear hfz8_3
  try clear hfz8_4
  try clear hfz8_5
  try clear hfz8_6
  try clear hfz8_7
  try clear hfz8_8
  obtain ⟨kq, x24_4, rfl, HA, HJ4, BK238, HB⟩ := hcut
  cases kq with
  | zero => exact absurd HA.out (by simp [wharfingerlaw13_ConfApart.j0])
  | succ kj4 =>
   have H := HA.out
   clear HA
   simp only [wharfingerlaw13_ConfApart.j0] at H
   by_cases c15 : x24_4 = true
   ·
    subst c15
    have H1 : (some t239) = some r := by rw [if_pos rfl] at H; exact H
    clear H
    have H := H1
    clear H1
    obtain rfl := Option.some.inj H
    go_wp2
    repeat (go_quiet (fail); try go_wp2)
    go_ret
    exact ⟨by first | rfl | (simp [errW_none, errW_some] <;> rfl) | (simp [*, errW_none, errW_some] <;> rfl), by repeat (first | (with_reducible first | exact HB.out | apply below_alloc | apply pw_below_drewN | apply below_drew1 | refine below_set ?_ GE238.out) | exact HB.out)⟩
   ·
    replace c15 := Bool.eq_false_iff.mpr c15
    subst c15
    have H1 : (wharfingerlaw13_ConfApart.l0 kj4 a1 0 0 a0_0 a0_1 a0_2 a0_3 l0_4 a0_5 a0_6 a0_7 a0_8) = some r := by rw [if_neg (show ¬ (false = true) by decide)] at H; exact H
    clear H
    have H := H1
    clear H1
    have H' := Aside0.mk H
    clear H
    go_wp2
    repeat (go_quiet (fail); try go_wp2)
    go_loopg [7, 8] kj4 (fun kq v7 v8 w' => ∃ (x7_2 : Int) (x8_2 : Int), v7 = .int .i64 x7_2 ∧ v8 = .int .i64 x8_2 ∧ Aside0 (wharfingerlaw13_ConfApart.l0 kq a1 x7_2 x8_2 a0_0 a0_1 a0_2 a0_3 l0_4 a0_5 a0_6 a0_7 a0_8 = some r) ∧ Aside0 (kq ≤ kj4) ∧ Aside0 (w'.heap[gb238]? = some (.cells #[.int .u8 a0_0, .int .u8 a0_1, .int .u8 a0_2, .int .u8 a0_3, (.slice A0_4 l0_4.length c0_4), .int .i64 a0_5, .int .i64 a0_6, .int .i64 a0_7, .bool a0_8] 26 (0, 0))) ∧ Aside0 (Below w.heap.size w w'))
    case atStart => exact ⟨(0), (0), (by first | rfl | (simp; done) | (simp [*]; done)), (by first | rfl | (simp; done) | (simp [*]; done)), H', ⟨Nat.le_refl _⟩, ⟨by (with_reducible repeat (first | refine blk_drewN ?_ _ | refine blk_drew ?_ | refine blk_alloc ?_ _)); exact BK238.out⟩, ⟨by repeat (first | (with_reducible first | exact HB.out | apply below_alloc | apply pw_below_drewN | apply below_drew1 | refine below_set ?_ GE238.out) | exact HB.out)⟩⟩
    case round =>
     clear H'
     try clear c1
     try clear p2
     try clear c5
     try clear c10
     try clear c11
     try clear c15
     try clear hcz13_0
     try clear hcz13_1
     try clear hcz13_2
     try clear hcz13_3
     try clear hcz13_4
     try clear hcz13_5
     try clear hcz13_6
     try clear hcz13_7
     try clear hcz13_8
     try clear hcz8_0
     try clear hcz8_1
     try clear hcz8_2
     try clear hcz8_3
     try clear hcz8_4
     try clear hcz8_5
     try clear hcz8_6
     try clear hcz8_7
     try clear hcz8_8
     try clear hfz13_0
     try clear hfz13_1
     try clear hfz13_2
     try clear hfz13_3
     try clear hfz13_4
     try clear hfz13_5
     try clear hfz13_6
     try clear hfz13_7
     try clear hfz13_8
     try clear hfz8_0
     try clear hfz8_1
     try clear hfz8_2
     try clear hfz8_3
     try clear hfz8_4
     try clear hfz8_5
     try clear hfz8_6
     try clear hfz8_7
     try clear hfz8_8
     try clear p2
     obtain ⟨x7_2, x8_2, rfl, rfl, HA, HK2, BK238, HB⟩ := hrel
     cases gk with
     | zero => exact absurd HA.out (by simp [wharfingerlaw13_ConfApart.l0])
     | succ k2 =>
      have H := HA.out
      clear HA
      simp only [wharfingerlaw13_ConfApart.l0] at H
      by_cases c16 : x8_2 < (l0_4.length : Int)
      ·
       rw [if_pos c16] at H
       have c16b0 : decide (x8_2 < (l0_4.length : Int)) = true := decide_eq_true c16
       clear c16
       by_cases c17 : 0 ≤ x8_2
       ·
        rw [if_pos c17] at H
        have c17b0 : decide (0 ≤ x8_2) = true := decide_eq_true c17
        clear c17
        have HC18 := Aside0.mk H
        clear H
        have hcz19_0 : wr.cell? ⟨gb238, 0, none⟩ = some (.int .u8 a0_0) := (blk_cell BK238.out 0).trans rfl
        have hcz19_1 : wr.cell? ⟨gb238, 1, none⟩ = some (.int .u8 a0_1) := (blk_cell BK238.out 1).trans rfl
        have hcz19_2 : wr.cell? ⟨gb238, 2, none⟩ = some (.int .u8 a0_2) := (blk_cell BK238.out 2).trans rfl
        have hcz19_3 : wr.cell? ⟨gb238, 3, none⟩ = some (.int .u8 a0_3) := (blk_cell BK238.out 3).trans rfl
        have hcz19_4 : wr.cell? ⟨gb238, 4, none⟩ = some (.slice A0_4 l0_4.length c0_4) := (blk_cell BK238.out 4).trans rfl
        have hcz19_5 : wr.cell? ⟨gb238, 5, none⟩ = some (.int .i64 a0_5) := (blk_cell BK238.out 5).trans rfl
        have hcz19_6 : wr.cell? ⟨gb238, 6, none⟩ = some (.int .i64 a0_6) := (blk_cell BK238.out 6).trans rfl
        have hcz19_7 : wr.cell? ⟨gb238, 7, none⟩ = some (.int .i64 a0_7) := (blk_cell BK238.out 7).trans rfl
        have hcz19_8 : wr.cell? ⟨gb238, 8, none⟩ = some (.bool a0_8) := (blk_cell BK238.out 8).trans rfl
        have hfz19_0 := blk_frozen BK238.out 0
        have hfz19_1 := blk_frozen BK238.out 1
        have hfz19_2 := blk_frozen BK238.out 2
        have hfz19_3 := blk_frozen BK238.out 3
        have hfz19_4 := blk_frozen BK238.out 4
        have hfz19_5 := blk_frozen BK238.out 5
        have hfz19_6 := blk_frozen BK238.out 6
        have hfz19_7 := blk_frozen BK238.out 7
        have hfz19_8 := blk_frozen BK238.out 8
        have p242 : 0 ≤ (x8_2 : Int) := of_decide_eq_true (by first | (with_reducible assumption) | assumption)
        have q242 : x8_2 < (l0_4.length : Int) := of_decide_eq_true (by first | (with_reducible assumption) | assumption)
        obtain ⟨ad242, A242_9, c242_9, e242, hx242_0, hx242_1, hx242_2, hx242_3, hx242_4, hx242_5, hx242_6, hx242_7, hx242_8, hx242_9, hx242_10, hx242_11, hx242_12, hx242_13, hl242_9, hi242_9⟩ := at_T40 HR0_4.out x8_2 p242 q242
        cases e242
        replace hx242_0 := (HB.out.cell (World.block_lt_of_cell? w _ hx242_0)).trans hx242_0
        replace hx242_1 := (HB.out.cell (World.block_lt_of_cell? w _ hx242_1)).trans hx242_1
        replace hx242_2 := (HB.out.cell (World.block_lt_of_cell? w _ hx242_2)).trans hx242_2
        replace hx242_3 := (HB.out.cell (World.block_lt_of_cell? w _ hx242_3)).trans hx242_3
        replace hx242_4 := (HB.out.cell (World.block_lt_of_cell? w _ hx242_4)).trans hx242_4
        replace hx242_5 := (HB.out.cell (World.block_lt_of_cell? w _ hx242_5)).trans hx242_5
        replace hx242_6 := (HB.out.cell (World.block_lt_of_cell? w _ hx242_6)).trans hx242_6
        replace hx242_7 := (HB.out.cell (World.block_lt_of_cell? w _ hx242_7)).trans hx242_7
        replace hx242_8 := (HB.out.cell (World.block_lt_of_cell? w _ hx242_8)).trans hx242_8
        replace hx242_9 := (HB.out.cell (World.block_lt_of_cell? w _ hx242_9)).trans hx242_9
        replace hx242_10 := (HB.out.cell (World.block_lt_of_cell? w _ hx242_10)).trans hx242_10
        replace hx242_11 := (HB.out.cell (World.block_lt_of_cell? w _ hx242_11)).trans hx242_11
        replace hx242_12 := (HB.out.cell (World.block_lt_of_cell? w _ hx242_12)).trans hx242_12
        replace hx242_13 := (HB.out.cell (World.block_lt_of_cell? w _ hx242_13)).trans hx242_13
        have HR242_9 := Aside0.mk hi242_9
        have HC242_9 := Aside0.mk hl242_9
        clear hi242_9 hl242_9
        replace p242 := eq_true p242
        replace q242 := eq_true q242
        go_upto_region 10 with (first | ((with_reducible refine gate_dst (N := 9) rfl ?_); (try (refine gate_guard (by rfl) ?_; dsimp only)); refine box_event ?hg (N := 9) ?hd (cs := #[.string (⟨#[]⟩ : ByteArray), .string (⟨#[]⟩ : ByteArray), .int .u8 0, .int .u8 0, .int .u8 0, .int .u8 0, .int .i64 0, .int .i64 0, .int .i64 0, .slice none 0 0, .int .i64 0, .int .i64 0, .int .i64 0, .int .i64 0]) (t := 40) ?hr ?_; (case hd => rfl); (case hg => rfl); (case hr => first | (go_simp; done) | (go_simp; rfl)); intro gb243 hg w20 hbox hb; have n0_ := Aside0.mk (blk_below (g := gb238) (o := .cells #[.int .u8 a0_0, .int .u8 a0_1, .int .u8 a0_2, .int .u8 a0_3, .slice (some ad242) l0_4.length c0_4, .int .i64 a0_5, .int .i64 a0_6, .int .i64 a0_7, .bool a0_8] 26 (0, 0)) (by (with_reducible repeat (first | refine blk_drewN ?_ _ | refine blk_drew ?_ | refine blk_alloc ?_ _)); exact BK238.out) hb); have n1_ := Aside0.mk (below_step (by repeat (first | (with_reducible first | exact HB.out | apply below_alloc | apply pw_below_drewN | apply below_drew1 | refine below_set ?_ GE238.out) | exact HB.out)) hb); have n2_ := Aside0.mk (hbox); have n3_ := Aside0.mk ((by rw [hg]; exact (below_size (by repeat (first | (with_reducible first | exact HB.out | apply below_alloc | apply pw_below_drewN | apply below_drew1 | refine below_set ?_ GE238.out) | exact HB.out))) : w.heap.size ≤ gb243)); have n4_ := Aside0.mk ((by rw [hg]; exact (below_size (by repeat (first | (with_reducible first | exact HB.out | apply below_alloc | apply pw_below_drewN | apply below_drew1 | refine below_set ?_ GE238.out) | exact HB.out))) : w.heap.size ≤ gb243)); have n5_ := Aside0.mk ((by rw [hg]; exact Nat.ne_of_lt (blk_lt (g := gb238) (o := .cells #[.int .u8 a0_0, .int .u8 a0_1, .int .u8 a0_2, .int .u8 a0_3, .slice (some ad242) l0_4.length c0_4, .int .i64 a0_5, .int .i64 a0_6, .int .i64 a0_7, .bool a0_8] 26 (0, 0)) (by (with_reducible repeat (first | refine blk_drewN ?_ _ | refine blk_drew ?_ | refine blk_alloc ?_ _)); exact BK238.out)) : gb238 ≠ gb243)); have n6_ := Aside0.mk ((by rw [hg]; exact Nat.ne_of_gt (blk_lt (g := gb238) (o := .cells #[.int .u8 a0_0, .int .u8 a0_1, .int .u8 a0_2, .int .u8 a0_3, .slice (some ad242) l0_4.length c0_4, .int .i64 a0_5, .int .i64 a0_6, .int .i64 a0_7, .bool a0_8] 26 (0, 0)) (by (with_reducible repeat (first | refine blk_drewN ?_ _ | refine blk_drew ?_ | refine blk_alloc ?_ _)); exact BK238.out)) : gb243 ≠ gb238)); clear BK238; clear HB; have BK238 := n0_; have HB := n1_; have BK243 := n2_; have GW243 := n3_; have GE243 := n4_; have NB238_243 := n5_; have NB243_238 := n6_; clear n0_ n1_ n2_ n3_ n4_ n5_ n6_; clear hb hbox hg; have hnb21 := NB243_238.out; have hnc21 := NB238_243.out; obtain ⟨hcz22_0, hcz22_1, hcz22_2, hcz22_3, hcz22_4, hcz22_5, hcz22_6, hcz22_7, hcz22_8, hcz22_9, hcz22_10, hcz22_11, hcz22_12, hcz22_13⟩ := cl_14 (.string (⟨#[]⟩ : ByteArray)) (.string (⟨#[]⟩ : ByteArray)) (.int .u8 0) (.int .u8 0) (.int .u8 0) (.int .u8 0) (.int .i64 0) (.int .i64 0) (.int .i64 0) (.slice none 0 0) (.int .i64 0) (.int .i64 0) (.int .i64 0) (.int .i64 0) BK243.out; obtain ⟨hfz22_0, hfz22_1, hfz22_2, hfz22_3, hfz22_4, hfz22_5, hfz22_6, hfz22_7, hfz22_8, hfz22_9, hfz22_10, hfz22_11, hfz22_12, hfz22_13⟩ := fz_14 BK243.out))
        repeat (go_quiet (first | ((with_reducible refine gate_dst (N := 9) rfl ?_); (try (refine gate_guard (by rfl) ?_; dsimp only)); refine box_event ?hg (N := 9) ?hd (cs := #[.string (⟨#[]⟩ : ByteArray), .string (⟨#[]⟩ : ByteArray), .int .u8 0, .int .u8 0, .int .u8 0, .int .u8 0, .int .i64 0, .int .i64 0, .int .i64 0, .slice none 0 0, .int .i64 0, .int .i64 0, .int .i64 0, .int .i64 0]) (t := 40) ?hr ?_; (case hd => rfl); (case hg => rfl); (case hr => first | (go_simp; done) | (go_simp; rfl)); intro gb243 hg w20 hbox hb; have n0_ := Aside0.mk (blk_below (g := gb238) (o := .cells #[.int .u8 a0_0, .int .u8 a0_1, .int .u8 a0_2, .int .u8 a0_3, .slice (some ad242) l0_4.length c0_4, .int .i64 a0_5, .int .i64 a0_6, .int .i64 a0_7, .bool a0_8] 26 (0, 0)) (by (with_reducible repeat (first | refine blk_drewN ?_ _ | refine blk_drew ?_ | refine blk_alloc ?_ _)); exact BK238.out) hb); have n1_ := Aside0.mk (below_step (by repeat (first | (with_reducible first | exact HB.out | apply below_alloc | apply pw_below_drewN | apply below_drew1 | refine below_set ?_ GE238.out) | exact HB.out)) hb); have n2_ := Aside0.mk (hbox); have n3_ := Aside0.mk ((by rw [hg]; exact (below_size (by repeat (first | (with_reducible first | exact HB.out | apply below_alloc | apply pw_below_drewN | apply below_drew1 | refine below_set ?_ GE238.out) | exact HB.out))) : w.heap.size ≤ gb243)); have n4_ := Aside0.mk ((by rw [hg]; exact (below_size (by repeat (first | (with_reducible first | exact HB.out | apply below_alloc | apply pw_below_drewN | apply below_drew1 | refine below_set ?_ GE238.out) | exact HB.out))) : w.heap.size ≤ gb243)); have n5_ := Aside0.mk ((by rw [hg]; exact Nat.ne_of_lt (blk_lt (g := gb238) (o := .cells #[.int .u8 a0_0, .int .u8 a0_1, .int .u8 a0_2, .int .u8 a0_3, .slice (some ad242) l0_4.length c0_4, .int .i64 a0_5, .int .i64 a0_6, .int .i64 a0_7, .bool a0_8] 26 (0, 0)) (by (with_reducible repeat (first | refine blk_drewN ?_ _ | refine blk_drew ?_ | refine blk_alloc ?_ _)); exact BK238.out)) : gb238 ≠ gb243)); have n6_ := Aside0.mk ((by rw [hg]; exact Nat.ne_of_gt (blk_lt (g := gb238) (o := .cells #[.int .u8 a0_0, .int .u8 a0_1, .int .u8 a0_2, .int .u8 a0_3, .slice (some ad242) l0_4.length c0_4, .int .i64 a0_5, .int .i64 a0_6, .int .i64 a0_7, .bool a0_8] 26 (0, 0)) (by (with_reducible repeat (first | refine blk_drewN ?_ _ | refine blk_drew ?_ | refine blk_alloc ?_ _)); exact BK238.out)) : gb243 ≠ gb238)); clear BK238; clear HB; have BK238 := n0_; have HB := n1_; have BK243 := n2_; have GW243 := n3_; have GE243 := n4_; have NB238_243 := n5_; have NB243_238 := n6_; clear n0_ n1_ n2_ n3_ n4_ n5_ n6_; clear hb hbox hg; have hnb21 := NB243_238.out; have hnc21 := NB238_243.out; obtain ⟨hcz22_0, hcz22_1, hcz22_2, hcz22_3, hcz22_4, hcz22_5, hcz22_6, hcz22_7, hcz22_8, hcz22_9, hcz22_10, hcz22_11, hcz22_12, hcz22_13⟩ := cl_14 (.string (⟨#[]⟩ : ByteArray)) (.string (⟨#[]⟩ : ByteArray)) (.int .u8 0) (.int .u8 0) (.int .u8 0) (.int .u8 0) (.int .i64 0) (.int .i64 0) (.int .i64 0) (.slice none 0 0) (.int .i64 0) (.int .i64 0) (.int .i64 0) (.int .i64 0) BK243.out; obtain ⟨hfz22_0, hfz22_1, hfz22_2, hfz22_3, hfz22_4, hfz22_5, hfz22_6, hfz22_7, hfz22_8, hfz22_9, hfz22_10, hfz22_11, hfz22_12, hfz22_13⟩ := fz_14 BK243.out)); go_upto_region 10 with (first | ((with_reducible refine gate_dst (N := 9) rfl ?_); (try (refine gate_guard (by rfl) ?_; dsimp only)); refine box_event ?hg (N := 9) ?hd (cs := #[.string (⟨#[]⟩ : ByteArray), .string (⟨#[]⟩ : ByteArray), .int .u8 0, .int .u8 0, .int .u8 0, .int .u8 0, .int .i64 0, .int .i64 0, .int .i64 0, .slice none 0 0, .int .i64 0, .int .i64 0, .int .i64 0, .int .i64 0]) (t := 40) ?hr ?_; (case hd => rfl); (case hg => rfl); (case hr => first | (go_simp; done) | (go_simp; rfl)); intro gb243 hg w20 hbox hb; have n0_ := Aside0.mk (blk_below (g := gb238) (o := .cells #[.int .u8 a0_0, .int .u8 a0_1, .int .u8 a0_2, .int .u8 a0_3, .slice (some ad242) l0_4.length c0_4, .int .i64 a0_5, .int .i64 a0_6, .int .i64 a0_7, .bool a0_8] 26 (0, 0)) (by (with_reducible repeat (first | refine blk_drewN ?_ _ | refine blk_drew ?_ | refine blk_alloc ?_ _)); exact BK238.out) hb); have n1_ := Aside0.mk (below_step (by repeat (first | (with_reducible first | exact HB.out | apply below_alloc | apply pw_below_drewN | apply below_drew1 | refine below_set ?_ GE238.out) | exact HB.out)) hb); have n2_ := Aside0.mk (hbox); have n3_ := Aside0.mk ((by rw [hg]; exact (below_size (by repeat (first | (with_reducible first | exact HB.out | apply below_alloc | apply pw_below_drewN | apply below_drew1 | refine below_set ?_ GE238.out) | exact HB.out))) : w.heap.size ≤ gb243)); have n4_ := Aside0.mk ((by rw [hg]; exact (below_size (by repeat (first | (with_reducible first | exact HB.out | apply below_alloc | apply pw_below_drewN | apply below_drew1 | refine below_set ?_ GE238.out) | exact HB.out))) : w.heap.size ≤ gb243)); have n5_ := Aside0.mk ((by rw [hg]; exact Nat.ne_of_lt (blk_lt (g := gb238) (o := .cells #[.int .u8 a0_0, .int .u8 a0_1, .int .u8 a0_2, .int .u8 a0_3, .slice (some ad242) l0_4.length c0_4, .int .i64 a0_5, .int .i64 a0_6, .int .i64 a0_7, .bool a0_8] 26 (0, 0)) (by (with_reducible repeat (first | refine blk_drewN ?_ _ | refine blk_drew ?_ | refine blk_alloc ?_ _)); exact BK238.out)) : gb238 ≠ gb243)); have n6_ := Aside0.mk ((by rw [hg]; exact Nat.ne_of_gt (blk_lt (g := gb238) (o := .cells #[.int .u8 a0_0, .int .u8 a0_1, .int .u8 a0_2, .int .u8 a0_3, .slice (some ad242) l0_4.length c0_4, .int .i64 a0_5, .int .i64 a0_6, .int .i64 a0_7, .bool a0_8] 26 (0, 0)) (by (with_reducible repeat (first | refine blk_drewN ?_ _ | refine blk_drew ?_ | refine blk_alloc ?_ _)); exact BK238.out)) : gb243 ≠ gb238)); clear BK238; clear HB; have BK238 := n0_; have HB := n1_; have BK243 := n2_; have GW243 := n3_; have GE243 := n4_; have NB238_243 := n5_; have NB243_238 := n6_; clear n0_ n1_ n2_ n3_ n4_ n5_ n6_; clear hb hbox hg; have hnb21 := NB243_238.out; have hnc21 := NB238_243.out; obtain ⟨hcz22_0, hcz22_1, hcz22_2, hcz22_3, hcz22_4, hcz22_5, hcz22_6, hcz22_7, hcz22_8, hcz22_9, hcz22_10, hcz22_11, hcz22_12, hcz22_13⟩ := cl_14 (.string (⟨#[]⟩ : ByteArray)) (.string (⟨#[]⟩ : ByteArray)) (.int .u8 0) (.int .u8 0) (.int .u8 0) (.int .u8 0) (.int .i64 0) (.int .i64 0) (.int .i64 0) (.slice none 0 0) (.int .i64 0) (.int .i64 0) (.int .i64 0) (.int .i64 0) BK243.out; obtain ⟨hfz22_0, hfz22_1, hfz22_2, hfz22_3, hfz22_4, hfz22_5, hfz22_6, hfz22_7, hfz22_8, hfz22_9, hfz22_10, hfz22_11, hfz22_12, hfz22_13⟩ := fz_14 BK243.out)))
        (try simp only [Act.put, List.setIfInBounds_toArray, List.set_cons_zero, List.set_cons_succ])
        go_cut [47] (fun v47 wc => ∃ (kq : Nat) (x47_17 : Bool), v47 = .bool x47_17 ∧ Aside0 (wharfingerlaw13_ConfApart.j2 kq a1 x7_2 x8_2 x47_17 a0_0 a0_1 a0_2 a0_3 l0_4 a0_5 a0_6 a0_7 a0_8 ((rd_T40 l0_4 x8_2).f0) ((rd_T40 l0_4 x8_2).f1) ((rd_T40 l0_4 x8_2).f2.f0.f0) ((rd_T40 l0_4 x8_2).f2.f0.f1) ((rd_T40 l0_4 x8_2).f2.f0.f2) ((rd_T40 l0_4 x8_2).f2.f0.f3) ((rd_T40 l0_4 x8_2).f2.f1) ((rd_T40 l0_4 x8_2).f3) ((rd_T40 l0_4 x8_2).f4) ((rd_T40 l0_4 x8_2).f5) ((rd_T40 l0_4 x8_2).f6) ((rd_T40 l0_4 x8_2).f7) ((rd_T40 l0_4 x8_2).f8) ((rd_T40 l0_4 x8_2).f9) = some r) ∧ Aside0 (kq ≤ k2) ∧ Aside0 (wc.heap[gb238]? = some (.cells #[.int .u8 a0_0, .int .u8 a0_1, .int .u8 a0_2, .int .u8 a0_3, (.slice (some ad242) l0_4.length c0_4), .int .i64 a0_5, .int .i64 a0_6, .int .i64 a0_7, .bool a0_8] 26 (0, 0))) ∧ Aside0 (wc.heap[gb243]? = some (.cells #[.string ((rd_T40 l0_4 x8_2).f0), .string ((rd_T40 l0_4 x8_2).f1), .int .u8 ((rd_T40 l0_4 x8_2).f2.f0.f0), .int .u8 ((rd_T40 l0_4 x8_2).f2.f0.f1), .int .u8 ((rd_T40 l0_4 x8_2).f2.f0.f2), .int .u8 ((rd_T40 l0_4 x8_2).f2.f0.f3), .int .i64 ((rd_T40 l0_4 x8_2).f2.f1), .int .i64 ((rd_T40 l0_4 x8_2).f3), .int .i64 ((rd_T40 l0_4 x8_2).f4), (.slice A242_9 ((rd_T40 l0_4 x8_2).f5).length c242_9), .int .i64 ((rd_T40 l0_4 x8_2).f6), .int .i64 ((rd_T40 l0_4 x8_2).f7), .int .i64 ((rd_T40 l0_4 x8_2).f8), .int .i64 ((rd_T40 l0_4 x8_2).f9)] 40 (0, 0))) ∧ Aside0 (Below w.heap.size w wc))
        case first =>
         have H := HC18.out
         clear HC18
         by_cases c23 : a1 ≥ ((rd_T40 l0_4 x8_2).f3)
         ·
          rw [if_pos c23] at H
          have c23b0 : decide (((rd_T40 l0_4 x8_2).f3) ≤ a1) = true := decide_eq_true c23
          clear c23
          (first | rw [c23b0] | (simp only [i64_w, i32_w]; rw [c23b0]) | skip)
          have H' := Aside0.mk H
          clear H
          have hnb24 := NB243_238.out
          have hnc24 := NB238_243.out
          have hcz25_0 : w20.cell? ⟨gb243, 0, none⟩ = some (.string (⟨#[]⟩ : ByteArray)) := (blk_cell BK243.out 0).trans rfl
          have hcz25_1 : w20.cell? ⟨gb243, 1, none⟩ = some (.string (⟨#[]⟩ : ByteArray)) := (blk_cell BK243.out 1).trans rfl
          have hcz25_2 : w20.cell? ⟨gb243, 2, none⟩ = some (.int .u8 0) := (blk_cell BK243.out 2).trans rfl
          have hcz25_3 : w20.cell? ⟨gb243, 3, none⟩ = some (.int .u8 0) := (blk_cell BK243.out 3).trans rfl
          have hcz25_4 : w20.cell? ⟨gb243, 4, none⟩ = some (.int .u8 0) := (blk_cell BK243.out 4).trans rfl
          have hcz25_5 : w20.cell? ⟨gb243, 5, none⟩ = some (.int .u8 0) := (blk_cell BK243.out 5).trans rfl
          have hcz25_6 : w20.cell? ⟨gb243, 6, none⟩ = some (.int .i64 0) := (blk_cell BK243.out 6).trans rfl
          have hcz25_7 : w20.cell? ⟨gb243, 7, none⟩ = some (.int .i64 0) := (blk_cell BK243.out 7).trans rfl
          have hcz25_8 : w20.cell? ⟨gb243, 8, none⟩ = some (.int .i64 0) := (blk_cell BK243.out 8).trans rfl
          have hcz25_9 : w20.cell? ⟨gb243, 9, none⟩ = some (.slice none 0 0) := (blk_cell BK243.out 9).trans rfl
          have hcz25_10 : w20.cell? ⟨gb243, 10, none⟩ = some (.int .i64 0) := (blk_cell BK243.out 10).trans rfl
          have hcz25_11 : w20.cell? ⟨gb243, 11, none⟩ = some (.int .i64 0) := (blk_cell BK243.out 11).trans rfl
          have hcz25_12 : w20.cell? ⟨gb243, 12, none⟩ = some (.int .i64 0) := (blk_cell BK243.out 12).trans rfl
          have hcz25_13 : w20.cell? ⟨gb243, 13, none⟩ = some (.int .i64 0) := (blk_cell BK243.out 13).trans rfl
          have hfz25_0 := blk_frozen BK243.out 0
          have hfz25_1 := blk_frozen BK243.out 1
          have hfz25_2 := blk_frozen BK243.out 2
          have hfz25_3 := blk_frozen BK243.out 3
          have hfz25_4 := blk_frozen BK243.out 4
          have hfz25_5 := blk_frozen BK243.out 5
          have hfz25_6 := blk_frozen BK243.out 6
          have hfz25_7 := blk_frozen BK243.out 7
          have hfz25_8 := blk_frozen BK243.out 8
          have hfz25_9 := blk_frozen BK243.out 9
          have hfz25_10 := blk_frozen BK243.out 10
          have hfz25_11 := blk_frozen BK243.out 11
          have hfz25_12 := blk_frozen BK243.out 12
          have hfz25_13 := blk_frozen BK243.out 13
          go_wp2
          repeat (go_quiet (fail); try go_wp2)
          go_meet
          case rel => exact ⟨_, (decide (a1 ≤ ((rd_T40 l0_4 x8_2).f4))), (by first | rfl | (simp; done) | (simp [*]; done)), H', ⟨by have := HJ4.out; have := HK2.out; first | omega | exact Nat.le_refl _⟩, ⟨by (iterate 14 ((with_reducible repeat (first | refine blk_drewN ?_ _ | refine blk_drew ?_ | refine blk_alloc ?_ _)); refine blk_far ?_ NB238_243.out _)); (with_reducible repeat (first | refine blk_drewN ?_ _ | refine blk_drew ?_ | refine blk_alloc ?_ _)); exact BK238.out⟩, ⟨by (with_reducible repeat (first | refine blk_drewN ?_ _ | refine blk_drew ?_ | refine blk_alloc ?_ _)); refine blk_put (cs := #[.string ((rd_T40 l0_4 x8_2).f0), .string ((rd_T40 l0_4 x8_2).f1), .int .u8 ((rd_T40 l0_4 x8_2).f2.f0.f0), .int .u8 ((rd_T40 l0_4 x8_2).f2.f0.f1), .int .u8 ((rd_T40 l0_4 x8_2).f2.f0.f2), .int .u8 ((rd_T40 l0_4 x8_2).f2.f0.f3), .int .i64 ((rd_T40 l0_4 x8_2).f2.f1), .int .i64 ((rd_T40 l0_4 x8_2).f3), .int .i64 ((rd_T40 l0_4 x8_2).f4), .slice A242_9 ((rd_T40 l0_4 x8_2).f5).length c242_9, .int .i64 ((rd_T40 l0_4 x8_2).f6), .int .i64 ((rd_T40 l0_4 x8_2).f7), .int .i64 ((rd_T40 l0_4 x8_2).f8), .int .i64 0]) ?_ 13 _ rfl; (with_reducible repeat (first | refine blk_drewN ?_ _ | refine blk_drew ?_ | refine blk_alloc ?_ _)); refine blk_put (cs := #[.string ((rd_T40 l0_4 x8_2).f0), .string ((rd_T40 l0_4 x8_2).f1), .int .u8 ((rd_T40 l0_4 x8_2).f2.f0.f0), .int .u8 ((rd_T40 l0_4 x8_2).f2.f0.f1), .int .u8 ((rd_T40 l0_4 x8_2).f2.f0.f2), .int .u8 ((rd_T40 l0_4 x8_2).f2.f0.f3), .int .i64 ((rd_T40 l0_4 x8_2).f2.f1), .int .i64 ((rd_T40 l0_4 x8_2).f3), .int .i64 ((rd_T40 l0_4 x8_2).f4), .slice A242_9 ((rd_T40 l0_4 x8_2).f5).length c242_9, .int .i64 ((rd_T40 l0_4 x8_2).f6), .int .i64 ((rd_T40 l0_4 x8_2).f7), .int .i64 0, .int .i64 0]) ?_ 12 _ rfl; (with_reducible repeat (first | refine blk_drewN ?_ _ | refine blk_drew ?_ | refine blk_alloc ?_ _)); refine blk_put (cs := #[.string ((rd_T40 l0_4 x8_2).f0), .string ((rd_T40 l0_4 x8_2).f1), .int .u8 ((rd_T40 l0_4 x8_2).f2.f0.f0), .int .u8 ((rd_T40 l0_4 x8_2).f2.f0.f1), .int .u8 ((rd_T40 l0_4 x8_2).f2.f0.f2), .int .u8 ((rd_T40 l0_4 x8_2).f2.f0.f3), .int .i64 ((rd_T40 l0_4 x8_2).f2.f1), .int .i64 ((rd_T40 l0_4 x8_2).f3), .int .i64 ((rd_T40 l0_4 x8_2).f4), .slice A242_9 ((rd_T40 l0_4 x8_2).f5).length c242_9, .int .i64 ((rd_T40 l0_4 x8_2).f6), .int .i64 0, .int .i64 0, .int .i64 0]) ?_ 11 _ rfl; (with_reducible repeat (first | refine blk_drewN ?_ _ | refine blk_drew ?_ | refine blk_alloc ?_ _)); refine blk_put (cs := #[.string ((rd_T40 l0_4 x8_2).f0), .string ((rd_T40 l0_4 x8_2).f1), .int .u8 ((rd_T40 l0_4 x8_2).f2.f0.f0), .int .u8 ((rd_T40 l0_4 x8_2).f2.f0.f1), .int .u8 ((rd_T40 l0_4 x8_2).f2.f0.f2), .int .u8 ((rd_T40 l0_4 x8_2).f2.f0.f3), .int .i64 ((rd_T40 l0_4 x8_2).f2.f1), .int .i64 ((rd_T40 l0_4 x8_2).f3), .int .i64 ((rd_T40 l0_4 x8_2).f4), .slice A242_9 ((rd_T40 l0_4 x8_2).f5).length c242_9, .int .i64 0, .int .i64 0, .int .i64 0, .int .i64 0]) ?_ 10 _ rfl; (with_reducible repeat (first | refine blk_drewN ?_ _ | refine blk_drew ?_ | refine blk_alloc ?_ _)); refine blk_put (cs := #[.string ((rd_T40 l0_4 x8_2).f0), .string ((rd_T40 l0_4 x8_2).f1), .int .u8 ((rd_T40 l0_4 x8_2).f2.f0.f0), .int .u8 ((rd_T40 l0_4 x8_2).f2.f0.f1), .int .u8 ((rd_T40 l0_4 x8_2).f2.f0.f2), .int .u8 ((rd_T40 l0_4 x8_2).f2.f0.f3), .int .i64 ((rd_T40 l0_4 x8_2).f2.f1), .int .i64 ((rd_T40 l0_4 x8_2).f3), .int .i64 ((rd_T40 l0_4 x8_2).f4), .slice none 0 0, .int .i64 0, .int .i64 0, .int .i64 0, .int .i64 0]) ?_ 9 _ rfl; (with_reducible repeat (first | refine blk_drewN ?_ _ | refine blk_drew ?_ | refine blk_alloc ?_ _)); refine blk_put (cs := #[.string ((rd_T40 l0_4 x8_2).f0), .string ((rd_T40 l0_4 x8_2).f1), .int .u8 ((rd_T40 l0_4 x8_2).f2.f0.f0), .int .u8 ((rd_T40 l0_4 x8_2).f2.f0.f1), .int .u8 ((rd_T40 l0_4 x8_2).f2.f0.f2), .int .u8 ((rd_T40 l0_4 x8_2).f2.f0.f3), .int .i64 ((rd_T40 l0_4 x8_2).f2.f1), .int .i64 ((rd_T40 l0_4 x8_2).f3), .int .i64 0, .slice none 0 0, .int .i64 0, .int .i64 0, .int .i64 0, .int .i64 0]) ?_ 8 _ rfl; (with_reducible repeat (first | refine blk_drewN ?_ _ | refine blk_drew ?_ | refine blk_alloc ?_ _)); refine blk_put (cs := #[.string ((rd_T40 l0_4 x8_2).f0), .string ((rd_T40 l0_4 x8_2).f1), .int .u8 ((rd_T40 l0_4 x8_2).f2.f0.f0), .int .u8 ((rd_T40 l0_4 x8_2).f2.f0.f1), .int .u8 ((rd_T40 l0_4 x8_2).f2.f0.f2), .int .u8 ((rd_T40 l0_4 x8_2).f2.f0.f3), .int .i64 ((rd_T40 l0_4 x8_2).f2.f1), .int .i64 0, .int .i64 0, .slice none 0 0, .int .i64 0, .int .i64 0, .int .i64 0, .int .i64 0]) ?_ 7 _ rfl; (with_reducible repeat (first | refine blk_drewN ?_ _ | refine blk_drew ?_ | refine blk_alloc ?_ _)); refine blk_put (cs := #[.string ((rd_T40 l0_4 x8_2).f0), .string ((rd_T40 l0_4 x8_2).f1), .int .u8 ((rd_T40 l0_4 x8_2).f2.f0.f0), .int .u8 ((rd_T40 l0_4 x8_2).f2.f0.f1), .int .u8 ((rd_T40 l0_4 x8_2).f2.f0.f2), .int .u8 ((rd_T40 l0_4 x8_2).f2.f0.f3), .int .i64 0, .int .i64 0, .int .i64 0, .slice none 0 0, .int .i64 0, .int .i64 0, .int .i64 0, .int .i64 0]) ?_ 6 _ rfl; (with_reducible repeat (first | refine blk_drewN ?_ _ | refine blk_drew ?_ | refine blk_alloc ?_ _)); refine blk_put (cs := #[.string ((rd_T40 l0_4 x8_2).f0), .string ((rd_T40 l0_4 x8_2).f1), .int .u8 ((rd_T40 l0_4 x8_2).f2.f0.f0), .int .u8 ((rd_T40 l0_4 x8_2).f2.f0.f1), .int .u8 ((rd_T40 l0_4 x8_2).f2.f0.f2), .int .u8 0, .int .i64 0, .int .i64 0, .int .i64 0, .slice none 0 0, .int .i64 0, .int .i64 0, .int .i64 0, .int .i64 0]) ?_ 5 _ rfl; (with_reducible repeat (first | refine blk_drewN ?_ _ | refine blk_drew ?_ | refine blk_alloc ?_ _)); refine blk_put (cs := #[.string ((rd_T40 l0_4 x8_2).f0), .string ((rd_T40 l0_4 x8_2).f1), .int .u8 ((rd_T40 l0_4 x8_2).f2.f0.f0), .int .u8 ((rd_T40 l0_4 x8_2).f2.f0.f1), .int .u8 0, .int .u8 0, .int .i64 0, .int .i64 0, .int .i64 0, .slice none 0 0, .int .i64 0, .int .i64 0, .int .i64 0, .int .i64 0]) ?_ 4 _ rfl; (with_reducible repeat (first | refine blk_drewN ?_ _ | refine blk_drew ?_ | refine blk_alloc ?_ _)); refine blk_put (cs := #[.string ((rd_T40 l0_4 x8_2).f0), .string ((rd_T40 l0_4 x8_2).f1), .int .u8 ((rd_T40 l0_4 x8_2).f2.f0.f0), .int .u8 0, .int .u8 0, .int .u8 0, .int .i64 0, .int .i64 0, .int .i64 0, .slice none 0 0, .int .i64 0, .int .i64 0, .int .i64 0, .int .i64 0]) ?_ 3 _ rfl; (with_reducible repeat (first | refine blk_drewN ?_ _ | refine blk_drew ?_ | refine blk_alloc ?_ _)); refine blk_put (cs := #[.string ((rd_T40 l0_4 x8_2).f0), .string ((rd_T40 l0_4 x8_2).f1), .int .u8 0, .int .u8 0, .int .u8 0, .int .u8 0, .int .i64 0, .int .i64 0, .int .i64 0, .slice none 0 0, .int .i64 0, .int .i64 0, .int .i64 0, .int .i64 0]) ?_ 2 _ rfl; (with_reducible repeat (first | refine blk_drewN ?_ _ | refine blk_drew ?_ | refine blk_alloc ?_ _)); refine blk_put (cs := #[.string ((rd_T40 l0_4 x8_2).f0), .string (⟨#[]⟩ : ByteArray), .int .u8 0, .int .u8 0, .int .u8 0, .int .u8 0, .int .i64 0, .int .i64 0, .int .i64 0, .slice none 0 0, .int .i64 0, .int .i64 0, .int .i64 0, .int .i64 0]) ?_ 1 _ rfl; (with_reducible repeat (first | refine blk_drewN ?_ _ | refine blk_drew ?_ | refine blk_alloc ?_ _)); refine blk_put (cs := #[.string (⟨#[]⟩ : ByteArray), .string (⟨#[]⟩ : ByteArray), .int .u8 0, .int .u8 0, .int .u8 0, .int .u8 0, .int .i64 0, .int .i64 0, .int .i64 0, .slice none 0 0, .int .i64 0, .int .i64 0, .int .i64 0, .int .i64 0]) ?_ 0 _ rfl; (with_reducible repeat (first | refine blk_drewN ?_ _ | refine blk_drew ?_ | refine blk_alloc ?_ _)); exact BK243.out⟩, ⟨by repeat (first | (with_reducible first | exact HB.out | apply below_alloc | apply pw_below_drewN | apply below_drew1 | refine below_set ?_ GE238.out | refine below_set ?_ GE243.out) | exact HB.out)⟩⟩
         ·
          rw [if_neg c23] at H
          have c23b0 : decide (((rd_T40 l0_4 x8_2).f3) ≤ a1) = false := decide_eq_false c23
          clear c23
          (first | rw [c23b0] | (simp only [i64_w, i32_w]; rw [c23b0]) | skip)
          have H' := Aside0.mk H
          clear H
          have hnb26 := NB243_238.out
          have hnc26 := NB238_243.out
          have hcz27_0 : w20.cell? ⟨gb243, 0, none⟩ = some (.string (⟨#[]⟩ : ByteArray)) := (blk_cell BK243.out 0).trans rfl
          have hcz27_1 : w20.cell? ⟨gb243, 1, none⟩ = some (.string (⟨#[]⟩ : ByteArray)) := (blk_cell BK243.out 1).trans rfl
          have hcz27_2 : w20.cell? ⟨gb243, 2, none⟩ = some (.int .u8 0) := (blk_cell BK243.out 2).trans rfl
          have hcz27_3 : w20.cell? ⟨gb243, 3, none⟩ = some (.int .u8 0) := (blk_cell BK243.out 3).trans rfl
          have hcz27_4 : w20.cell? ⟨gb243, 4, none⟩ = some (.int .u8 0) := (blk_cell BK243.out 4).trans rfl
          have hcz27_5 : w20.cell? ⟨gb243, 5, none⟩ = some (.int .u8 0) := (blk_cell BK243.out 5).trans rfl
          have hcz27_6 : w20.cell? ⟨gb243, 6, none⟩ = some (.int .i64 0) := (blk_cell BK243.out 6).trans rfl
          have hcz27_7 : w20.cell? ⟨gb243, 7, none⟩ = some (.int .i64 0) := (blk_cell BK243.out 7).trans rfl
          have hcz27_8 : w20.cell? ⟨gb243, 8, none⟩ = some (.int .i64 0) := (blk_cell BK243.out 8).trans rfl
          have hcz27_9 : w20.cell? ⟨gb243, 9, none⟩ = some (.slice none 0 0) := (blk_cell BK243.out 9).trans rfl
          have hcz27_10 : w20.cell? ⟨gb243, 10, none⟩ = some (.int .i64 0) := (blk_cell BK243.out 10).trans rfl
          have hcz27_11 : w20.cell? ⟨gb243, 11, none⟩ = some (.int .i64 0) := (blk_cell BK243.out 11).trans rfl
          have hcz27_12 : w20.cell? ⟨gb243, 12, none⟩ = some (.int .i64 0) := (blk_cell BK243.out 12).trans rfl
          have hcz27_13 : w20.cell? ⟨gb243, 13, none⟩ = some (.int .i64 0) := (blk_cell BK243.out 13).trans rfl
          have hfz27_0 := blk_frozen BK243.out 0
          have hfz27_1 := blk_frozen BK243.out 1
          have hfz27_2 := blk_frozen BK243.out 2
          have hfz27_3 := blk_frozen BK243.out 3
          have hfz27_4 := blk_frozen BK243.out 4
          have hfz27_5 := blk_frozen BK243.out 5
          have hfz27_6 := blk_frozen BK243.out 6
          have hfz27_7 := blk_frozen BK243.out 7
          have hfz27_8 := blk_frozen BK243.out 8
          have hfz27_9 := blk_frozen BK243.out 9
          have hfz27_10 := blk_frozen BK243.out 10
          have hfz27_11 := blk_frozen BK243.out 11
          have hfz27_12 := blk_frozen BK243.out 12
          have hfz27_13 := blk_frozen BK243.out 13
          go_wp2
          repeat (go_quiet (fail); try go_wp2)
          go_meet
          case rel => exact ⟨_, (false), (by first | rfl | (simp; done) | (simp [*]; done)), H', ⟨by have := HJ4.out; have := HK2.out; first | omega | exact Nat.le_refl _⟩, ⟨by (iterate 14 ((with_reducible repeat (first | refine blk_drewN ?_ _ | refine blk_drew ?_ | refine blk_alloc ?_ _)); refine blk_far ?_ NB238_243.out _)); (with_reducible repeat (first | refine blk_drewN ?_ _ | refine blk_drew ?_ | refine blk_alloc ?_ _)); exact BK238.out⟩, ⟨by (with_reducible repeat (first | refine blk_drewN ?_ _ | refine blk_drew ?_ | refine blk_alloc ?_ _)); refine blk_put (cs := #[.string ((rd_T40 l0_4 x8_2).f0), .string ((rd_T40 l0_4 x8_2).f1), .int .u8 ((rd_T40 l0_4 x8_2).f2.f0.f0), .int .u8 ((rd_T40 l0_4 x8_2).f2.f0.f1), .int .u8 ((rd_T40 l0_4 x8_2).f2.f0.f2), .int .u8 ((rd_T40 l0_4 x8_2).f2.f0.f3), .int .i64 ((rd_T40 l0_4 x8_2).f2.f1), .int .i64 ((rd_T40 l0_4 x8_2).f3), .int .i64 ((rd_T40 l0_4 x8_2).f4), .slice A242_9 ((rd_T40 l0_4 x8_2).f5).length c242_9, .int .i64 ((rd_T40 l0_4 x8_2).f6), .int .i64 ((rd_T40 l0_4 x8_2).f7), .int .i64 ((rd_T40 l0_4 x8_2).f8), .int .i64 0]) ?_ 13 _ rfl; (with_reducible repeat (first | refine blk_drewN ?_ _ | refine blk_drew ?_ | refine blk_alloc ?_ _)); refine blk_put (cs := #[.string ((rd_T40 l0_4 x8_2).f0), .string ((rd_T40 l0_4 x8_2).f1), .int .u8 ((rd_T40 l0_4 x8_2).f2.f0.f0), .int .u8 ((rd_T40 l0_4 x8_2).f2.f0.f1), .int .u8 ((rd_T40 l0_4 x8_2).f2.f0.f2), .int .u8 ((rd_T40 l0_4 x8_2).f2.f0.f3), .int .i64 ((rd_T40 l0_4 x8_2).f2.f1), .int .i64 ((rd_T40 l0_4 x8_2).f3), .int .i64 ((rd_T40 l0_4 x8_2).f4), .slice A242_9 ((rd_T40 l0_4 x8_2).f5).length c242_9, .int .i64 ((rd_T40 l0_4 x8_2).f6), .int .i64 ((rd_T40 l0_4 x8_2).f7), .int .i64 0, .int .i64 0]) ?_ 12 _ rfl; (with_reducible repeat (first | refine blk_drewN ?_ _ | refine blk_drew ?_ | refine blk_alloc ?_ _)); refine blk_put (cs := #[.string ((rd_T40 l0_4 x8_2).f0), .string ((rd_T40 l0_4 x8_2).f1), .int .u8 ((rd_T40 l0_4 x8_2).f2.f0.f0), .int .u8 ((rd_T40 l0_4 x8_2).f2.f0.f1), .int .u8 ((rd_T40 l0_4 x8_2).f2.f0.f2), .int .u8 ((rd_T40 l0_4 x8_2).f2.f0.f3), .int .i64 ((rd_T40 l0_4 x8_2).f2.f1), .int .i64 ((rd_T40 l0_4 x8_2).f3), .int .i64 ((rd_T40 l0_4 x8_2).f4), .slice A242_9 ((rd_T40 l0_4 x8_2).f5).length c242_9, .int .i64 ((rd_T40 l0_4 x8_2).f6), .int .i64 0, .int .i64 0, .int .i64 0]) ?_ 11 _ rfl; (with_reducible repeat (first | refine blk_drewN ?_ _ | refine blk_drew ?_ | refine blk_alloc ?_ _)); refine blk_put (cs := #[.string ((rd_T40 l0_4 x8_2).f0), .string ((rd_T40 l0_4 x8_2).f1), .int .u8 ((rd_T40 l0_4 x8_2).f2.f0.f0), .int .u8 ((rd_T40 l0_4 x8_2).f2.f0.f1), .int .u8 ((rd_T40 l0_4 x8_2).f2.f0.f2), .int .u8 ((rd_T40 l0_4 x8_2).f2.f0.f3), .int .i64 ((rd_T40 l0_4 x8_2).f2.f1), .int .i64 ((rd_T40 l0_4 x8_2).f3), .int .i64 ((rd_T40 l0_4 x8_2).f4), .slice A242_9 ((rd_T40 l0_4 x8_2).f5).length c242_9, .int .i64 0, .int .i64 0, .int .i64 0, .int .i64 0]) ?_ 10 _ rfl; (with_reducible repeat (first | refine blk_drewN ?_ _ | refine blk_drew ?_ | refine blk_alloc ?_ _)); refine blk_put (cs := #[.string ((rd_T40 l0_4 x8_2).f0), .string ((rd_T40 l0_4 x8_2).f1), .int .u8 ((rd_T40 l0_4 x8_2).f2.f0.f0), .int .u8 ((rd_T40 l0_4 x8_2).f2.f0.f1), .int .u8 ((rd_T40 l0_4 x8_2).f2.f0.f2), .int .u8 ((rd_T40 l0_4 x8_2).f2.f0.f3), .int .i64 ((rd_T40 l0_4 x8_2).f2.f1), .int .i64 ((rd_T40 l0_4 x8_2).f3), .int .i64 ((rd_T40 l0_4 x8_2).f4), .slice none 0 0, .int .i64 0, .int .i64 0, .int .i64 0, .int .i64 0]) ?_ 9 _ rfl; (with_reducible repeat (first | refine blk_drewN ?_ _ | refine blk_drew ?_ | refine blk_alloc ?_ _)); refine blk_put (cs := #[.string ((rd_T40 l0_4 x8_2).f0), .string ((rd_T40 l0_4 x8_2).f1), .int .u8 ((rd_T40 l0_4 x8_2).f2.f0.f0), .int .u8 ((rd_T40 l0_4 x8_2).f2.f0.f1), .int .u8 ((rd_T40 l0_4 x8_2).f2.f0.f2), .int .u8 ((rd_T40 l0_4 x8_2).f2.f0.f3), .int .i64 ((rd_T40 l0_4 x8_2).f2.f1), .int .i64 ((rd_T40 l0_4 x8_2).f3), .int .i64 0, .slice none 0 0, .int .i64 0, .int .i64 0, .int .i64 0, .int .i64 0]) ?_ 8 _ rfl; (with_reducible repeat (first | refine blk_drewN ?_ _ | refine blk_drew ?_ | refine blk_alloc ?_ _)); refine blk_put (cs := #[.string ((rd_T40 l0_4 x8_2).f0), .string ((rd_T40 l0_4 x8_2).f1), .int .u8 ((rd_T40 l0_4 x8_2).f2.f0.f0), .int .u8 ((rd_T40 l0_4 x8_2).f2.f0.f1), .int .u8 ((rd_T40 l0_4 x8_2).f2.f0.f2), .int .u8 ((rd_T40 l0_4 x8_2).f2.f0.f3), .int .i64 ((rd_T40 l0_4 x8_2).f2.f1), .int .i64 0, .int .i64 0, .slice none 0 0, .int .i64 0, .int .i64 0, .int .i64 0, .int .i64 0]) ?_ 7 _ rfl; (with_reducible repeat (first | refine blk_drewN ?_ _ | refine blk_drew ?_ | refine blk_alloc ?_ _)); refine blk_put (cs := #[.string ((rd_T40 l0_4 x8_2).f0), .string ((rd_T40 l0_4 x8_2).f1), .int .u8 ((rd_T40 l0_4 x8_2).f2.f0.f0), .int .u8 ((rd_T40 l0_4 x8_2).f2.f0.f1), .int .u8 ((rd_T40 l0_4 x8_2).f2.f0.f2), .int .u8 ((rd_T40 l0_4 x8_2).f2.f0.f3), .int .i64 0, .int .i64 0, .int .i64 0, .slice none 0 0, .int .i64 0, .int .i64 0, .int .i64 0, .int .i64 0]) ?_ 6 _ rfl; (with_reducible repeat (first | refine blk_drewN ?_ _ | refine blk_drew ?_ | refine blk_alloc ?_ _)); refine blk_put (cs := #[.string ((rd_T40 l0_4 x8_2).f0), .string ((rd_T40 l0_4 x8_2).f1), .int .u8 ((rd_T40 l0_4 x8_2).f2.f0.f0), .int .u8 ((rd_T40 l0_4 x8_2).f2.f0.f1), .int .u8 ((rd_T40 l0_4 x8_2).f2.f0.f2), .int .u8 0, .int .i64 0, .int .i64 0, .int .i64 0, .slice none 0 0, .int .i64 0, .int .i64 0, .int .i64 0, .int .i64 0]) ?_ 5 _ rfl; (with_reducible repeat (first | refine blk_drewN ?_ _ | refine blk_drew ?_ | refine blk_alloc ?_ _)); refine blk_put (cs := #[.string ((rd_T40 l0_4 x8_2).f0), .string ((rd_T40 l0_4 x8_2).f1), .int .u8 ((rd_T40 l0_4 x8_2).f2.f0.f0), .int .u8 ((rd_T40 l0_4 x8_2).f2.f0.f1), .int .u8 0, .int .u8 0, .int .i64 0, .int .i64 0, .int .i64 0, .slice none 0 0, .int .i64 0, .int .i64 0, .int .i64 0, .int .i64 0]) ?_ 4 _ rfl; (with_reducible repeat (first | refine blk_drewN ?_ _ | refine blk_drew ?_ | refine blk_alloc ?_ _)); refine blk_put (cs := #[.string ((rd_T40 l0_4 x8_2).f0), .string ((rd_T40 l0_4 x8_2).f1), .int .u8 ((rd_T40 l0_4 x8_2).f2.f0.f0), .int .u8 0, .int .u8 0, .int .u8 0, .int .i64 0, .int .i64 0, .int .i64 0, .slice none 0 0, .int .i64 0, .int .i64 0, .int .i64 0, .int .i64 0]) ?_ 3 _ rfl; (with_reducible repeat (first | refine blk_drewN ?_ _ | refine blk_drew ?_ | refine blk_alloc ?_ _)); refine blk_put (cs := #[.string ((rd_T40 l0_4 x8_2).f0), .string ((rd_T40 l0_4 x8_2).f1), .int .u8 0, .int .u8 0, .int .u8 0, .int .u8 0, .int .i64 0, .int .i64 0, .int .i64 0, .slice none 0 0, .int .i64 0, .int .i64 0, .int .i64 0, .int .i64 0]) ?_ 2 _ rfl; (with_reducible repeat (first | refine blk_drewN ?_ _ | refine blk_drew ?_ | refine blk_alloc ?_ _)); refine blk_put (cs := #[.string ((rd_T40 l0_4 x8_2).f0), .string (⟨#[]⟩ : ByteArray), .int .u8 0, .int .u8 0, .int .u8 0, .int .u8 0, .int .i64 0, .int .i64 0, .int .i64 0, .slice none 0 0, .int .i64 0, .int .i64 0, .int .i64 0, .int .i64 0]) ?_ 1 _ rfl; (with_reducible repeat (first | refine blk_drewN ?_ _ | refine blk_drew ?_ | refine blk_alloc ?_ _)); refine blk_put (cs := #[.string (⟨#[]⟩ : ByteArray), .string (⟨#[]⟩ : ByteArray), .int .u8 0, .int .u8 0, .int .u8 0, .int .u8 0, .int .i64 0, .int .i64 0, .int .i64 0, .slice none 0 0, .int .i64 0, .int .i64 0, .int .i64 0, .int .i64 0]) ?_ 0 _ rfl; (with_reducible repeat (first | refine blk_drewN ?_ _ | refine blk_drew ?_ | refine blk_alloc ?_ _)); exact BK243.out⟩, ⟨by repeat (first | (with_reducible first | exact HB.out | apply below_alloc | apply pw_below_drewN | apply below_drew1 | refine below_set ?_ GE238.out | refine below_set ?_ GE243.out) | exact HB.out)⟩⟩
        case rest =>
         clear HC18
         try clear c1
         try clear c2
         try clear p2
         try clear q2
         try clear hx2
         try clear c5
         try clear c10
         try clear c11
         try clear c15
         try clear c16
         try clear c16b0
         try clear c17
         try clear c17b0
         try clear c21
         try clear c23
         try clear c23b0
         try clear c24
         try clear p24
         try clear q24
         try clear hx24
         try clear c26
         try clear hcz13_0
         try clear hcz13_1
         try clear hcz13_2
         try clear hcz13_3
         try clear hcz13_4
         try clear hcz13_5
         try clear hcz13_6
         try clear hcz13_7
         try clear hcz13_8
         try clear hcz19_0
         try clear hcz19_1
         try clear hcz19_2
         try clear hcz19_3
         try clear hcz19_4
         try clear hcz19_5
         try clear hcz19_6
         try clear hcz19_7
         try clear hcz19_8
         try clear hcz22_0
         try clear hcz22_1
         try clear hcz22_10
         try clear hcz22_11
         try clear hcz22_12
         try clear hcz22_13
         try clear hcz22_2
         try clear hcz22_3
         try clear hcz22_4
         try clear hcz22_5
         try clear hcz22_6
         try clear hcz22_7
         try clear hcz22_8
         try clear hcz22_9
         try clear hcz25_0
         try clear hcz25_1
         try clear hcz25_10
         try clear hcz25_11
         try clear hcz25_12
         try clear hcz25_13
         try clear hcz25_2
         try clear hcz25_3
         try clear hcz25_4
         try clear hcz25_5
         try clear hcz25_6
         try clear hcz25_7
         try clear hcz25_8
         try clear hcz25_9
         try clear hcz27_0
         try clear hcz27_1
         try clear hcz27_10
         try clear hcz27_11
         try clear hcz27_12
         try clear hcz27_13
         try clear hcz27_2
         try clear hcz27_3
         try clear hcz27_4
         try clear hcz27_5
         try clear hcz27_6
         try clear hcz27_7
         try clear hcz27_8
         try clear hcz27_9
         try clear hcz8_0
         try clear hcz8_1
         try clear hcz8_2
         try clear hcz8_3
         try clear hcz8_4
         try clear hcz8_5
         try clear hcz8_6
         try clear hcz8_7
         try clear hcz8_8
         try clear hfz13_0
         try clear hfz13_1
         try clear hfz13_2
         try clear hfz13_3
         try clear hfz13_4
         try clear hfz13_5
         try clear hfz13_6
         try clear hfz13_7
         try clear hfz13_8
         try clear hfz19_0
         try clear hfz19_1
         try clear hfz19_2
         try clear hfz19_3
         try clear hfz19_4
         try clear hfz19_5
         try clear hfz19_6
         try clear hfz19_7
         try clear hfz19_8
         try clear hfz22_0
         try clear hfz22_1
         try clear hfz22_10
         try clear hfz22_11
         try clear hfz22_12
         try clear hfz22_13
         try clear hfz22_2
         try clear hfz22_3
         try clear hfz22_4
         try clear hfz22_5
         try clear hfz22_6
         try clear hfz22_7
         try clear hfz22_8
         try clear hfz22_9
         try clear hfz25_0
         try clear hfz25_1
         try clear hfz25_10
         try clear hfz25_11
         try clear hfz25_12
         try clear hfz25_13
         try clear hfz25_2
         try clear hfz25_3
         try clear hfz25_4
         try clear hfz25_5
         try clear hfz25_6
         try clear hfz25_7
         try clear hfz25_8
         try clear hfz25_9
         try clear hfz27_0
         try clear hfz27_1
         try clear hfz27_10
         try clear hfz27_11
         try clear hfz27_12
         try clear hfz27_13
         try clear hfz27_2
         try clear hfz27_3
         try clear hfz27_4
         try clear hfz27_5
         try clear hfz27_6
         try clear hfz27_7
         try clear hfz27_8
         try clear hfz27_9
         try clear hfz8_0
         try clear hfz8_1
         try clear hfz8_2
         try clear hfz8_3
         try clear hfz8_4
         try clear hfz8_5
         try clear hfz8_6
         try clear hfz8_7
         try clear hfz8_8
         try clear hx242_0
         try clear hx242_1
         try clear hx242_10
         try clear hx242_11
         try clear hx242_12
         try clear hx242_13
         try clear hx242_2
         try clear hx242_3
         try clear hx242_4
         try clear hx242_5
         try clear hx242_6
         try clear hx242_7
         try clear hx242_8
         try clear hx242_9
         try clear p2
         try clear p242
         try clear q242
         obtain ⟨kq, x47_17, rfl, HA, HJ17, BK238, BK243, HB⟩ := hcut
         cases kq with
         | zero => exact absurd HA.out (by simp [wharfingerlaw13_ConfApart.j2])
         | succ kj17 =>
          have H := HA.out
          clear HA
          simp only [wharfingerlaw13_ConfApart.j2] at H
          have HC28 := Aside0.mk H
          clear H
          go_upto_if 47 with (fail)
          repeat (go_quiet (fail); go_upto_if 47 with (fail))
          go_cut [7] (fun v7 wc => ∃ (kq : Nat) (x7_27 : Int), v7 = .int .i64 x7_27 ∧ Aside0 (wharfingerlaw13_ConfApart.j3 kq a1 x7_27 x8_2 a0_0 a0_1 a0_2 a0_3 l0_4 a0_5 a0_6 a0_7 a0_8 ((rd_T40 l0_4 x8_2).f0) ((rd_T40 l0_4 x8_2).f1) ((rd_T40 l0_4 x8_2).f2.f0.f0) ((rd_T40 l0_4 x8_2).f2.f0.f1) ((rd_T40 l0_4 x8_2).f2.f0.f2) ((rd_T40 l0_4 x8_2).f2.f0.f3) ((rd_T40 l0_4 x8_2).f2.f1) ((rd_T40 l0_4 x8_2).f3) ((rd_T40 l0_4 x8_2).f4) ((rd_T40 l0_4 x8_2).f5) ((rd_T40 l0_4 x8_2).f6) ((rd_T40 l0_4 x8_2).f7) ((rd_T40 l0_4 x8_2).f8) ((rd_T40 l0_4 x8_2).f9) = some r) ∧ Aside0 (kq ≤ kj17) ∧ Aside0 (wc.heap[gb238]? = some (.cells #[.int .u8 a0_0, .int .u8 a0_1, .int .u8 a0_2, .int .u8 a0_3, (.slice (some ad242) l0_4.length c0_4), .int .i64 a0_5, .int .i64 a0_6, .int .i64 a0_7, .bool a0_8] 26 (0, 0))) ∧ Aside0 (wc.heap[gb243]? = some (.cells #[.string ((rd_T40 l0_4 x8_2).f0), .string ((rd_T40 l0_4 x8_2).f1), .int .u8 ((rd_T40 l0_4 x8_2).f2.f0.f0), .int .u8 ((rd_T40 l0_4 x8_2).f2.f0.f1), .int .u8 ((rd_T40 l0_4 x8_2).f2.f0.f2), .int .u8 ((rd_T40 l0_4 x8_2).f2.f0.f3), .int .i64 ((rd_T40 l0_4 x8_2).f2.f1), .int .i64 ((rd_T40 l0_4 x8_2).f3), .int .i64 ((rd_T40 l0_4 x8_2).f4), (.slice A242_9 ((rd_T40 l0_4 x8_2).f5).length c242_9), .int .i64 ((rd_T40 l0_4 x8_2).f6), .int .i64 ((rd_T40 l0_4 x8_2).f7), .int .i64 ((rd_T40 l0_4 x8_2).f8), .int .i64 ((rd_T40 l0_4 x8_2).f9)] 40 (0, 0))) ∧ Aside0 (Below w.heap.size w wc))
          case first =>
           have H := HC28.out
           clear HC28
           by_cases c29 : x47_17 = true
           ·
            subst c29
            have H1 : (wharfingerlaw13_ConfApart.j3 kj17 a1 (wrap64 (x7_2 + 1)) x8_2 a0_0 a0_1 a0_2 a0_3 l0_4 a0_5 a0_6 a0_7 a0_8 ((rd_T40 l0_4 x8_2).f0) ((rd_T40 l0_4 x8_2).f1) ((rd_T40 l0_4 x8_2).f2.f0.f0) ((rd_T40 l0_4 x8_2).f2.f0.f1) ((rd_T40 l0_4 x8_2).f2.f0.f2) ((rd_T40 l0_4 x8_2).f2.f0.f3) ((rd_T40 l0_4 x8_2).f2.f1) ((rd_T40 l0_4 x8_2).f3) ((rd_T40 l0_4 x8_2).f4) ((rd_T40 l0_4 x8_2).f5) ((rd_T40 l0_4 x8_2).f6) ((rd_T40 l0_4 x8_2).f7) ((rd_T40 l0_4 x8_2).f8) ((rd_T40 l0_4 x8_2).f9)) = some r := by rw [if_pos rfl] at H; exact H
            clear H
            have H := H1
            clear H1
            have H' := Aside0.mk H
            clear H
            go_wp2
            repeat (go_quiet (fail); try go_wp2)
            go_meet
            case rel => exact ⟨_, (wrap64 (x7_2 + 1)), (by first | rfl | (simp; done) | (simp [*]; done)), H', ⟨by have := HJ4.out; have := HK2.out; have := HJ17.out; first | omega | exact Nat.le_refl _⟩, ⟨by (with_reducible repeat (first | refine blk_drewN ?_ _ | refine blk_drew ?_ | refine blk_alloc ?_ _)); exact BK238.out⟩, ⟨by (with_reducible repeat (first | refine blk_drewN ?_ _ | refine blk_drew ?_ | refine blk_alloc ?_ _)); exact BK243.out⟩, ⟨by repeat (first | (with_reducible first | exact HB.out | apply below_alloc | apply pw_below_drewN | apply below_drew1 | refine below_set ?_ GE238.out | refine below_set ?_ GE243.out) | exact HB.out)⟩⟩
           ·
            replace c29 := Bool.eq_false_iff.mpr c29
            subst c29
            have H1 : (wharfingerlaw13_ConfApart.j3 kj17 a1 x7_2 x8_2 a0_0 a0_1 a0_2 a0_3 l0_4 a0_5 a0_6 a0_7 a0_8 ((rd_T40 l0_4 x8_2).f0) ((rd_T40 l0_4 x8_2).f1) ((rd_T40 l0_4 x8_2).f2.f0.f0) ((rd_T40 l0_4 x8_2).f2.f0.f1) ((rd_T40 l0_4 x8_2).f2.f0.f2) ((rd_T40 l0_4 x8_2).f2.f0.f3) ((rd_T40 l0_4 x8_2).f2.f1) ((rd_T40 l0_4 x8_2).f3) ((rd_T40 l0_4 x8_2).f4) ((rd_T40 l0_4 x8_2).f5) ((rd_T40 l0_4 x8_2).f6) ((rd_T40 l0_4 x8_2).f7) ((rd_T40 l0_4 x8_2).f8) ((rd_T40 l0_4 x8_2).f9)) = some r := by rw [if_neg (show ¬ (false = true) by decide)] at H; exact H
            clear H
            have H := H1
            clear H1
            have H' := Aside0.mk H
            clear H
            go_wp2
            repeat (go_quiet (fail); try go_wp2)
            go_meet
            case rel => exact ⟨_, (x7_2), (by first | rfl | (simp; done) | (simp [*]; done)), H', ⟨by have := HJ4.out; have := HK2.out; have := HJ17.out; first | omega | exact Nat.le_refl _⟩, ⟨by (with_reducible repeat (first | refine blk_drewN ?_ _ | refine blk_drew ?_ | refine blk_alloc ?_ _)); exact BK238.out⟩, ⟨by (with_reducible repeat (first | refine blk_drewN ?_ _ | refine blk_drew ?_ | refine blk_alloc ?_ _)); exact BK243.out⟩, ⟨by repeat (first | (with_reducible first | exact HB.out | apply below_alloc | apply pw_below_drewN | apply below_drew1 | refine below_set ?_ GE238.out | refine below_set ?_ GE243.out) | exact HB.out)⟩⟩
          case rest =>
           clear HC28
           try clear c1
           try clear c2
           try clear p2
           try clear q2
           try clear hx2
           try clear c5
           try clear p6
           try clear c10
           try clear c11
           try clear c15
           try clear c16
           try clear c16b0
           try clear c17
           try clear c17b0
           try clear c21
           try clear c23
           try clear c23b0
           try clear c24
           try clear p24
           try clear q24
           try clear hx24
           try clear c26
           try clear c29
           try clear hcz13_0
           try clear hcz13_1
           try clear hcz13_2
           try clear hcz13_3
           try clear hcz13_4
           try clear hcz13_5
           try clear hcz13_6
           try clear hcz13_7
           try clear hcz13_8
           try clear hcz19_0
           try clear hcz19_1
           try clear hcz19_2
           try clear hcz19_3
           try clear hcz19_4
           try clear hcz19_5
           try clear hcz19_6
           try clear hcz19_7
           try clear hcz19_8
           try clear hcz22_0
           try clear hcz22_1
           try clear hcz22_10
           try clear hcz22_11
           try clear hcz22_12
           try clear hcz22_13
           try clear hcz22_2
           try clear hcz22_3
           try clear hcz22_4
           try clear hcz22_5
           try clear hcz22_6
           try clear hcz22_7
           try clear hcz22_8
           try clear hcz22_9
           try clear hcz25_0
           try clear hcz25_1
           try clear hcz25_10
           try clear hcz25_11
           try clear hcz25_12
           try clear hcz25_13
           try clear hcz25_2
           try clear hcz25_3
           try clear hcz25_4
           try clear hcz25_5
           try clear hcz25_6
           try clear hcz25_7
           try clear hcz25_8
           try clear hcz25_9
           try clear hcz27_0
           try clear hcz27_1
           try clear hcz27_10
           try clear hcz27_11
           try clear hcz27_12
           try clear hcz27_13
           try clear hcz27_2
           try clear hcz27_3
           try clear hcz27_4
           try clear hcz27_5
           try clear hcz27_6
           try clear hcz27_7
           try clear hcz27_8
           try clear hcz27_9
           try clear hcz8_0
           try clear hcz8_1
           try clear hcz8_2
           try clear hcz8_3
           try clear hcz8_4
           try clear hcz8_5
           try clear hcz8_6
           try clear hcz8_7
           try clear hcz8_8
           try clear hfz13_0
           try clear hfz13_1
           try clear hfz13_2
           try clear hfz13_3
           try clear hfz13_4
           try clear hfz13_5
           try clear hfz13_6
           try clear hfz13_7
           try clear hfz13_8
           try clear hfz19_0
           try clear hfz19_1
           try clear hfz19_2
           try clear hfz19_3
           try clear hfz19_4
           try clear hfz19_5
           try clear hfz19_6
           try clear hfz19_7
           try clear hfz19_8
           try clear hfz22_0
           try clear hfz22_1
           try clear hfz22_10
           try clear hfz22_11
           try clear hfz22_12
           try clear hfz22_13
           try clear hfz22_2
           try clear hfz22_3
           try clear hfz22_4
           try clear hfz22_5
           try clear hfz22_6
           try clear hfz22_7
           try clear hfz22_8
           try clear hfz22_9
           try clear hfz25_0
           try clear hfz25_1
           try clear hfz25_10
           try clear hfz25_11
           try clear hfz25_12
           try clear hfz25_13
           try clear hfz25_2
           try clear hfz25_3
           try clear hfz25_4
           try clear hfz25_5
           try clear hfz25_6
           try clear hfz25_7
           try clear hfz25_8
           try clear hfz25_9
           try clear hfz27_0
           try clear hfz27_1
           try clear hfz27_10
           try clear hfz27_11
           try clear hfz27_12
           try clear hfz27_13
           try clear hfz27_2
           try clear hfz27_3
           try clear hfz27_4
           try clear hfz27_5
           try clear hfz27_6
           try clear hfz27_7
           try clear hfz27_8
           try clear hfz27_9
           try clear hfz8_0
           try clear hfz8_1
           try clear hfz8_2
           try clear hfz8_3
           try clear hfz8_4
           try clear hfz8_5
           try clear hfz8_6
           try clear hfz8_7
           try clear hfz8_8
           try clear hx242_0
           try clear hx242_1
           try clear hx242_10
           try clear hx242_11
           try clear hx242_12
           try clear hx242_13
           try clear hx242_2
           try clear hx242_3
           try clear hx242_4
           try clear hx242_5
           try clear hx242_6
           try clear hx242_7
           try clear hx242_8
           try clear hx242_9
           try clear p2
           try clear p24
           try clear p242
           try clear q2
           try clear q24
           try clear q242
           obtain ⟨kq, x7_27, rfl, HA, HJ27, BK238, BK243, HB⟩ := hcut
           cases kq with
           | zero => exact absurd HA.out (by simp [wharfingerlaw13_ConfApart.j3])
           | succ kj27 =>
            have H := HA.out
            clear HA
            simp only [wharfingerlaw13_ConfApart.j3] at H
            have HC30 := Aside0.mk H
            clear H
            go_upto_region 12 with (fail)
            repeat (go_quiet (fail); go_upto_region 12 with (fail))
            go_cut [74] (fun v74 wc => ∃ (kq : Nat) (x74_29 : Bool), v74 = .bool x74_29 ∧ Aside0 (wharfingerlaw13_ConfApart.j4 kq a1 x7_27 x8_2 x74_29 a0_0 a0_1 a0_2 a0_3 l0_4 a0_5 a0_6 a0_7 a0_8 ((rd_T40 l0_4 x8_2).f0) ((rd_T40 l0_4 x8_2).f1) ((rd_T40 l0_4 x8_2).f2.f0.f0) ((rd_T40 l0_4 x8_2).f2.f0.f1) ((rd_T40 l0_4 x8_2).f2.f0.f2) ((rd_T40 l0_4 x8_2).f2.f0.f3) ((rd_T40 l0_4 x8_2).f2.f1) ((rd_T40 l0_4 x8_2).f3) ((rd_T40 l0_4 x8_2).f4) ((rd_T40 l0_4 x8_2).f5) ((rd_T40 l0_4 x8_2).f6) ((rd_T40 l0_4 x8_2).f7) ((rd_T40 l0_4 x8_2).f8) ((rd_T40 l0_4 x8_2).f9) = some r) ∧ Aside0 (kq ≤ kj27) ∧ Aside0 (wc.heap[gb238]? = some (.cells #[.int .u8 a0_0, .int .u8 a0_1, .int .u8 a0_2, .int .u8 a0_3, (.slice (some ad242) l0_4.length c0_4), .int .i64 a0_5, .int .i64 a0_6, .int .i64 a0_7, .bool a0_8] 26 (0, 0))) ∧ Aside0 (wc.heap[gb243]? = some (.cells #[.string ((rd_T40 l0_4 x8_2).f0), .string ((rd_T40 l0_4 x8_2).f1), .int .u8 ((rd_T40 l0_4 x8_2).f2.f0.f0), .int .u8 ((rd_T40 l0_4 x8_2).f2.f0.f1), .int .u8 ((rd_T40 l0_4 x8_2).f2.f0.f2), .int .u8 ((rd_T40 l0_4 x8_2).f2.f0.f3), .int .i64 ((rd_T40 l0_4 x8_2).f2.f1), .int .i64 ((rd_T40 l0_4 x8_2).f3), .int .i64 ((rd_T40 l0_4 x8_2).f4), (.slice A242_9 ((rd_T40 l0_4 x8_2).f5).length c242_9), .int .i64 ((rd_T40 l0_4 x8_2).f6), .int .i64 ((rd_T40 l0_4 x8_2).f7), .int .i64 ((rd_T40 l0_4 x8_2).f8), .int .i64 ((rd_T40 l0_4 x8_2).f9)] 40 (0, 0))) ∧ Aside0 (Below w.heap.size w wc))
            case first =>
             have H := HC30.out
             clear HC30
             by_cases c31 : ((rd_T40 l0_4 x8_2).f3) < 1024
             ·
              rw [if_pos c31] at H
              have c31b0 : decide (((rd_T40 l0_4 x8_2).f3) < 1024) = true := decide_eq_true c31
              clear c31
              (first | rw [c31b0] | (simp only [i64_w, i32_w]; rw [c31b0]) | skip)
              have H' := Aside0.mk H
              clear H
              have hnb32 := NB243_238.out
              have hnc32 := NB238_243.out
              have hcz33_0 : wc.cell? ⟨gb243, 0, none⟩ = some (.string ((rd_T40 l0_4 x8_2).f0)) := (blk_cell BK243.out 0).trans rfl
              have hcz33_1 : wc.cell? ⟨gb243, 1, none⟩ = some (.string ((rd_T40 l0_4 x8_2).f1)) := (blk_cell BK243.out 1).trans rfl
              have hcz33_2 : wc.cell? ⟨gb243, 2, none⟩ = some (.int .u8 ((rd_T40 l0_4 x8_2).f2.f0.f0)) := (blk_cell BK243.out 2).trans rfl
              have hcz33_3 : wc.cell? ⟨gb243, 3, none⟩ = some (.int .u8 ((rd_T40 l0_4 x8_2).f2.f0.f1)) := (blk_cell BK243.out 3).trans rfl
              have hcz33_4 : wc.cell? ⟨gb243, 4, none⟩ = some (.int .u8 ((rd_T40 l0_4 x8_2).f2.f0.f2)) := (blk_cell BK243.out 4).trans rfl
              have hcz33_5 : wc.cell? ⟨gb243, 5, none⟩ = some (.int .u8 ((rd_T40 l0_4 x8_2).f2.f0.f3)) := (blk_cell BK243.out 5).trans rfl
              have hcz33_6 : wc.cell? ⟨gb243, 6, none⟩ = some (.int .i64 ((rd_T40 l0_4 x8_2).f2.f1)) := (blk_cell BK243.out 6).trans rfl
              have hcz33_7 : wc.cell? ⟨gb243, 7, none⟩ = some (.int .i64 ((rd_T40 l0_4 x8_2).f3)) := (blk_cell BK243.out 7).trans rfl
              have hcz33_8 : wc.cell? ⟨gb243, 8, none⟩ = some (.int .i64 ((rd_T40 l0_4 x8_2).f4)) := (blk_cell BK243.out 8).trans rfl
              have hcz33_9 : wc.cell? ⟨gb243, 9, none⟩ = some (.slice A242_9 ((rd_T40 l0_4 x8_2).f5).length c242_9) := (blk_cell BK243.out 9).trans rfl
              have hcz33_10 : wc.cell? ⟨gb243, 10, none⟩ = some (.int .i64 ((rd_T40 l0_4 x8_2).f6)) := (blk_cell BK243.out 10).trans rfl
              have hcz33_11 : wc.cell? ⟨gb243, 11, none⟩ = some (.int .i64 ((rd_T40 l0_4 x8_2).f7)) := (blk_cell BK243.out 11).trans rfl
              have hcz33_12 : wc.cell? ⟨gb243, 12, none⟩ = some (.int .i64 ((rd_T40 l0_4 x8_2).f8)) := (blk_cell BK243.out 12).trans rfl
              have hcz33_13 : wc.cell? ⟨gb243, 13, none⟩ = some (.int .i64 ((rd_T40 l0_4 x8_2).f9)) := (blk_cell BK243.out 13).trans rfl
              have hfz33_0 := blk_frozen BK243.out 0
              have hfz33_1 := blk_frozen BK243.out 1
              have hfz33_2 := blk_frozen BK243.out 2
              have hfz33_3 := blk_frozen BK243.out 3
              have hfz33_4 := blk_frozen BK243.out 4
              have hfz33_5 := blk_frozen BK243.out 5
              have hfz33_6 := blk_frozen BK243.out 6
              have hfz33_7 := blk_frozen BK243.out 7
              have hfz33_8 := blk_frozen BK243.out 8
              have hfz33_9 := blk_frozen BK243.out 9
              have hfz33_10 := blk_frozen BK243.out 10
              have hfz33_11 := blk_frozen BK243.out 11
              have hfz33_12 := blk_frozen BK243.out 12
              have hfz33_13 := blk_frozen BK243.out 13
              go_wp2
              repeat (go_quiet (fail); try go_wp2)
              go_meet
              case rel => exact ⟨_, (true), (by first | rfl | (simp; done) | (simp [*]; done)), H', ⟨by have := HJ4.out; have := HK2.out; have := HJ17.out; have := HJ27.out; first | omega | exact Nat.le_refl _⟩, ⟨by (with_reducible repeat (first | refine blk_drewN ?_ _ | refine blk_drew ?_ | refine blk_alloc ?_ _)); exact BK238.out⟩, ⟨by (with_reducible repeat (first | refine blk_drewN ?_ _ | refine blk_drew ?_ | refine blk_alloc ?_ _)); exact BK243.out⟩, ⟨by repeat (first | (with_reducible first | exact HB.out | apply below_alloc | apply pw_below_drewN | apply below_drew1 | refine below_set ?_ GE238.out | refine below_set ?_ GE243.out) | exact HB.out)⟩⟩
             ·
              rw [if_neg c31] at H
              have c31b0 : decide (((rd_T40 l0_4 x8_2).f3) < 1024) = false := decide_eq_false c31
              clear c31
              (first | rw [c31b0] | (simp only [i64_w, i32_w]; rw [c31b0]) | skip)
              by_cases c34 : ((rd_T40 l0_4 x8_2).f4) > 65535
              ·
               rw [if_pos c34] at H
               have c34b0 : decide (65535 < ((rd_T40 l0_4 x8_2).f4)) = true := decide_eq_true c34
               clear c34
               have H' := Aside0.mk H
               clear H
               have hnb35 := NB243_238.out
               have hnc35 := NB238_243.out
               have hcz36_0 : wc.cell? ⟨gb243, 0, none⟩ = some (.string ((rd_T40 l0_4 x8_2).f0)) := (blk_cell BK243.out 0).trans rfl
               have hcz36_1 : wc.cell? ⟨gb243, 1, none⟩ = some (.string ((rd_T40 l0_4 x8_2).f1)) := (blk_cell BK243.out 1).trans rfl
               have hcz36_2 : wc.cell? ⟨gb243, 2, none⟩ = some (.int .u8 ((rd_T40 l0_4 x8_2).f2.f0.f0)) := (blk_cell BK243.out 2).trans rfl
               have hcz36_3 : wc.cell? ⟨gb243, 3, none⟩ = some (.int .u8 ((rd_T40 l0_4 x8_2).f2.f0.f1)) := (blk_cell BK243.out 3).trans rfl
               have hcz36_4 : wc.cell? ⟨gb243, 4, none⟩ = some (.int .u8 ((rd_T40 l0_4 x8_2).f2.f0.f2)) := (blk_cell BK243.out 4).trans rfl
               have hcz36_5 : wc.cell? ⟨gb243, 5, none⟩ = some (.int .u8 ((rd_T40 l0_4 x8_2).f2.f0.f3)) := (blk_cell BK243.out 5).trans rfl
               have hcz36_6 : wc.cell? ⟨gb243, 6, none⟩ = some (.int .i64 ((rd_T40 l0_4 x8_2).f2.f1)) := (blk_cell BK243.out 6).trans rfl
               have hcz36_7 : wc.cell? ⟨gb243, 7, none⟩ = some (.int .i64 ((rd_T40 l0_4 x8_2).f3)) := (blk_cell BK243.out 7).trans rfl
               have hcz36_8 : wc.cell? ⟨gb243, 8, none⟩ = some (.int .i64 ((rd_T40 l0_4 x8_2).f4)) := (blk_cell BK243.out 8).trans rfl
               have hcz36_9 : wc.cell? ⟨gb243, 9, none⟩ = some (.slice A242_9 ((rd_T40 l0_4 x8_2).f5).length c242_9) := (blk_cell BK243.out 9).trans rfl
               have hcz36_10 : wc.cell? ⟨gb243, 10, none⟩ = some (.int .i64 ((rd_T40 l0_4 x8_2).f6)) := (blk_cell BK243.out 10).trans rfl
               have hcz36_11 : wc.cell? ⟨gb243, 11, none⟩ = some (.int .i64 ((rd_T40 l0_4 x8_2).f7)) := (blk_cell BK243.out 11).trans rfl
               have hcz36_12 : wc.cell? ⟨gb243, 12, none⟩ = some (.int .i64 ((rd_T40 l0_4 x8_2).f8)) := (blk_cell BK243.out 12).trans rfl
               have hcz36_13 : wc.cell? ⟨gb243, 13, none⟩ = some (.int .i64 ((rd_T40 l0_4 x8_2).f9)) := (blk_cell BK243.out 13).trans rfl
               have hfz36_0 := blk_frozen BK243.out 0
               have hfz36_1 := blk_frozen BK243.out 1
               have hfz36_2 := blk_frozen BK243.out 2
               have hfz36_3 := blk_frozen BK243.out 3
               have hfz36_4 := blk_frozen BK243.out 4
               have hfz36_5 := blk_frozen BK243.out 5
               have hfz36_6 := blk_frozen BK243.out 6
               have hfz36_7 := blk_frozen BK243.out 7
               have hfz36_8 := blk_frozen BK243.out 8
               have hfz36_9 := blk_frozen BK243.out 9
               have hfz36_10 := blk_frozen BK243.out 10
               have hfz36_11 := blk_frozen BK243.out 11
               have hfz36_12 := blk_frozen BK243.out 12
               have hfz36_13 := blk_frozen BK243.out 13
               go_wp2
               repeat (go_quiet (fail); try go_wp2)
               go_meet
               case rel => exact ⟨_, (true), (by first | rfl | (simp; done) | (simp [*]; done)), H', ⟨by have := HJ4.out; have := HK2.out; have := HJ17.out; have := HJ27.out; first | omega | exact Nat.le_refl _⟩, ⟨by (with_reducible repeat (first | refine blk_drewN ?_ _ | refine blk_drew ?_ | refine blk_alloc ?_ _)); exact BK238.out⟩, ⟨by (with_reducible repeat (first | refine blk_drewN ?_ _ | refine blk_drew ?_ | refine blk_alloc ?_ _)); exact BK243.out⟩, ⟨by repeat (first | (with_reducible first | exact HB.out | apply below_alloc | apply pw_below_drewN | apply below_drew1 | refine below_set ?_ GE238.out | refine below_set ?_ GE243.out) | exact HB.out)⟩⟩
              ·
               rw [if_neg c34] at H
               have c34b0 : decide (65535 < ((rd_T40 l0_4 x8_2).f4)) = false := decide_eq_false c34
               clear c34
               by_cases c37 : ((rd_T40 l0_4 x8_2).f3) > ((rd_T40 l0_4 x8_2).f4)
               ·
                rw [if_pos c37] at H
                have c37b0 : decide (((rd_T40 l0_4 x8_2).f4) < ((rd_T40 l0_4 x8_2).f3)) = true := decide_eq_true c37
                clear c37
                have H' := Aside0.mk H
                clear H
                have hnb38 := NB243_238.out
                have hnc38 := NB238_243.out
                have hcz39_0 : wc.cell? ⟨gb243, 0, none⟩ = some (.string ((rd_T40 l0_4 x8_2).f0)) := (blk_cell BK243.out 0).trans rfl
                have hcz39_1 : wc.cell? ⟨gb243, 1, none⟩ = some (.string ((rd_T40 l0_4 x8_2).f1)) := (blk_cell BK243.out 1).trans rfl
                have hcz39_2 : wc.cell? ⟨gb243, 2, none⟩ = some (.int .u8 ((rd_T40 l0_4 x8_2).f2.f0.f0)) := (blk_cell BK243.out 2).trans rfl
                have hcz39_3 : wc.cell? ⟨gb243, 3, none⟩ = some (.int .u8 ((rd_T40 l0_4 x8_2).f2.f0.f1)) := (blk_cell BK243.out 3).trans rfl
                have hcz39_4 : wc.cell? ⟨gb243, 4, none⟩ = some (.int .u8 ((rd_T40 l0_4 x8_2).f2.f0.f2)) := (blk_cell BK243.out 4).trans rfl
                have hcz39_5 : wc.cell? ⟨gb243, 5, none⟩ = some (.int .u8 ((rd_T40 l0_4 x8_2).f2.f0.f3)) := (blk_cell BK243.out 5).trans rfl
                have hcz39_6 : wc.cell? ⟨gb243, 6, none⟩ = some (.int .i64 ((rd_T40 l0_4 x8_2).f2.f1)) := (blk_cell BK243.out 6).trans rfl
                have hcz39_7 : wc.cell? ⟨gb243, 7, none⟩ = some (.int .i64 ((rd_T40 l0_4 x8_2).f3)) := (blk_cell BK243.out 7).trans rfl
                have hcz39_8 : wc.cell? ⟨gb243, 8, none⟩ = some (.int .i64 ((rd_T40 l0_4 x8_2).f4)) := (blk_cell BK243.out 8).trans rfl
                have hcz39_9 : wc.cell? ⟨gb243, 9, none⟩ = some (.slice A242_9 ((rd_T40 l0_4 x8_2).f5).length c242_9) := (blk_cell BK243.out 9).trans rfl
                have hcz39_10 : wc.cell? ⟨gb243, 10, none⟩ = some (.int .i64 ((rd_T40 l0_4 x8_2).f6)) := (blk_cell BK243.out 10).trans rfl
                have hcz39_11 : wc.cell? ⟨gb243, 11, none⟩ = some (.int .i64 ((rd_T40 l0_4 x8_2).f7)) := (blk_cell BK243.out 11).trans rfl
                have hcz39_12 : wc.cell? ⟨gb243, 12, none⟩ = some (.int .i64 ((rd_T40 l0_4 x8_2).f8)) := (blk_cell BK243.out 12).trans rfl
                have hcz39_13 : wc.cell? ⟨gb243, 13, none⟩ = some (.int .i64 ((rd_T40 l0_4 x8_2).f9)) := (blk_cell BK243.out 13).trans rfl
                have hfz39_0 := blk_frozen BK243.out 0
                have hfz39_1 := blk_frozen BK243.out 1
                have hfz39_2 := blk_frozen BK243.out 2
                have hfz39_3 := blk_frozen BK243.out 3
                have hfz39_4 := blk_frozen BK243.out 4
                have hfz39_5 := blk_frozen BK243.out 5
                have hfz39_6 := blk_frozen BK243.out 6
                have hfz39_7 := blk_frozen BK243.out 7
                have hfz39_8 := blk_frozen BK243.out 8
                have hfz39_9 := blk_frozen BK243.out 9
                have hfz39_10 := blk_frozen BK243.out 10
                have hfz39_11 := blk_frozen BK243.out 11
                have hfz39_12 := blk_frozen BK243.out 12
                have hfz39_13 := blk_frozen BK243.out 13
                go_wp2
                repeat (go_quiet (fail); try go_wp2)
                go_meet
                case rel => exact ⟨_, (true), (by first | rfl | (simp; done) | (simp [*]; done)), H', ⟨by have := HJ4.out; have := HK2.out; have := HJ17.out; have := HJ27.out; first | omega | exact Nat.le_refl _⟩, ⟨by (with_reducible repeat (first | refine blk_drewN ?_ _ | refine blk_drew ?_ | refine blk_alloc ?_ _)); exact BK238.out⟩, ⟨by (with_reducible repeat (first | refine blk_drewN ?_ _ | refine blk_drew ?_ | refine blk_alloc ?_ _)); exact BK243.out⟩, ⟨by repeat (first | (with_reducible first | exact HB.out | apply below_alloc | apply pw_below_drewN | apply below_drew1 | refine below_set ?_ GE238.out | refine below_set ?_ GE243.out) | exact HB.out)⟩⟩
               ·
                rw [if_neg c37] at H
                have c37b0 : decide (((rd_T40 l0_4 x8_2).f4) < ((rd_T40 l0_4 x8_2).f3)) = false := decide_eq_false c37
                clear c37
                by_cases c40 : ((rd_T40 l0_4 x8_2).f6) < 1
                ·
                 rw [if_pos c40] at H
                 have c40b0 : decide (((rd_T40 l0_4 x8_2).f6) < 1) = true := decide_eq_true c40
                 clear c40
                 have H' := Aside0.mk H
                 clear H
                 have hnb41 := NB243_238.out
                 have hnc41 := NB238_243.out
                 have hcz42_0 : wc.cell? ⟨gb243, 0, none⟩ = some (.string ((rd_T40 l0_4 x8_2).f0)) := (blk_cell BK243.out 0).trans rfl
                 have hcz42_1 : wc.cell? ⟨gb243, 1, none⟩ = some (.string ((rd_T40 l0_4 x8_2).f1)) := (blk_cell BK243.out 1).trans rfl
                 have hcz42_2 : wc.cell? ⟨gb243, 2, none⟩ = some (.int .u8 ((rd_T40 l0_4 x8_2).f2.f0.f0)) := (blk_cell BK243.out 2).trans rfl
                 have hcz42_3 : wc.cell? ⟨gb243, 3, none⟩ = some (.int .u8 ((rd_T40 l0_4 x8_2).f2.f0.f1)) := (blk_cell BK243.out 3).trans rfl
                 have hcz42_4 : wc.cell? ⟨gb243, 4, none⟩ = some (.int .u8 ((rd_T40 l0_4 x8_2).f2.f0.f2)) := (blk_cell BK243.out 4).trans rfl
                 have hcz42_5 : wc.cell? ⟨gb243, 5, none⟩ = some (.int .u8 ((rd_T40 l0_4 x8_2).f2.f0.f3)) := (blk_cell BK243.out 5).trans rfl
                 have hcz42_6 : wc.cell? ⟨gb243, 6, none⟩ = some (.int .i64 ((rd_T40 l0_4 x8_2).f2.f1)) := (blk_cell BK243.out 6).trans rfl
                 have hcz42_7 : wc.cell? ⟨gb243, 7, none⟩ = some (.int .i64 ((rd_T40 l0_4 x8_2).f3)) := (blk_cell BK243.out 7).trans rfl
                 have hcz42_8 : wc.cell? ⟨gb243, 8, none⟩ = some (.int .i64 ((rd_T40 l0_4 x8_2).f4)) := (blk_cell BK243.out 8).trans rfl
                 have hcz42_9 : wc.cell? ⟨gb243, 9, none⟩ = some (.slice A242_9 ((rd_T40 l0_4 x8_2).f5).length c242_9) := (blk_cell BK243.out 9).trans rfl
                 have hcz42_10 : wc.cell? ⟨gb243, 10, none⟩ = some (.int .i64 ((rd_T40 l0_4 x8_2).f6)) := (blk_cell BK243.out 10).trans rfl
                 have hcz42_11 : wc.cell? ⟨gb243, 11, none⟩ = some (.int .i64 ((rd_T40 l0_4 x8_2).f7)) := (blk_cell BK243.out 11).trans rfl
                 have hcz42_12 : wc.cell? ⟨gb243, 12, none⟩ = some (.int .i64 ((rd_T40 l0_4 x8_2).f8)) := (blk_cell BK243.out 12).trans rfl
                 have hcz42_13 : wc.cell? ⟨gb243, 13, none⟩ = some (.int .i64 ((rd_T40 l0_4 x8_2).f9)) := (blk_cell BK243.out 13).trans rfl
                 have hfz42_0 := blk_frozen BK243.out 0
                 have hfz42_1 := blk_frozen BK243.out 1
                 have hfz42_2 := blk_frozen BK243.out 2
                 have hfz42_3 := blk_frozen BK243.out 3
                 have hfz42_4 := blk_frozen BK243.out 4
                 have hfz42_5 := blk_frozen BK243.out 5
                 have hfz42_6 := blk_frozen BK243.out 6
                 have hfz42_7 := blk_frozen BK243.out 7
                 have hfz42_8 := blk_frozen BK243.out 8
                 have hfz42_9 := blk_frozen BK243.out 9
                 have hfz42_10 := blk_frozen BK243.out 10
                 have hfz42_11 := blk_frozen BK243.out 11
                 have hfz42_12 := blk_frozen BK243.out 12
                 have hfz42_13 := blk_frozen BK243.out 13
                 go_wp2
                 repeat (go_quiet (fail); try go_wp2)
                 go_meet
                 case rel => exact ⟨_, (true), (by first | rfl | (simp; done) | (simp [*]; done)), H', ⟨by have := HJ4.out; have := HK2.out; have := HJ17.out; have := HJ27.out; first | omega | exact Nat.le_refl _⟩, ⟨by (with_reducible repeat (first | refine blk_drewN ?_ _ | refine blk_drew ?_ | refine blk_alloc ?_ _)); exact BK238.out⟩, ⟨by (with_reducible repeat (first | refine blk_drewN ?_ _ | refine blk_drew ?_ | refine blk_alloc ?_ _)); exact BK243.out⟩, ⟨by repeat (first | (with_reducible first | exact HB.out | apply below_alloc | apply pw_below_drewN | apply below_drew1 | refine below_set ?_ GE238.out | refine below_set ?_ GE243.out) | exact HB.out)⟩⟩
                ·
                 rw [if_neg c40] at H
                 have c40b0 : decide (((rd_T40 l0_4 x8_2).f6) < 1) = false := decide_eq_false c40
                 clear c40
                 have H' := Aside0.mk H
                 clear H
                 have hnb43 := NB243_238.out
                 have hnc43 := NB238_243.out
                 have hcz44_0 : wc.cell? ⟨gb243, 0, none⟩ = some (.string ((rd_T40 l0_4 x8_2).f0)) := (blk_cell BK243.out 0).trans rfl
                 have hcz44_1 : wc.cell? ⟨gb243, 1, none⟩ = some (.string ((rd_T40 l0_4 x8_2).f1)) := (blk_cell BK243.out 1).trans rfl
                 have hcz44_2 : wc.cell? ⟨gb243, 2, none⟩ = some (.int .u8 ((rd_T40 l0_4 x8_2).f2.f0.f0)) := (blk_cell BK243.out 2).trans rfl
                 have hcz44_3 : wc.cell? ⟨gb243, 3, none⟩ = some (.int .u8 ((rd_T40 l0_4 x8_2).f2.f0.f1)) := (blk_cell BK243.out 3).trans rfl
                 have hcz44_4 : wc.cell? ⟨gb243, 4, none⟩ = some (.int .u8 ((rd_T40 l0_4 x8_2).f2.f0.f2)) := (blk_cell BK243.out 4).trans rfl
                 have hcz44_5 : wc.cell? ⟨gb243, 5, none⟩ = some (.int .u8 ((rd_T40 l0_4 x8_2).f2.f0.f3)) := (blk_cell BK243.out 5).trans rfl
                 have hcz44_6 : wc.cell? ⟨gb243, 6, none⟩ = some (.int .i64 ((rd_T40 l0_4 x8_2).f2.f1)) := (blk_cell BK243.out 6).trans rfl
                 have hcz44_7 : wc.cell? ⟨gb243, 7, none⟩ = some (.int .i64 ((rd_T40 l0_4 x8_2).f3)) := (blk_cell BK243.out 7).trans rfl
                 have hcz44_8 : wc.cell? ⟨gb243, 8, none⟩ = some (.int .i64 ((rd_T40 l0_4 x8_2).f4)) := (blk_cell BK243.out 8).trans rfl
                 have hcz44_9 : wc.cell? ⟨gb243, 9, none⟩ = some (.slice A242_9 ((rd_T40 l0_4 x8_2).f5).length c242_9) := (blk_cell BK243.out 9).trans rfl
                 have hcz44_10 : wc.cell? ⟨gb243, 10, none⟩ = some (.int .i64 ((rd_T40 l0_4 x8_2).f6)) := (blk_cell BK243.out 10).trans rfl
                 have hcz44_11 : wc.cell? ⟨gb243, 11, none⟩ = some (.int .i64 ((rd_T40 l0_4 x8_2).f7)) := (blk_cell BK243.out 11).trans rfl
                 have hcz44_12 : wc.cell? ⟨gb243, 12, none⟩ = some (.int .i64 ((rd_T40 l0_4 x8_2).f8)) := (blk_cell BK243.out 12).trans rfl
                 have hcz44_13 : wc.cell? ⟨gb243, 13, none⟩ = some (.int .i64 ((rd_T40 l0_4 x8_2).f9)) := (blk_cell BK243.out 13).trans rfl
                 have hfz44_0 := blk_frozen BK243.out 0
                 have hfz44_1 := blk_frozen BK243.out 1
                 have hfz44_2 := blk_frozen BK243.out 2
                 have hfz44_3 := blk_frozen BK243.out 3
                 have hfz44_4 := blk_frozen BK243.out 4
                 have hfz44_5 := blk_frozen BK243.out 5
                 have hfz44_6 := blk_frozen BK243.out 6
                 have hfz44_7 := blk_frozen BK243.out 7
                 have hfz44_8 := blk_frozen BK243.out 8
                 have hfz44_9 := blk_frozen BK243.out 9
                 have hfz44_10 := blk_frozen BK243.out 10
                 have hfz44_11 := blk_frozen BK243.out 11
                 have hfz44_12 := blk_frozen BK243.out 12
                 have hfz44_13 := blk_frozen BK243.out 13
                 go_wp2
                 repeat (go_quiet (fail); try go_wp2)
                 go_meet
                 case rel => exact ⟨_, (decide (((rd_T40 l0_4 x8_2).f7) < 1)), (by first | rfl | (simp; done) | (simp [*]; done)), H', ⟨by have := HJ4.out; have := HK2.out; have := HJ17.out; have := HJ27.out; first | omega | exact Nat.le_refl _⟩, ⟨by (with_reducible repeat (first | refine blk_drewN ?_ _ | refine blk_drew ?_ | refine blk_alloc ?_ _)); exact BK238.out⟩, ⟨by (with_reducible repeat (first | refine blk_drewN ?_ _ | refine blk_drew ?_ | refine blk_alloc ?_ _)); exact BK243.out⟩, ⟨by repeat (first | (with_reducible first | exact HB.out | apply below_alloc | apply pw_below_drewN | apply below_drew1 | refine below_set ?_ GE238.out | refine below_set ?_ GE243.out) | exact HB.out)⟩⟩
            case rest =>
             clear HC30
             try clear c1
             try clear c2
             try clear p2
             try clear q2
             try clear hx2
             try clear c3
             try clear c4
             try clear c5
             try clear p6
             try clear c10
             try clear c11
             try clear c15
             try clear c16
             try clear c16b0
             try clear c17
             try clear c17b0
             try clear c21
             try clear c23
             try clear c23b0
             try clear c24
             try clear p24
             try clear q24
             try clear hx24
             try clear c26
             try clear c29
             try clear c31
             try clear c31b0
             try clear c32
             try clear c34
             try clear c34b0
             try clear c35
             try clear c37
             try clear c37b0
             try clear c38
             try clear c40
             try clear c40b0
             try clear c41
             try clear c43
             try clear hcz13_0
             try clear hcz13_1
             try clear hcz13_2
             try clear hcz13_3
             try clear hcz13_4
             try clear hcz13_5
             try clear hcz13_6
             try clear hcz13_7
             try clear hcz13_8
             try clear hcz19_0
             try clear hcz19_1
             try clear hcz19_2
             try clear hcz19_3
             try clear hcz19_4
             try clear hcz19_5
             try clear hcz19_6
             try clear hcz19_7
             try clear hcz19_8
             try clear hcz22_0
             try clear hcz22_1
             try clear hcz22_10
             try clear hcz22_11
             try clear hcz22_12
             try clear hcz22_13
             try clear hcz22_2
             try clear hcz22_3
             try clear hcz22_4
             try clear hcz22_5
             try clear hcz22_6
             try clear hcz22_7
             try clear hcz22_8
             try clear hcz22_9
             try clear hcz25_0
             try clear hcz25_1
             try clear hcz25_10
             try clear hcz25_11
             try clear hcz25_12
             try clear hcz25_13
             try clear hcz25_2
             try clear hcz25_3
             try clear hcz25_4
             try clear hcz25_5
             try clear hcz25_6
             try clear hcz25_7
             try clear hcz25_8
             try clear hcz25_9
             try clear hcz27_0
             try clear hcz27_1
             try clear hcz27_10
             try clear hcz27_11
             try clear hcz27_12
             try clear hcz27_13
             try clear hcz27_2
             try clear hcz27_3
             try clear hcz27_4
             try clear hcz27_5
             try clear hcz27_6
             try clear hcz27_7
             try clear hcz27_8
             try clear hcz27_9
             try clear hcz33_0
             try clear hcz33_1
             try clear hcz33_10
             try clear hcz33_11
             try clear hcz33_12
             try clear hcz33_13
             try clear hcz33_2
             try clear hcz33_3
             try clear hcz33_4
             try clear hcz33_5
             try clear hcz33_6
             try clear hcz33_7
             try clear hcz33_8
             try clear hcz33_9
             try clear hcz36_0
             try clear hcz36_1
             try clear hcz36_10
             try clear hcz36_11
             try clear hcz36_12
             try clear hcz36_13
             try clear hcz36_2
             try clear hcz36_3
             try clear hcz36_4
             try clear hcz36_5
             try clear hcz36_6
             try clear hcz36_7
             try clear hcz36_8
             try clear hcz36_9
             try clear hcz39_0
             try clear hcz39_1
             try clear hcz39_10
             try clear hcz39_11
             try clear hcz39_12
             try clear hcz39_13
             try clear hcz39_2
             try clear hcz39_3
             try clear hcz39_4
             try clear hcz39_5
             try clear hcz39_6
             try clear hcz39_7
             try clear hcz39_8
             try clear hcz39_9
             try clear hcz42_0
             try clear hcz42_1
             try clear hcz42_10
             try clear hcz42_11
             try clear hcz42_12
             try clear hcz42_13
             try clear hcz42_2
             try clear hcz42_3
             try clear hcz42_4
             try clear hcz42_5
             try clear hcz42_6
             try clear hcz42_7
             try clear hcz42_8
             try clear hcz42_9
             try clear hcz44_0
             try clear hcz44_1
             try clear hcz44_10
             try clear hcz44_11
             try clear hcz44_12
             try clear hcz44_13
             try clear hcz44_2
             try clear hcz44_3
             try clear hcz44_4
             try clear hcz44_5
             try clear hcz44_6
             try clear hcz44_7
             try clear hcz44_8
             try clear hcz44_9
             try clear hcz8_0
             try clear hcz8_1
             try clear hcz8_2
             try clear hcz8_3
             try clear hcz8_4
             try clear hcz8_5
             try clear hcz8_6
             try clear hcz8_7
             try clear hcz8_8
             try clear hfz13_0
             try clear hfz13_1
             try clear hfz13_2
             try clear hfz13_3
             try clear hfz13_4
             try clear hfz13_5
             try clear hfz13_6
             try clear hfz13_7
             try clear hfz13_8
             try clear hfz19_0
             try clear hfz19_1
             try clear hfz19_2
             try clear hfz19_3
             try clear hfz19_4
             try clear hfz19_5
             try clear hfz19_6
             try clear hfz19_7
             try clear hfz19_8
             try clear hfz22_0
             try clear hfz22_1
             try clear hfz22_10
             try clear hfz22_11
             try clear hfz22_12
             try clear hfz22_13
             try clear hfz22_2
             try clear hfz22_3
             try clear hfz22_4
             try clear hfz22_5
             try clear hfz22_6
             try clear hfz22_7
             try clear hfz22_8
             try clear hfz22_9
             try clear hfz25_0
             try clear hfz25_1
             try clear hfz25_10
             try clear hfz25_11
             try clear hfz25_12
             try clear hfz25_13
             try clear hfz25_2
             try clear hfz25_3
             try clear hfz25_4
             try clear hfz25_5
             try clear hfz25_6
             try clear hfz25_7
             try clear hfz25_8
             try clear hfz25_9
             try clear hfz27_0
             try clear hfz27_1
             try clear hfz27_10
             try clear hfz27_11
             try clear hfz27_12
             try clear hfz27_13
             try clear hfz27_2
             try clear hfz27_3
             try clear hfz27_4
             try clear hfz27_5
             try clear hfz27_6
             try clear hfz27_7
             try clear hfz27_8
             try clear hfz27_9
             try clear hfz33_0
             try clear hfz33_1
             try clear hfz33_10
             try clear hfz33_11
             try clear hfz33_12
             try clear hfz33_13
             try clear hfz33_2
             try clear hfz33_3
             try clear hfz33_4
             try clear hfz33_5
             try clear hfz33_6
             try clear hfz33_7
             try clear hfz33_8
             try clear hfz33_9
             try clear hfz36_0
             try clear hfz36_1
             try clear hfz36_10
             try clear hfz36_11
             try clear hfz36_12
             try clear hfz36_13
             try clear hfz36_2
             try clear hfz36_3
             try clear hfz36_4
             try clear hfz36_5
             try clear hfz36_6
             try clear hfz36_7
             try clear hfz36_8
             try clear hfz36_9
             try clear hfz39_0
             try clear hfz39_1
             try clear hfz39_10
             try clear hfz39_11
             try clear hfz39_12
             try clear hfz39_13
             try clear hfz39_2
             try clear hfz39_3
             try clear hfz39_4
             try clear hfz39_5
             try clear hfz39_6
             try clear hfz39_7
             try clear hfz39_8
             try clear hfz39_9
             try clear hfz42_0
             try clear hfz42_1
             try clear hfz42_10
             try clear hfz42_11
             try clear hfz42_12
             try clear hfz42_13
             try clear hfz42_2
             try clear hfz42_3
             try clear hfz42_4
             try clear hfz42_5
             try clear hfz42_6
             try clear hfz42_7
             try clear hfz42_8
             try clear hfz42_9
             try clear hfz44_0
             try clear hfz44_1
             try clear hfz44_10
             try clear hfz44_11
             try clear hfz44_12
             try clear hfz44_13
             try clear hfz44_2
             try clear hfz44_3
             try clear hfz44_4
             try clear hfz44_5
             try clear hfz44_6
             try clear hfz44_7
             try clear hfz44_8
             try clear hfz44_9
             try clear hfz8_0
             try clear hfz8_1
             try clear hfz8_2
             try clear hfz8_3
             try clear hfz8_4
             try clear hfz8_5
             try clear hfz8_6
             try clear hfz8_7
             try clear hfz8_8
             try clear hx242_0
             try clear hx242_1
             try clear hx242_10
             try clear hx242_11
             try clear hx242_12
             try clear hx242_13
             try clear hx242_2
             try clear hx242_3
             try clear hx242_4
             try clear hx242_5
             try clear hx242_6
             try clear hx242_7
             try clear hx242_8
             try clear hx242_9
             try clear p2
             try clear p24
             try clear p242
             try clear p6
             try clear q2
             try clear q24
             try clear q242
             obtain ⟨kq, x74_29, rfl, HA, HJ29, BK238, BK243, HB⟩ := hcut
             cases kq with
             | zero => exact absurd HA.out (by simp [wharfingerlaw13_ConfApart.j4])
             | succ kj29 =>
              have H := HA.out
              clear HA
              simp only [wharfingerlaw13_ConfApart.j4] at H
              by_cases c45 : x74_29 = true
              ·
               subst c45
               have H1 : (some false) = some r := by rw [if_pos rfl] at H; exact H
               clear H
               have H := H1
               clear H1
               obtain rfl := Option.some.inj H
               go_wp2
               repeat (go_quiet (fail); try go_wp2)
               go_ret
               exact ⟨by first | rfl | (simp [errW_none, errW_some] <;> rfl) | (simp [*, errW_none, errW_some] <;> rfl), by repeat (first | (with_reducible first | exact HB.out | apply below_alloc | apply pw_below_drewN | apply below_drew1 | refine below_set ?_ GE238.out | refine below_set ?_ GE243.out) | exact HB.out)⟩
              ·
               replace c45 := Bool.eq_false_iff.mpr c45
               subst c45
               have H1 : (wharfingerlaw13_ConfApart.l1 kj29 a1 x7_27 x8_2 0 a0_0 a0_1 a0_2 a0_3 l0_4 a0_5 a0_6 a0_7 a0_8 ((rd_T40 l0_4 x8_2).f0) ((rd_T40 l0_4 x8_2).f1) ((rd_T40 l0_4 x8_2).f2.f0.f0) ((rd_T40 l0_4 x8_2).f2.f0.f1) ((rd_T40 l0_4 x8_2).f2.f0.f2) ((rd_T40 l0_4 x8_2).f2.f0.f3) ((rd_T40 l0_4 x8_2).f2.f1) ((rd_T40 l0_4 x8_2).f3) ((rd_T40 l0_4 x8_2).f4) ((rd_T40 l0_4 x8_2).f5) ((rd_T40 l0_4 x8_2).f6) ((rd_T40 l0_4 x8_2).f7) ((rd_T40 l0_4 x8_2).f8) ((rd_T40 l0_4 x8_2).f9)) = some r := by rw [if_neg (show ¬ (false = true) by decide)] at H; exact H
               clear H
               have H := H1
               clear H1
               have H' := Aside0.mk H
               clear H
               go_wp2
               repeat (go_quiet (fail); try go_wp2)
               go_loopg [10] kj29 (fun kq v10 w' => ∃ (x10_6 : Int), v10 = .int .i64 x10_6 ∧ Aside0 (wharfingerlaw13_ConfApart.l1 kq a1 x7_27 x8_2 x10_6 a0_0 a0_1 a0_2 a0_3 l0_4 a0_5 a0_6 a0_7 a0_8 ((rd_T40 l0_4 x8_2).f0) ((rd_T40 l0_4 x8_2).f1) ((rd_T40 l0_4 x8_2).f2.f0.f0) ((rd_T40 l0_4 x8_2).f2.f0.f1) ((rd_T40 l0_4 x8_2).f2.f0.f2) ((rd_T40 l0_4 x8_2).f2.f0.f3) ((rd_T40 l0_4 x8_2).f2.f1) ((rd_T40 l0_4 x8_2).f3) ((rd_T40 l0_4 x8_2).f4) ((rd_T40 l0_4 x8_2).f5) ((rd_T40 l0_4 x8_2).f6) ((rd_T40 l0_4 x8_2).f7) ((rd_T40 l0_4 x8_2).f8) ((rd_T40 l0_4 x8_2).f9) = some r) ∧ Aside0 (kq ≤ kj29) ∧ Aside0 (w'.heap[gb238]? = some (.cells #[.int .u8 a0_0, .int .u8 a0_1, .int .u8 a0_2, .int .u8 a0_3, (.slice (some ad242) l0_4.length c0_4), .int .i64 a0_5, .int .i64 a0_6, .int .i64 a0_7, .bool a0_8] 26 (0, 0))) ∧ Aside0 (w'.heap[gb243]? = some (.cells #[.string ((rd_T40 l0_4 x8_2).f0), .string ((rd_T40 l0_4 x8_2).f1), .int .u8 ((rd_T40 l0_4 x8_2).f2.f0.f0), .int .u8 ((rd_T40 l0_4 x8_2).f2.f0.f1), .int .u8 ((rd_T40 l0_4 x8_2).f2.f0.f2), .int .u8 ((rd_T40 l0_4 x8_2).f2.f0.f3), .int .i64 ((rd_T40 l0_4 x8_2).f2.f1), .int .i64 ((rd_T40 l0_4 x8_2).f3), .int .i64 ((rd_T40 l0_4 x8_2).f4), (.slice A242_9 ((rd_T40 l0_4 x8_2).f5).length c242_9), .int .i64 ((rd_T40 l0_4 x8_2).f6), .int .i64 ((rd_T40 l0_4 x8_2).f7), .int .i64 ((rd_T40 l0_4 x8_2).f8), .int .i64 ((rd_T40 l0_4 x8_2).f9)] 40 (0, 0))) ∧ Aside0 (Below w.heap.size w w'))
               case atStart => exact ⟨(0), (by first | rfl | (simp; done) | (simp [*]; done)), H', ⟨Nat.le_refl _⟩, ⟨by (with_reducible repeat (first | refine blk_drewN ?_ _ | refine blk_drew ?_ | refine blk_alloc ?_ _)); exact BK238.out⟩, ⟨by (with_reducible repeat (first | refine blk_drewN ?_ _ | refine blk_drew ?_ | refine blk_alloc ?_ _)); exact BK243.out⟩, ⟨by repeat (first | (with_reducible first | exact HB.out | apply below_alloc | apply pw_below_drewN | apply below_drew1 | refine below_set ?_ GE238.out | refine below_set ?_ GE243.out) | exact HB.out)⟩⟩
               case round =>
                clear H'
                try clear c1
                try clear c2
                try clear p2
                try clear q2
                try clear hx2
                try clear c3
                try clear c4
                try clear c5
                try clear p6
                try clear c10
                try clear c11
                try clear c15
                try clear c16
                try clear c16b0
                try clear c17
                try clear c17b0
                try clear c21
                try clear c23
                try clear c23b0
                try clear c24
                try clear p24
                try clear q24
                try clear hx24
                try clear c26
                try clear c29
                try clear c31
                try clear c31b0
                try clear c32
                try clear c34
                try clear c34b0
                try clear c35
                try clear c37
                try clear c37b0
                try clear c38
                try clear c40
                try clear c40b0
                try clear c41
                try clear c43
                try clear c45
                try clear hcz13_0
                try clear hcz13_1
                try clear hcz13_2
                try clear hcz13_3
                try clear hcz13_4
                try clear hcz13_5
                try clear hcz13_6
                try clear hcz13_7
                try clear hcz13_8
                try clear hcz19_0
                try clear hcz19_1
                try clear hcz19_2
                try clear hcz19_3
                try clear hcz19_4
                try clear hcz19_5
                try clear hcz19_6
                try clear hcz19_7
                try clear hcz19_8
                try clear hcz22_0
                try clear hcz22_1
                try clear hcz22_10
                try clear hcz22_11
                try clear hcz22_12
                try clear hcz22_13
                try clear hcz22_2
                try clear hcz22_3
                try clear hcz22_4
                try clear hcz22_5
                try clear hcz22_6
                try clear hcz22_7
                try clear hcz22_8
                try clear hcz22_9
                try clear hcz25_0
                try clear hcz25_1
                try clear hcz25_10
                try clear hcz25_11
                try clear hcz25_12
                try clear hcz25_13
                try clear hcz25_2
                try clear hcz25_3
                try clear hcz25_4
                try clear hcz25_5
                try clear hcz25_6
                try clear hcz25_7
                try clear hcz25_8
                try clear hcz25_9
                try clear hcz27_0
                try clear hcz27_1
                try clear hcz27_10
                try clear hcz27_11
                try clear hcz27_12
                try clear hcz27_13
                try clear hcz27_2
                try clear hcz27_3
                try clear hcz27_4
                try clear hcz27_5
                try clear hcz27_6
                try clear hcz27_7
                try clear hcz27_8
                try clear hcz27_9
                try clear hcz33_0
                try clear hcz33_1
                try clear hcz33_10
                try clear hcz33_11
                try clear hcz33_12
                try clear hcz33_13
                try clear hcz33_2
                try clear hcz33_3
                try clear hcz33_4
                try clear hcz33_5
                try clear hcz33_6
                try clear hcz33_7
                try clear hcz33_8
                try clear hcz33_9
                try clear hcz36_0
                try clear hcz36_1
                try clear hcz36_10
                try clear hcz36_11
                try clear hcz36_12
                try clear hcz36_13
                try clear hcz36_2
                try clear hcz36_3
                try clear hcz36_4
                try clear hcz36_5
                try clear hcz36_6
                try clear hcz36_7
                try clear hcz36_8
                try clear hcz36_9
                try clear hcz39_0
                try clear hcz39_1
                try clear hcz39_10
                try clear hcz39_11
                try clear hcz39_12
                try clear hcz39_13
                try clear hcz39_2
                try clear hcz39_3
                try clear hcz39_4
                try clear hcz39_5
                try clear hcz39_6
                try clear hcz39_7
                try clear hcz39_8
                try clear hcz39_9
                try clear hcz42_0
                try clear hcz42_1
                try clear hcz42_10
                try clear hcz42_11
                try clear hcz42_12
                try clear hcz42_13
                try clear hcz42_2
                try clear hcz42_3
                try clear hcz42_4
                try clear hcz42_5
                try clear hcz42_6
                try clear hcz42_7
                try clear hcz42_8
                try clear hcz42_9
                try clear hcz44_0
                try clear hcz44_1
                try clear hcz44_10
                try clear hcz44_11
                try clear hcz44_12
                try clear hcz44_13
                try clear hcz44_2
                try clear hcz44_3
                try clear hcz44_4
                try clear hcz44_5
                try clear hcz44_6
                try clear hcz44_7
                try clear hcz44_8
                try clear hcz44_9
                try clear hcz8_0
                try clear hcz8_1
                try clear hcz8_2
                try clear hcz8_3
                try clear hcz8_4
                try clear hcz8_5
                try clear hcz8_6
                try clear hcz8_7
                try clear hcz8_8
                try clear hfz13_0
                try clear hfz13_1
                try clear hfz13_2
                try clear hfz13_3
                try clear hfz13_4
                try clear hfz13_5
                try clear hfz13_6
                try clear hfz13_7
                try clear hfz13_8
                try clear hfz19_0
                try clear hfz19_1
                try clear hfz19_2
                try clear hfz19_3
                try clear hfz19_4
                try clear hfz19_5
                try clear hfz19_6
                try clear hfz19_7
                try clear hfz19_8
                try clear hfz22_0
                try clear hfz22_1
                try clear hfz22_10
                try clear hfz22_11
                try clear hfz22_12
                try clear hfz22_13
                try clear hfz22_2
                try clear hfz22_3
                try clear hfz22_4
                try clear hfz22_5
                try clear hfz22_6
                try clear hfz22_7
                try clear hfz22_8
                try clear hfz22_9
                try clear hfz25_0
                try clear hfz25_1
                try clear hfz25_10
                try clear hfz25_11
                try clear hfz25_12
                try clear hfz25_13
                try clear hfz25_2
                try clear hfz25_3
                try clear hfz25_4
                try clear hfz25_5
                try clear hfz25_6
                try clear hfz25_7
                try clear hfz25_8
                try clear hfz25_9
                try clear hfz27_0
                try clear hfz27_1
                try clear hfz27_10
                try clear hfz27_11
                try clear hfz27_12
                try clear hfz27_13
                try clear hfz27_2
                try clear hfz27_3
                try clear hfz27_4
                try clear hfz27_5
                try clear hfz27_6
                try clear hfz27_7
                try clear hfz27_8
                try clear hfz27_9
                try clear hfz33_0
                try clear hfz33_1
                try clear hfz33_10
                try clear hfz33_11
                try clear hfz33_12
                try clear hfz33_13
                try clear hfz33_2
                try clear hfz33_3
                try clear hfz33_4
                try clear hfz33_5
                try clear hfz33_6
                try clear hfz33_7
                try clear hfz33_8
                try clear hfz33_9
                try clear hfz36_0
                try clear hfz36_1
                try clear hfz36_10
                try clear hfz36_11
                try clear hfz36_12
                try clear hfz36_13
                try clear hfz36_2
                try clear hfz36_3
                try clear hfz36_4
                try clear hfz36_5
                try clear hfz36_6
                try clear hfz36_7
                try clear hfz36_8
                try clear hfz36_9
                try clear hfz39_0
                try clear hfz39_1
                try clear hfz39_10
                try clear hfz39_11
                try clear hfz39_12
                try clear hfz39_13
                try clear hfz39_2
                try clear hfz39_3
                try clear hfz39_4
                try clear hfz39_5
                try clear hfz39_6
                try clear hfz39_7
                try clear hfz39_8
                try clear hfz39_9
                try clear hfz42_0
                try clear hfz42_1
                try clear hfz42_10
                try clear hfz42_11
                try clear hfz42_12
                try clear hfz42_13
                try clear hfz42_2
                try clear hfz42_3
                try clear hfz42_4
                try clear hfz42_5
                try clear hfz42_6
                try clear hfz42_7
                try clear hfz42_8
                try clear hfz42_9
                try clear hfz44_0
                try clear hfz44_1
                try clear hfz44_10
                try clear hfz44_11
                try clear hfz44_12
                try clear hfz44_13
                try clear hfz44_2
                try clear hfz44_3
                try clear hfz44_4
                try clear hfz44_5
                try clear hfz44_6
                try clear hfz44_7
                try clear hfz44_8
                try clear hfz44_9
                try clear hfz8_0
                try clear hfz8_1
                try clear hfz8_2
                try clear hfz8_3
                try clear hfz8_4
                try clear hfz8_5
                try clear hfz8_6
                try clear hfz8_7
                try clear hfz8_8
                try clear hx242_0
                try clear hx242_1
                try clear hx242_10
                try clear hx242_11
                try clear hx242_12
                try clear hx242_13
                try clear hx242_2
                try clear hx242_3
                try clear hx242_4
                try clear hx242_5
                try clear hx242_6
                try clear hx242_7
                try clear hx242_8
                try clear hx242_9
                try clear p2
                try clear p24
                try clear p242
                try clear p6
                try clear q2
                try clear q24
                try clear q242
                obtain ⟨x10_6, rfl, HA, HK6, BK238, BK243, HB⟩ := hrel
                cases gk with
                | zero => exact absurd HA.out (by simp [wharfingerlaw13_ConfApart.l1])
                | succ k6 =>
                 have H := HA.out
                 clear HA
                 simp only [wharfingerlaw13_ConfApart.l1] at H
                 by_cases c46 : x10_6 < x8_2
                 ·
                  rw [if_pos c46] at H
                  have c46b0 : decide (x10_6 < x8_2) = true := decide_eq_true c46
                  clear c46
                  by_cases c47 : 0 ≤ x10_6
                  ·
                   rw [if_pos c47] at H
                   have c47b0 : decide (0 ≤ x10_6) = true := decide_eq_true c47
                   clear c47
                   by_cases c48 : x10_6 < (l0_4.length : Int)
                   ·
                    rw [if_pos c48] at H
                    have c48b0 : decide (x10_6 < (l0_4.length : Int)) = true := decide_eq_true c48
                    clear c48
                    by_cases c49 : ((rd_T40 l0_4 x10_6).f1).toList = ((rd_T40 l0_4 x8_2).f1).toList
                    ·
                     rw [if_pos c49] at H
                     have c49b0 : (((rd_T40 l0_4 x10_6).f1).toList == ((rd_T40 l0_4 x8_2).f1).toList) = true := beq_iff_eq.mpr c49
                     have c49b1 : (((rd_T40 l0_4 x10_6).f1).toList != ((rd_T40 l0_4 x8_2).f1).toList) = false := bne_eq_false_iff_eq.mpr c49
                     clear c49
                     obtain rfl := Option.some.inj H
                     have hnb50 := NB238_243.out
                     have hnc50 := NB243_238.out
                     have hcz51_0 : wr.cell? ⟨gb238, 0, none⟩ = some (.int .u8 a0_0) := (blk_cell BK238.out 0).trans rfl
                     have hcz51_1 : wr.cell? ⟨gb238, 1, none⟩ = some (.int .u8 a0_1) := (blk_cell BK238.out 1).trans rfl
                     have hcz51_2 : wr.cell? ⟨gb238, 2, none⟩ = some (.int .u8 a0_2) := (blk_cell BK238.out 2).trans rfl
                     have hcz51_3 : wr.cell? ⟨gb238, 3, none⟩ = some (.int .u8 a0_3) := (blk_cell BK238.out 3).trans rfl
                     have hcz51_4 : wr.cell? ⟨gb238, 4, none⟩ = some (.slice (some ad242) l0_4.length c0_4) := (blk_cell BK238.out 4).trans rfl
                     have hcz51_5 : wr.cell? ⟨gb238, 5, none⟩ = some (.int .i64 a0_5) := (blk_cell BK238.out 5).trans rfl
                     have hcz51_6 : wr.cell? ⟨gb238, 6, none⟩ = some (.int .i64 a0_6) := (blk_cell BK238.out 6).trans rfl
                     have hcz51_7 : wr.cell? ⟨gb238, 7, none⟩ = some (.int .i64 a0_7) := (blk_cell BK238.out 7).trans rfl
                     have hcz51_8 : wr.cell? ⟨gb238, 8, none⟩ = some (.bool a0_8) := (blk_cell BK238.out 8).trans rfl
                     have hfz51_0 := blk_frozen BK238.out 0
                     have hfz51_1 := blk_frozen BK238.out 1
                     have hfz51_2 := blk_frozen BK238.out 2
                     have hfz51_3 := blk_frozen BK238.out 3
                     have hfz51_4 := blk_frozen BK238.out 4
                     have hfz51_5 := blk_frozen BK238.out 5
                     have hfz51_6 := blk_frozen BK238.out 6
                     have hfz51_7 := blk_frozen BK238.out 7
                     have hfz51_8 := blk_frozen BK238.out 8
                     have p244 : 0 ≤ (x10_6 : Int) := of_decide_eq_true (by first | (with_reducible assumption) | assumption)
                     have q244 : x10_6 < (l0_4.length : Int) := of_decide_eq_true (by first | (with_reducible assumption) | assumption)
                     obtain ⟨ad244, A244_9, c244_9, e244, hx244_0, hx244_1, hx244_2, hx244_3, hx244_4, hx244_5, hx244_6, hx244_7, hx244_8, hx244_9, hx244_10, hx244_11, hx244_12, hx244_13, hl244_9, hi244_9⟩ := at_T40 HR0_4.out x10_6 p244 q244
                     obtain rfl : ad242 = ad244 := (by injection e244)
                     replace hx244_0 := (HB.out.cell (World.block_lt_of_cell? w _ hx244_0)).trans hx244_0
                     replace hx244_1 := (HB.out.cell (World.block_lt_of_cell? w _ hx244_1)).trans hx244_1
                     replace hx244_2 := (HB.out.cell (World.block_lt_of_cell? w _ hx244_2)).trans hx244_2
                     replace hx244_3 := (HB.out.cell (World.block_lt_of_cell? w _ hx244_3)).trans hx244_3
                     replace hx244_4 := (HB.out.cell (World.block_lt_of_cell? w _ hx244_4)).trans hx244_4
                     replace hx244_5 := (HB.out.cell (World.block_lt_of_cell? w _ hx244_5)).trans hx244_5
                     replace hx244_6 := (HB.out.cell (World.block_lt_of_cell? w _ hx244_6)).trans hx244_6
                     replace hx244_7 := (HB.out.cell (World.block_lt_of_cell? w _ hx244_7)).trans hx244_7
                     replace hx244_8 := (HB.out.cell (World.block_lt_of_cell? w _ hx244_8)).trans hx244_8
                     replace hx244_9 := (HB.out.cell (World.block_lt_of_cell? w _ hx244_9)).trans hx244_9
                     replace hx244_10 := (HB.out.cell (World.block_lt_of_cell? w _ hx244_10)).trans hx244_10
                     replace hx244_11 := (HB.out.cell (World.block_lt_of_cell? w _ hx244_11)).trans hx244_11
                     replace hx244_12 := (HB.out.cell (World.block_lt_of_cell? w _ hx244_12)).trans hx244_12
                     replace hx244_13 := (HB.out.cell (World.block_lt_of_cell? w _ hx244_13)).trans hx244_13
                     have HR244_9 := Aside0.mk hi244_9
                     have HC244_9 := Aside0.mk hl244_9
                     clear hi244_9 hl244_9
                     replace p244 := eq_true p244
                     replace q244 := eq_true q244
                     have hcz52_0 : wr.cell? ⟨gb243, 0, none⟩ = some (.string ((rd_T40 l0_4 x8_2).f0)) := (blk_cell BK243.out 0).trans rfl
                     have hcz52_1 : wr.cell? ⟨gb243, 1, none⟩ = some (.string ((rd_T40 l0_4 x8_2).f1)) := (blk_cell BK243.out 1).trans rfl
                     have hcz52_2 : wr.cell? ⟨gb243, 2, none⟩ = some (.int .u8 ((rd_T40 l0_4 x8_2).f2.f0.f0)) := (blk_cell BK243.out 2).trans rfl
                     have hcz52_3 : wr.cell? ⟨gb243, 3, none⟩ = some (.int .u8 ((rd_T40 l0_4 x8_2).f2.f0.f1)) := (blk_cell BK243.out 3).trans rfl
                     have hcz52_4 : wr.cell? ⟨gb243, 4, none⟩ = some (.int .u8 ((rd_T40 l0_4 x8_2).f2.f0.f2)) := (blk_cell BK243.out 4).trans rfl
                     have hcz52_5 : wr.cell? ⟨gb243, 5, none⟩ = some (.int .u8 ((rd_T40 l0_4 x8_2).f2.f0.f3)) := (blk_cell BK243.out 5).trans rfl
                     have hcz52_6 : wr.cell? ⟨gb243, 6, none⟩ = some (.int .i64 ((rd_T40 l0_4 x8_2).f2.f1)) := (blk_cell BK243.out 6).trans rfl
                     have hcz52_7 : wr.cell? ⟨gb243, 7, none⟩ = some (.int .i64 ((rd_T40 l0_4 x8_2).f3)) := (blk_cell BK243.out 7).trans rfl
                     have hcz52_8 : wr.cell? ⟨gb243, 8, none⟩ = some (.int .i64 ((rd_T40 l0_4 x8_2).f4)) := (blk_cell BK243.out 8).trans rfl
                     have hcz52_9 : wr.cell? ⟨gb243, 9, none⟩ = some (.slice A242_9 ((rd_T40 l0_4 x8_2).f5).length c242_9) := (blk_cell BK243.out 9).trans rfl
                     have hcz52_10 : wr.cell? ⟨gb243, 10, none⟩ = some (.int .i64 ((rd_T40 l0_4 x8_2).f6)) := (blk_cell BK243.out 10).trans rfl
                     have hcz52_11 : wr.cell? ⟨gb243, 11, none⟩ = some (.int .i64 ((rd_T40 l0_4 x8_2).f7)) := (blk_cell BK243.out 11).trans rfl
                     have hcz52_12 : wr.cell? ⟨gb243, 12, none⟩ = some (.int .i64 ((rd_T40 l0_4 x8_2).f8)) := (blk_cell BK243.out 12).trans rfl
                     have hcz52_13 : wr.cell? ⟨gb243, 13, none⟩ = some (.int .i64 ((rd_T40 l0_4 x8_2).f9)) := (blk_cell BK243.out 13).trans rfl
                     have hfz52_0 := blk_frozen BK243.out 0
                     have hfz52_1 := blk_frozen BK243.out 1
                     have hfz52_2 := blk_frozen BK243.out 2
                     have hfz52_3 := blk_frozen BK243.out 3
                     have hfz52_4 := blk_frozen BK243.out 4
                     have hfz52_5 := blk_frozen BK243.out 5
                     have hfz52_6 := blk_frozen BK243.out 6
                     have hfz52_7 := blk_frozen BK243.out 7
                     have hfz52_8 := blk_frozen BK243.out 8
                     have hfz52_9 := blk_frozen BK243.out 9
                     have hfz52_10 := blk_frozen BK243.out 10
                     have hfz52_11 := blk_frozen BK243.out 11
                     have hfz52_12 := blk_frozen BK243.out 12
                     have hfz52_13 := blk_frozen BK243.out 13
                     go_wp2
                     repeat (go_quiet (fail); try go_wp2)
                     go_ret
                     exact ⟨by first | rfl | (simp [errW_none, errW_some] <;> rfl) | (simp [*, errW_none, errW_some] <;> rfl), by repeat (first | (with_reducible first | exact HB.out | apply below_alloc | apply pw_below_drewN | apply below_drew1 | refine below_set ?_ GE238.out | refine below_set ?_ GE243.out) | exact HB.out)⟩
                    ·
                     rw [if_neg c49] at H
                     have c49b0 : (((rd_T40 l0_4 x10_6).f1).toList == ((rd_T40 l0_4 x8_2).f1).toList) = false := beq_eq_false_iff_ne.mpr c49
                     have c49b1 : (((rd_T40 l0_4 x10_6).f1).toList != ((rd_T40 l0_4 x8_2).f1).toList) = true := bne_iff_ne.mpr c49
                     have H' := Aside0.mk H
                     clear H
                     have hnb53 := NB238_243.out
                     have hnc53 := NB243_238.out
                     have hcz54_0 : wr.cell? ⟨gb238, 0, none⟩ = some (.int .u8 a0_0) := (blk_cell BK238.out 0).trans rfl
                     have hcz54_1 : wr.cell? ⟨gb238, 1, none⟩ = some (.int .u8 a0_1) := (blk_cell BK238.out 1).trans rfl
                     have hcz54_2 : wr.cell? ⟨gb238, 2, none⟩ = some (.int .u8 a0_2) := (blk_cell BK238.out 2).trans rfl
                     have hcz54_3 : wr.cell? ⟨gb238, 3, none⟩ = some (.int .u8 a0_3) := (blk_cell BK238.out 3).trans rfl
                     have hcz54_4 : wr.cell? ⟨gb238, 4, none⟩ = some (.slice (some ad242) l0_4.length c0_4) := (blk_cell BK238.out 4).trans rfl
                     have hcz54_5 : wr.cell? ⟨gb238, 5, none⟩ = some (.int .i64 a0_5) := (blk_cell BK238.out 5).trans rfl
                     have hcz54_6 : wr.cell? ⟨gb238, 6, none⟩ = some (.int .i64 a0_6) := (blk_cell BK238.out 6).trans rfl
                     have hcz54_7 : wr.cell? ⟨gb238, 7, none⟩ = some (.int .i64 a0_7) := (blk_cell BK238.out 7).trans rfl
                     have hcz54_8 : wr.cell? ⟨gb238, 8, none⟩ = some (.bool a0_8) := (blk_cell BK238.out 8).trans rfl
                     have hfz54_0 := blk_frozen BK238.out 0
                     have hfz54_1 := blk_frozen BK238.out 1
                     have hfz54_2 := blk_frozen BK238.out 2
                     have hfz54_3 := blk_frozen BK238.out 3
                     have hfz54_4 := blk_frozen BK238.out 4
                     have hfz54_5 := blk_frozen BK238.out 5
                     have hfz54_6 := blk_frozen BK238.out 6
                     have hfz54_7 := blk_frozen BK238.out 7
                     have hfz54_8 := blk_frozen BK238.out 8
                     have p244 : 0 ≤ (x10_6 : Int) := of_decide_eq_true (by first | (with_reducible assumption) | assumption)
                     have q244 : x10_6 < (l0_4.length : Int) := of_decide_eq_true (by first | (with_reducible assumption) | assumption)
                     obtain ⟨ad244, A244_9, c244_9, e244, hx244_0, hx244_1, hx244_2, hx244_3, hx244_4, hx244_5, hx244_6, hx244_7, hx244_8, hx244_9, hx244_10, hx244_11, hx244_12, hx244_13, hl244_9, hi244_9⟩ := at_T40 HR0_4.out x10_6 p244 q244
                     obtain rfl : ad242 = ad244 := (by injection e244)
                     replace hx244_0 := (HB.out.cell (World.block_lt_of_cell? w _ hx244_0)).trans hx244_0
                     replace hx244_1 := (HB.out.cell (World.block_lt_of_cell? w _ hx244_1)).trans hx244_1
                     replace hx244_2 := (HB.out.cell (World.block_lt_of_cell? w _ hx244_2)).trans hx244_2
                     replace hx244_3 := (HB.out.cell (World.block_lt_of_cell? w _ hx244_3)).trans hx244_3
                     replace hx244_4 := (HB.out.cell (World.block_lt_of_cell? w _ hx244_4)).trans hx244_4
                     replace hx244_5 := (HB.out.cell (World.block_lt_of_cell? w _ hx244_5)).trans hx244_5
                     replace hx244_6 := (HB.out.cell (World.block_lt_of_cell? w _ hx244_6)).trans hx244_6
                     replace hx244_7 := (HB.out.cell (World.block_lt_of_cell? w _ hx244_7)).trans hx244_7
                     replace hx244_8 := (HB.out.cell (World.block_lt_of_cell? w _ hx244_8)).trans hx244_8
                     replace hx244_9 := (HB.out.cell (World.block_lt_of_cell? w _ hx244_9)).trans hx244_9
                     replace hx244_10 := (HB.out.cell (World.block_lt_of_cell? w _ hx244_10)).trans hx244_10
                     replace hx244_11 := (HB.out.cell (World.block_lt_of_cell? w _ hx244_11)).trans hx244_11
                     replace hx244_12 := (HB.out.cell (World.block_lt_of_cell? w _ hx244_12)).trans hx244_12
                     replace hx244_13 := (HB.out.cell (World.block_lt_of_cell? w _ hx244_13)).trans hx244_13
                     have HR244_9 := Aside0.mk hi244_9
                     have HC244_9 := Aside0.mk hl244_9
                     clear hi244_9 hl244_9
                     replace p244 := eq_true p244
                     replace q244 := eq_true q244
                     have hcz55_0 : wr.cell? ⟨gb243, 0, none⟩ = some (.string ((rd_T40 l0_4 x8_2).f0)) := (blk_cell BK243.out 0).trans rfl
                     have hcz55_1 : wr.cell? ⟨gb243, 1, none⟩ = some (.string ((rd_T40 l0_4 x8_2).f1)) := (blk_cell BK243.out 1).trans rfl
                     have hcz55_2 : wr.cell? ⟨gb243, 2, none⟩ = some (.int .u8 ((rd_T40 l0_4 x8_2).f2.f0.f0)) := (blk_cell BK243.out 2).trans rfl
                     have hcz55_3 : wr.cell? ⟨gb243, 3, none⟩ = some (.int .u8 ((rd_T40 l0_4 x8_2).f2.f0.f1)) := (blk_cell BK243.out 3).trans rfl
                     have hcz55_4 : wr.cell? ⟨gb243, 4, none⟩ = some (.int .u8 ((rd_T40 l0_4 x8_2).f2.f0.f2)) := (blk_cell BK243.out 4).trans rfl
                     have hcz55_5 : wr.cell? ⟨gb243, 5, none⟩ = some (.int .u8 ((rd_T40 l0_4 x8_2).f2.f0.f3)) := (blk_cell BK243.out 5).trans rfl
                     have hcz55_6 : wr.cell? ⟨gb243, 6, none⟩ = some (.int .i64 ((rd_T40 l0_4 x8_2).f2.f1)) := (blk_cell BK243.out 6).trans rfl
                     have hcz55_7 : wr.cell? ⟨gb243, 7, none⟩ = some (.int .i64 ((rd_T40 l0_4 x8_2).f3)) := (blk_cell BK243.out 7).trans rfl
                     have hcz55_8 : wr.cell? ⟨gb243, 8, none⟩ = some (.int .i64 ((rd_T40 l0_4 x8_2).f4)) := (blk_cell BK243.out 8).trans rfl
                     have hcz55_9 : wr.cell? ⟨gb243, 9, none⟩ = some (.slice A242_9 ((rd_T40 l0_4 x8_2).f5).length c242_9) := (blk_cell BK243.out 9).trans rfl
                     have hcz55_10 : wr.cell? ⟨gb243, 10, none⟩ = some (.int .i64 ((rd_T40 l0_4 x8_2).f6)) := (blk_cell BK243.out 10).trans rfl
                     have hcz55_11 : wr.cell? ⟨gb243, 11, none⟩ = some (.int .i64 ((rd_T40 l0_4 x8_2).f7)) := (blk_cell BK243.out 11).trans rfl
                     have hcz55_12 : wr.cell? ⟨gb243, 12, none⟩ = some (.int .i64 ((rd_T40 l0_4 x8_2).f8)) := (blk_cell BK243.out 12).trans rfl
                     have hcz55_13 : wr.cell? ⟨gb243, 13, none⟩ = some (.int .i64 ((rd_T40 l0_4 x8_2).f9)) := (blk_cell BK243.out 13).trans rfl
                     have hfz55_0 := blk_frozen BK243.out 0
                     have hfz55_1 := blk_frozen BK243.out 1
                     have hfz55_2 := blk_frozen BK243.out 2
                     have hfz55_3 := blk_frozen BK243.out 3
                     have hfz55_4 := blk_frozen BK243.out 4
                     have hfz55_5 := blk_frozen BK243.out 5
                     have hfz55_6 := blk_frozen BK243.out 6
                     have hfz55_7 := blk_frozen BK243.out 7
                     have hfz55_8 := blk_frozen BK243.out 8
                     have hfz55_9 := blk_frozen BK243.out 9
                     have hfz55_10 := blk_frozen BK243.out 10
                     have hfz55_11 := blk_frozen BK243.out 11
                     have hfz55_12 := blk_frozen BK243.out 12
                     have hfz55_13 := blk_frozen BK243.out 13
                     go_wp2
                     repeat (go_quiet (fail); try go_wp2)
                     go_roundg k6
                     case measure => have := HJ4.out; have := HK2.out; have := HJ17.out; have := HJ27.out; have := HJ29.out; have := HK6.out; omega
                     case rel => exact ⟨(wrap64 (x10_6 + 1)), (by first | rfl | (simp; done) | (simp [*]; done)), H', ⟨by have := HJ4.out; have := HK2.out; have := HJ17.out; have := HJ27.out; have := HJ29.out; have := HK6.out; omega⟩, ⟨by (with_reducible repeat (first | refine blk_drewN ?_ _ | refine blk_drew ?_ | refine blk_alloc ?_ _)); exact BK238.out⟩, ⟨by (with_reducible repeat (first | refine blk_drewN ?_ _ | refine blk_drew ?_ | refine blk_alloc ?_ _)); exact BK243.out⟩, ⟨by repeat (first | (with_reducible first | exact HB.out | apply below_alloc | apply pw_below_drewN | apply below_drew1 | refine below_set ?_ GE238.out | refine below_set ?_ GE243.out) | exact HB.out)⟩⟩
                   ·
                    rw [if_neg c48] at H
                    exact absurd H (by simp)
                  ·
                   rw [if_neg c47] at H
                   exact absurd H (by simp)
                 ·
                  rw [if_neg c46] at H
                  have c46b0 : decide (x10_6 < x8_2) = false := decide_eq_false c46
                  clear c46
                  have H' := Aside0.mk H
                  clear H
                  go_wp2
                  repeat (go_quiet (fail); try go_wp2)
                  go_roundg k6
                  case measure => have := HJ4.out; have := HK2.out; have := HJ17.out; have := HJ27.out; have := HJ29.out; have := HK6.out; omega
                  case rel => exact ⟨(x7_27), (wrap64 (x8_2 + 1)), (by first | rfl | (simp; done) | (simp [*]; done)), (by first | rfl | (simp; done) | (simp [*]; done)), H', ⟨by have := HJ4.out; have := HK2.out; have := HJ17.out; have := HJ27.out; have := HJ29.out; have := HK6.out; omega⟩, ⟨by (with_reducible repeat (first | refine blk_drewN ?_ _ | refine blk_drew ?_ | refine blk_alloc ?_ _)); exact BK238.out⟩, ⟨by repeat (first | (with_reducible first | exact HB.out | apply below_alloc | apply pw_below_drewN | apply below_drew1 | refine below_set ?_ GE238.out | refine below_set ?_ GE243.out) | exact HB.out)⟩⟩
       ·
        rw [if_neg c17] at H
        exact absurd H (by simp)
      ·
       rw [if_neg c16] at H
       have c16b0 : decide (x8_2 < (l0_4.length : Int)) = false := decide_eq_false c16
       clear c16
       by_cases c56 : x7_2 ≤ 1
       ·
        rw [if_pos c56] at H
        have c56b0 : decide (x7_2 ≤ 1) = true := decide_eq_true c56
        clear c56
        by_cases c57 : (l0_4.length : Int) ≥ 1
        ·
         rw [if_pos c57] at H
         have c57b0 : decide (1 ≤ (l0_4.length : Int)) = true := decide_eq_true c57
         have c57b1 : decide (1 ≤ l0_4.length) = true := decide_eq_true (by omega)
         clear c57
         obtain rfl := Option.some.inj H
         have hcz58_0 : wr.cell? ⟨gb238, 0, none⟩ = some (.int .u8 a0_0) := (blk_cell BK238.out 0).trans rfl
         have hcz58_1 : wr.cell? ⟨gb238, 1, none⟩ = some (.int .u8 a0_1) := (blk_cell BK238.out 1).trans rfl
         have hcz58_2 : wr.cell? ⟨gb238, 2, none⟩ = some (.int .u8 a0_2) := (blk_cell BK238.out 2).trans rfl
         have hcz58_3 : wr.cell? ⟨gb238, 3, none⟩ = some (.int .u8 a0_3) := (blk_cell BK238.out 3).trans rfl
         have hcz58_4 : wr.cell? ⟨gb238, 4, none⟩ = some (.slice A0_4 l0_4.length c0_4) := (blk_cell BK238.out 4).trans rfl
         have hcz58_5 : wr.cell? ⟨gb238, 5, none⟩ = some (.int .i64 a0_5) := (blk_cell BK238.out 5).trans rfl
         have hcz58_6 : wr.cell? ⟨gb238, 6, none⟩ = some (.int .i64 a0_6) := (blk_cell BK238.out 6).trans rfl
         have hcz58_7 : wr.cell? ⟨gb238, 7, none⟩ = some (.int .i64 a0_7) := (blk_cell BK238.out 7).trans rfl
         have hcz58_8 : wr.cell? ⟨gb238, 8, none⟩ = some (.bool a0_8) := (blk_cell BK238.out 8).trans rfl
         have hfz58_0 := blk_frozen BK238.out 0
         have hfz58_1 := blk_frozen BK238.out 1
         have hfz58_2 := blk_frozen BK238.out 2
         have hfz58_3 := blk_frozen BK238.out 3
         have hfz58_4 := blk_frozen BK238.out 4
         have hfz58_5 := blk_frozen BK238.out 5
         have hfz58_6 := blk_frozen BK238.out 6
         have hfz58_7 := blk_frozen BK238.out 7
         have hfz58_8 := blk_frozen BK238.out 8
         go_wp2
         repeat (go_quiet (fail); try go_wp2)
         go_ret
         exact ⟨by first | rfl | (simp [errW_none, errW_some] <;> rfl) | (simp [*, errW_none, errW_some] <;> rfl), by repeat (first | (with_reducible first | exact HB.out | apply below_alloc | apply pw_below_drewN | apply below_drew1 | refine below_set ?_ GE238.out) | exact HB.out)⟩
        ·
         rw [if_neg c57] at H
         have c57b0 : decide (1 ≤ (l0_4.length : Int)) = false := decide_eq_false c57
         have c57b1 : decide (1 ≤ l0_4.length) = false := decide_eq_false (by omega)
         clear c57
         obtain rfl := Option.some.inj H
         have hcz59_0 : wr.cell? ⟨gb238, 0, none⟩ = some (.int .u8 a0_0) := (blk_cell BK238.out 0).trans rfl
         have hcz59_1 : wr.cell? ⟨gb238, 1, none⟩ = some (.int .u8 a0_1) := (blk_cell BK238.out 1).trans rfl
         have hcz59_2 : wr.cell? ⟨gb238, 2, none⟩ = some (.int .u8 a0_2) := (blk_cell BK238.out 2).trans rfl
         have hcz59_3 : wr.cell? ⟨gb238, 3, none⟩ = some (.int .u8 a0_3) := (blk_cell BK238.out 3).trans rfl
         have hcz59_4 : wr.cell? ⟨gb238, 4, none⟩ = some (.slice A0_4 l0_4.length c0_4) := (blk_cell BK238.out 4).trans rfl
         have hcz59_5 : wr.cell? ⟨gb238, 5, none⟩ = some (.int .i64 a0_5) := (blk_cell BK238.out 5).trans rfl
         have hcz59_6 : wr.cell? ⟨gb238, 6, none⟩ = some (.int .i64 a0_6) := (blk_cell BK238.out 6).trans rfl
         have hcz59_7 : wr.cell? ⟨gb238, 7, none⟩ = some (.int .i64 a0_7) := (blk_cell BK238.out 7).trans rfl
         have hcz59_8 : wr.cell? ⟨gb238, 8, none⟩ = some (.bool a0_8) := (blk_cell BK238.out 8).trans rfl
         have hfz59_0 := blk_frozen BK238.out 0
         have hfz59_1 := blk_frozen BK238.out 1
         have hfz59_2 := blk_frozen BK238.out 2
         have hfz59_3 := blk_frozen BK238.out 3
         have hfz59_4 := blk_frozen BK238.out 4
         have hfz59_5 := blk_frozen BK238.out 5
         have hfz59_6 := blk_frozen BK238.out 6
         have hfz59_7 := blk_frozen BK238.out 7
         have hfz59_8 := blk_frozen BK238.out 8
         go_wp2
         repeat (go_quiet (fail); try go_wp2)
         go_ret
         exact ⟨by first | rfl | (simp [errW_none, errW_some] <;> rfl) | (simp [*, errW_none, errW_some] <;> rfl), by repeat (first | (with_reducible first | exact HB.out | apply below_alloc | apply pw_below_drewN | apply below_drew1 | refine below_set ?_ GE238.out) | exact HB.out)⟩
       ·
        rw [if_neg c56] at H
        have c56b0 : decide (x7_2 ≤ 1) = false := decide_eq_false c56
        clear c56
        obtain rfl := Option.some.inj H
        have hcz60_0 : wr.cell? ⟨gb238, 0, none⟩ = some (.int .u8 a0_0) := (blk_cell BK238.out 0).trans rfl
        have hcz60_1 : wr.cell? ⟨gb238, 1, none⟩ = some (.int .u8 a0_1) := (blk_cell BK238.out 1).trans rfl
        have hcz60_2 : wr.cell? ⟨gb238, 2, none⟩ = some (.int .u8 a0_2) := (blk_cell BK238.out 2).trans rfl
        have hcz60_3 : wr.cell? ⟨gb238, 3, none⟩ = some (.int .u8 a0_3) := (blk_cell BK238.out 3).trans rfl
        have hcz60_4 : wr.cell? ⟨gb238, 4, none⟩ = some (.slice A0_4 l0_4.length c0_4) := (blk_cell BK238.out 4).trans rfl
        have hcz60_5 : wr.cell? ⟨gb238, 5, none⟩ = some (.int .i64 a0_5) := (blk_cell BK238.out 5).trans rfl
        have hcz60_6 : wr.cell? ⟨gb238, 6, none⟩ = some (.int .i64 a0_6) := (blk_cell BK238.out 6).trans rfl
        have hcz60_7 : wr.cell? ⟨gb238, 7, none⟩ = some (.int .i64 a0_7) := (blk_cell BK238.out 7).trans rfl
        have hcz60_8 : wr.cell? ⟨gb238, 8, none⟩ = some (.bool a0_8) := (blk_cell BK238.out 8).trans rfl
        have hfz60_0 := blk_frozen BK238.out 0
        have hfz60_1 := blk_frozen BK238.out 1
        have hfz60_2 := blk_frozen BK238.out 2
        have hfz60_3 := blk_frozen BK238.out 3
        have hfz60_4 := blk_frozen BK238.out 4
        have hfz60_5 := blk_frozen BK238.out 5
        have hfz60_6 := blk_frozen BK238.out 6
        have hfz60_7 := blk_frozen BK238.out 7
        have hfz60_8 := blk_frozen BK238.out 8
        go_wp2
        repeat (go_quiet (fail); try go_wp2)
        go_ret
        exact ⟨by first | rfl | (simp [errW_none, errW_some] <;> rfl) | (simp [*, errW_none, errW_some] <;> rfl), by repeat (first | (with_reducible first | exact HB.out | apply below_alloc | apply pw_below_drewN | apply below_drew1 | refine below_set ?_ GE238.out) | exact HB.out)⟩

end Go.Proofs.YtajaedebndeajaaDoor.Q

namespace Go.Proofs.YtajaedebndeajaaDoor.Pure
open Go Go.RowKit Go.Proofs.YtajaedebndeajaaDoor.Q Go.Proofs.YtajaedebndeajaaDoor.Quad Go.Proofs.YtajaedebndeajaaDoorW.PrintWords Go.Proofs.YtajaedebndeajaaDoorW.PrintLast Go.Proofs.YtajaedebndeajaaDoorW.PrintMore
set_option linter.unusedVariables false
set_option linter.unusedSimpArgs false

def hasP (p : Int) (t : Ten) : Bool := decide (t.f3 ≤ p) && decide (p ≤ t.f4)
theorem apart_count {l : List Ten} (hf : ∀ j, j < l.length → fine l j) (p : Int) : ∀ i, i ≤ l.length → (l.take i).countP (hasP p) ≤ 1 := by
  intro i
  induction i with
  | zero => simp
  | succ i ih =>
    intro hi
    have hlt : i < l.length := by omega
    rw [List.take_succ_eq_append_getElem hlt, List.countP_append, List.countP_singleton]
    have h1 := ih (by omega)
    cases hh : hasP p l[i]
    · simpa using h1
    · obtain ⟨_, _, _, _, _, _, hm⟩ := fine_facts hlt (hf i hlt)
      have h0 : (l.take i).countP (hasP p) = 0 := by
        rw [List.countP_eq_zero]
        intro x hx hxp
        have := hm x hx
        rw [meets, decide_eq_false_iff_not, mx, mn] at this
        rw [hasP, Bool.and_eq_true, decide_eq_true_iff, decide_eq_true_iff] at hh hxp
        omega
      rw [h0]; simp
theorem apart_l1 (o0 o1 o2 o3 : Int) (l : List Ten) (pre life idle : Int) (lf : Bool) (t : Ten) (p x7 : Int) (i : Nat) (hi : i < l.length) (hl : l.length ≤ 1000000) (hh : ∀ x ∈ l.take i, (x.f1.toList = t.f1.toList) = False) (R : Bool)
    (hR : Ev (fun k => wharfingerlaw13_ConfApart.l0 k p x7 ((i + 1 : Nat) : Int) o0 o1 o2 o3 l pre life idle lf) R) :
    ∀ d j : Nat, j + d = i → Ev (fun k => wharfingerlaw13_ConfApart.l1 k p x7 (i : Int) (j : Int) o0 o1 o2 o3 l pre life idle lf t.f0 t.f1 t.f2.f0.f0 t.f2.f0.f1 t.f2.f0.f2 t.f2.f0.f3 t.f2.f1 t.f3 t.f4 t.f5 t.f6 t.f7 t.f8 t.f9) R := by
  intro d
  induction d with
  | zero =>
    intro j hj
    refine Ev.step (fun k => ?_) hR
    simp only [wharfingerlaw13_ConfApart.l1]
    rw [if_neg (by omega), wrap_up (by omega)]
  | succ d ih =>
    intro j hj
    have hjl : j < l.length := by omega
    have hne := hh l[j] (List.mem_take_iff_getElem.2 ⟨j, by omega, rfl⟩)
    refine Ev.step (fun k => ?_) (ih (j + 1) (by omega))
    simp only [wharfingerlaw13_ConfApart.l1]
    rw [if_pos (by omega), if_pos (by omega), if_pos (by omega), rd_ten l j hjl, if_neg (by rw [hne]; exact id), wrap_up (by omega)]
theorem apart_j3 (o0 o1 o2 o3 : Int) (l : List Ten) (pre life idle : Int) (lf : Bool) (t : Ten) (p x7 : Int) (i : Nat) (hi : i < l.length) (hl : l.length ≤ 1000000) (hh : ∀ x ∈ l.take i, (x.f1.toList = t.f1.toList) = False)
    (h1 : 1024 ≤ t.f3) (h2 : t.f3 ≤ t.f4) (h3 : t.f4 ≤ 65535) (h4 : 1 ≤ t.f6) (h5 : 1 ≤ t.f7) (R : Bool)
    (hR : Ev (fun k => wharfingerlaw13_ConfApart.l0 k p x7 ((i + 1 : Nat) : Int) o0 o1 o2 o3 l pre life idle lf) R) :
    Ev (fun k => wharfingerlaw13_ConfApart.j3 k p x7 (i : Int) o0 o1 o2 o3 l pre life idle lf t.f0 t.f1 t.f2.f0.f0 t.f2.f0.f1 t.f2.f0.f2 t.f2.f0.f3 t.f2.f1 t.f3 t.f4 t.f5 t.f6 t.f7 t.f8 t.f9) R := by
  have hl1 := apart_l1 o0 o1 o2 o3 l pre life idle lf t p x7 i hi hl hh R hR i 0 (by omega)
  have hj4 : Ev (fun k => wharfingerlaw13_ConfApart.j4 k p x7 (i : Int) false o0 o1 o2 o3 l pre life idle lf t.f0 t.f1 t.f2.f0.f0 t.f2.f0.f1 t.f2.f0.f2 t.f2.f0.f3 t.f2.f1 t.f3 t.f4 t.f5 t.f6 t.f7 t.f8 t.f9) R := by
    refine Ev.step (fun k => ?_) hl1
    simp only [wharfingerlaw13_ConfApart.j4]
    rfl
  refine Ev.step (fun k => ?_) hj4
  simp only [wharfingerlaw13_ConfApart.j3]
  rw [if_neg (by omega), if_neg (by omega), if_neg (by omega), if_neg (by omega), decide_eq_false (by omega)]
theorem apart_l0 (o0 o1 o2 o3 : Int) (l : List Ten) (pre life idle : Int) (lf : Bool) (p : Int) (hf : ∀ j, j < l.length → fine l j) (hl : 1 ≤ l.length ∧ l.length ≤ 4) :
    ∀ d i : Nat, i + d = l.length → Ev (fun k => wharfingerlaw13_ConfApart.l0 k p (((l.take i).countP (hasP p) : Nat) : Int) (i : Int) o0 o1 o2 o3 l pre life idle lf) true := by
  intro d
  induction d with
  | zero =>
    intro i hi
    have hc := apart_count hf p i (by omega)
    refine Ev.step (f := fun _ => some true) (fun k => ?_) (Ev.now _)
    simp only [wharfingerlaw13_ConfApart.l0]
    rw [if_neg (by omega), if_pos (by omega), if_pos (by omega), decide_eq_true (by omega)]
  | succ d ih =>
    intro i hi
    have hlt : i < l.length := by omega
    obtain ⟨h1, h2, h3, h4, h5, hh, _⟩ := fine_facts hlt (hf i hlt)
    have hc := apart_count hf p i (by omega)
    have hn := ih (i + 1) (by omega)
    rw [List.take_succ_eq_append_getElem hlt, List.countP_append, List.countP_singleton] at hn
    obtain ⟨n, hne⟩ : ∃ n, n = (l.take i).countP (hasP p) := ⟨_, rfl⟩
    rw [← hne] at hc hn ⊢
    have hj2 : Ev (fun k => wharfingerlaw13_ConfApart.j2 k p (n : Int) (i : Int) (hasP p l[i]) o0 o1 o2 o3 l pre life idle lf (l[i]).f0 (l[i]).f1 (l[i]).f2.f0.f0 (l[i]).f2.f0.f1 (l[i]).f2.f0.f2 (l[i]).f2.f0.f3 (l[i]).f2.f1 (l[i]).f3 (l[i]).f4 (l[i]).f5 (l[i]).f6 (l[i]).f7 (l[i]).f8 (l[i]).f9) true := by
      cases hp : hasP p l[i]
      · rw [hp] at hn
        refine Ev.step (fun k => ?_) (apart_j3 o0 o1 o2 o3 l pre life idle lf l[i] p (n : Int) i hlt (by omega) hh h1 h2 h3 h4 h5 true hn)
        simp only [wharfingerlaw13_ConfApart.j2]
        rfl
      · rw [hp] at hn
        refine Ev.step (fun k => ?_) (apart_j3 o0 o1 o2 o3 l pre life idle lf l[i] p ((n + 1 : Nat) : Int) i hlt (by omega) hh h1 h2 h3 h4 h5 true hn)
        simp only [wharfingerlaw13_ConfApart.j2]
        rw [if_pos trivial, wrap_up (by omega)]
    refine Ev.step (fun k => ?_) hj2
    simp only [wharfingerlaw13_ConfApart.l0]
    rw [if_pos (by omega), if_pos (by omega), rd_ten l i hlt]
    by_cases hp1 : p ≥ (l[i]).f3
    · rw [if_pos hp1, hasP, decide_eq_true (show (l[i]).f3 ≤ p from hp1), Bool.true_and]
    · rw [if_neg hp1, hasP, decide_eq_false (show ¬ (l[i]).f3 ≤ p from hp1), Bool.false_and]
theorem confApart_ev (o0 o1 o2 o3 : Int) (l : List Ten) (pre life idle : Int) (lf : Bool) (p : Int) : Ev (fun k => wharfingerlaw13_ConfApart.f k o0 o1 o2 o3 l pre life idle lf p) true := by
  have hj : Ev (fun k => wharfingerlaw13_ConfApart.j0 k p true true o0 o1 o2 o3 l pre life idle lf) true := by
    refine Ev.step (f := fun _ => some true) (fun k => ?_) (Ev.now _)
    simp only [wharfingerlaw13_ConfApart.j0]
    rfl
  unfold wharfingerlaw13_ConfApart.f
  simp only [awake_is, Option.bind_some, ↓reduceIte]
  refine Ev.bind (few_ev o0 o1 o2 o3 l pre life idle lf) ?_
  cases hfew : fewS l
  · simp only [Bool.false_eq_true, ↓reduceIte]
    exact hj
  · have hl := few_ok hfew
    simp only [↓reduceIte, may_at _ _ _ _ l _ _ _ _ hl, Option.bind_some]
    cases hm : ((whyS l pre life idle).2 == 0)
    · exact hj
    · obtain ⟨hh, hf⟩ := may_means hm
      refine Ev.step (fun k => ?_) (apart_l0 o0 o1 o2 o3 l pre life idle lf p hf (head_len hh) l.length 0 (by omega))
      simp only [wharfingerlaw13_ConfApart.j0]
      rfl
theorem apart_walk (o0 o1 o2 o3 : Int) (A : Option Addr) (c : Nat) (l : List S40) (pre life idle : Int) (lf : Bool) (p : Int) (w : World) (hc : l.length ≤ c) (hr : Kd.C k40 w A l.length l) (hmet : AclMet.WMet w) :
    Calls Tryd.prog 5 #[.agg #[.int .u8 o0, .int .u8 o1, .int .u8 o2, .int .u8 o3, .slice A l.length c, .int .i64 pre, .int .i64 life, .int .i64 idle, .bool lf], .int .i64 p] w fun e w' => e = .returned (.bool true) ∧ Below w.heap.size w w' := by
  obtain ⟨k, hk⟩ := (confApart_ev o0 o1 o2 o3 l pre life idle lf p).rounds
  exact wharfingerlaw13_ConfApart.calls k o0 o1 o2 o3 A c l pre life idle lf p true w hr hc hmet hk
end Go.Proofs.YtajaedebndeajaaDoor.Pure
