/- The walk of PathMay. -/
import Derived.Test.YtipojdjdlnafmaaDoorPathLaws
namespace Go.Proofs.YtipojdjdlnafmaaDoor.Path
open Go Go.RowKit Go.Proofs.YtipojdjdlnafmaaDoorW.PrintWords Go.Proofs.YtipojdjdlnafmaaDoorW.PrintLast Go.Proofs.YtipojdjdlnafmaaDoorW.PrintMore Go.Proofs.YtipojdjdlnafmaaDoor.Quad
set_option linter.unusedVariables false
set_option linter.unusedSimpArgs false

set_option maxHeartbeats 2000000 in
set_option maxRecDepth 100000 in
theorem may_walk (s t : ByteArray) (w : World) (hm : Mx w) :
    Calls Tryd.prog 4 #[.string s, .string t] w fun e w' => e = .returned (.bool true) ∧ Below w.heap.size w w' := by
  have HM := Aside0.mk hm
  have HB := Aside0.mk (Below.refl w.heap.size w)
  clear hm
  rcases long2 s t with h1 | ⟨h1, h2⟩ | ⟨h1, h2, hs, ht⟩
  iterate 2
    · go_enter Tryd.func4, Tryd.ntmps4
      go_wp2_with (first
        | (go_at_call 10; with_reducible refine (awake' HM.out HB.out).mono ?_; rintro e w9 ⟨rfl, hb⟩; replace HB := Aside0.mk hb; clear hb))
      go_ret
      exact ⟨rfl, HB.out⟩
  · have hs2 : (ByteArray.mk #[47, 46]).size = 2 := rfl
    have hts : (t ++ ⟨#[47, 46]⟩ : ByteArray).size ≤ 1000000 := by rw [ByteArray.size_append, hs2]; omega
    rcases join_goes (s := s) (t := t) (by omega) (by omega) with ⟨r, hj, he, hr, hmr⟩ | ⟨z, hj, hz, _, _⟩
    · have HJ := Aside0.mk hj
      have HMR := Aside0.mk (show MayIs r true from ⟨by omega, hmr⟩)
      have J3 := Aside0.mk (show JoinIs ⟨#[47]⟩ r r 0 from .ok (by decide) (by omega) (PathP.join_abs PathP.may_root hmr))
      have J4 := Aside0.mk (show JoinIs r ⟨#[]⟩ r 0 from .ok (by omega) (by decide) (PathP.join_stay hmr (.inl rfl)))
      have J5 := Aside0.mk (show JoinIs r ⟨#[46]⟩ r 0 from .ok (by omega) (by decide) (PathP.join_stay hmr (.inr rfl)))
      by_cases hmt : PathP.may t.data.toList = true
      · have hc := (PathP.join_may (cwd := s.data.toList) (arg := t.data.toList) (by rw [he])).2.2.1
        have hrt : r = t := bytes_ext (by
          have := PathP.join_abs hc hmt
          rw [he] at this; exact (Prod.mk.inj this).1)
        subst hrt
        have J2 := Aside0.mk (show JoinIs r (r ++ ⟨#[47, 46]⟩) r 0 from .ok (by omega) hts (by
          rw [show (r ++ ⟨#[47, 46]⟩ : ByteArray).data.toList = r.data.toList ++ [47, 46] from by simp]
          exact PathP.join_abs_dot hmr hmr))
        clear hj he hmr hmt hc hts
        go_enter Tryd.func4, Tryd.ntmps4
        go_wp2_with (first
          | (go_at_call 10; with_reducible refine (awake' HM.out HB.out).mono ?_; rintro e w9 ⟨rfl, hb⟩; replace HB := Aside0.mk hb; clear hb)
          | (go_at_call 12; with_reducible refine (HJ.out.calls HM.out HB.out).mono ?_; rintro e w9 ⟨rfl, hb⟩; replace HB := Aside0.mk hb; clear hb)
          | (go_at_call 12; with_reducible refine (J2.out.calls HM.out HB.out).mono ?_; rintro e w9 ⟨rfl, hb⟩; replace HB := Aside0.mk hb; clear hb)
          | (go_at_call 12; with_reducible refine (J3.out.calls HM.out HB.out).mono ?_; rintro e w9 ⟨rfl, hb⟩; replace HB := Aside0.mk hb; clear hb)
          | (go_at_call 12; with_reducible refine (J4.out.calls HM.out HB.out).mono ?_; rintro e w9 ⟨rfl, hb⟩; replace HB := Aside0.mk hb; clear hb)
          | (go_at_call 12; with_reducible refine (J5.out.calls HM.out HB.out).mono ?_; rintro e w9 ⟨rfl, hb⟩; replace HB := Aside0.mk hb; clear hb)
          | (go_at_call 15; with_reducible refine (HMR.out.calls HM.out HB.out).mono ?_; rintro e w9 ⟨rfl, hb⟩; replace HB := Aside0.mk hb; clear hb))
        go_ret
        exact ⟨rfl, HB.out⟩
      · obtain ⟨x, z, hj2, _, _⟩ := joinIs (s := r) (t := t ++ ⟨#[47, 46]⟩) (by omega) hts
        have J2 := Aside0.mk hj2
        have HMT := Aside0.mk (show MayIs t false from ⟨by omega, by simpa using hmt⟩)
        clear hj he hmr hmt hts hj2
        go_enter Tryd.func4, Tryd.ntmps4
        go_wp2_with (first
          | (go_at_call 10; with_reducible refine (awake' HM.out HB.out).mono ?_; rintro e w9 ⟨rfl, hb⟩; replace HB := Aside0.mk hb; clear hb)
          | (go_at_call 12; with_reducible refine (HJ.out.calls HM.out HB.out).mono ?_; rintro e w9 ⟨rfl, hb⟩; replace HB := Aside0.mk hb; clear hb)
          | (go_at_call 12; with_reducible refine (J2.out.calls HM.out HB.out).mono ?_; rintro e w9 ⟨rfl, hb⟩; replace HB := Aside0.mk hb; clear hb)
          | (go_at_call 12; with_reducible refine (J3.out.calls HM.out HB.out).mono ?_; rintro e w9 ⟨rfl, hb⟩; replace HB := Aside0.mk hb; clear hb)
          | (go_at_call 12; with_reducible refine (J4.out.calls HM.out HB.out).mono ?_; rintro e w9 ⟨rfl, hb⟩; replace HB := Aside0.mk hb; clear hb)
          | (go_at_call 12; with_reducible refine (J5.out.calls HM.out HB.out).mono ?_; rintro e w9 ⟨rfl, hb⟩; replace HB := Aside0.mk hb; clear hb)
          | (go_at_call 15; with_reducible refine (HMR.out.calls HM.out HB.out).mono ?_; rintro e w9 ⟨rfl, hb⟩; replace HB := Aside0.mk hb; clear hb)
          | (go_at_call 15; with_reducible refine (HMT.out.calls HM.out HB.out).mono ?_; rintro e w9 ⟨rfl, hb⟩; replace HB := Aside0.mk hb; clear hb))
        go_ret
        exact ⟨rfl, HB.out⟩
    · have HJ := Aside0.mk hj
      have hz' : (z != 0) = true := by rw [bne, hz]; rfl
      clear hj hts
      go_enter Tryd.func4, Tryd.ntmps4
      go_wp2_with (first
        | (go_at_call 10; with_reducible refine (awake' HM.out HB.out).mono ?_; rintro e w9 ⟨rfl, hb⟩; replace HB := Aside0.mk hb; clear hb)
        | (go_at_call 12; with_reducible refine (HJ.out.calls HM.out HB.out).mono ?_; rintro e w9 ⟨rfl, hb⟩; replace HB := Aside0.mk hb; clear hb))
      go_ret
      exact ⟨rfl, HB.out⟩
end Go.Proofs.YtipojdjdlnafmaaDoor.Path
