/- The walk of PathUnder. -/
import Derived.Test.YtipojdjdlnafmaaDoorPathLaws
namespace Go.Proofs.YtipojdjdlnafmaaDoor.Path
open Go Go.RowKit Go.Proofs.YtipojdjdlnafmaaDoorW.PrintWords Go.Proofs.YtipojdjdlnafmaaDoorW.PrintLast Go.Proofs.YtipojdjdlnafmaaDoorW.PrintMore Go.Proofs.YtipojdjdlnafmaaDoor.Quad
set_option linter.unusedVariables false
set_option linter.unusedSimpArgs false

set_option maxHeartbeats 2000000 in
set_option maxRecDepth 100000 in
theorem underl_walk (s t r : ByteArray) (w : World) (hm : Mx w) :
    Calls Tryd.prog 6 #[.string s, .string t, .string r] w fun e w' => e = .returned (.bool true) ∧ Below w.heap.size w w' := by
  have HM := Aside0.mk hm
  have HB := Aside0.mk (Below.refl w.heap.size w)
  clear hm
  rcases long3 s t r with h1 | ⟨h1, h2⟩ | ⟨h1, h2, h3⟩ | ⟨h1, h2, h3, hs, ht, hr⟩
  iterate 3
    · go_enter Tryd.func6, Tryd.ntmps6
      go_wp2_with (first
        | (go_at_call 10; with_reducible refine (awake' HM.out HB.out).mono ?_; rintro e w9 ⟨rfl, hb⟩; replace HB := Aside0.mk hb; clear hb))
      go_ret
      exact ⟨rfl, HB.out⟩
  · obtain ⟨b1, h1'⟩ : ∃ b, PathP.under s.data.toList t.data.toList = b := ⟨_, rfl⟩
    obtain ⟨b2, h2'⟩ : ∃ b, PathP.under t.data.toList r.data.toList = b := ⟨_, rfl⟩
    obtain ⟨b3, h3'⟩ : ∃ b, PathP.under t.data.toList s.data.toList = b := ⟨_, rfl⟩
    have U1 := Aside0.mk (show UnderIs s t b1 from ⟨by omega, by omega, h1'⟩)
    have U2 := Aside0.mk (show UnderIs t r b2 from ⟨by omega, by omega, h2'⟩)
    have U3 := Aside0.mk (show UnderIs t s b3 from ⟨by omega, by omega, h3'⟩)
    by_cases hma : PathP.may s.data.toList = true
    · have HMA := Aside0.mk (show MayIs s true from ⟨by omega, hma⟩)
      have U4 := Aside0.mk (show UnderIs ⟨#[47]⟩ s true from ⟨by decide, by omega, PathP.under_root hma⟩)
      have U5 := Aside0.mk (show UnderIs s s true from ⟨by omega, by omega, PathP.under_self hma⟩)
      cases b1 with
      | false =>
        clear h1' h2' h3' hma
        go_enter Tryd.func6, Tryd.ntmps6
        go_wp2_with (first
          | (go_at_call 10; with_reducible refine (awake' HM.out HB.out).mono ?_; rintro e w9 ⟨rfl, hb⟩; replace HB := Aside0.mk hb; clear hb)
          | (go_at_call 15; with_reducible refine (HMA.out.calls HM.out HB.out).mono ?_; rintro e w9 ⟨rfl, hb⟩; replace HB := Aside0.mk hb; clear hb)
          | (go_at_call 16; with_reducible refine (U1.out.calls HM.out HB.out).mono ?_; rintro e w9 ⟨rfl, hb⟩; replace HB := Aside0.mk hb; clear hb)
          | (go_at_call 16; with_reducible refine (U2.out.calls HM.out HB.out).mono ?_; rintro e w9 ⟨rfl, hb⟩; replace HB := Aside0.mk hb; clear hb)
          | (go_at_call 16; with_reducible refine (U3.out.calls HM.out HB.out).mono ?_; rintro e w9 ⟨rfl, hb⟩; replace HB := Aside0.mk hb; clear hb)
          | (go_at_call 16; with_reducible refine (U4.out.calls HM.out HB.out).mono ?_; rintro e w9 ⟨rfl, hb⟩; replace HB := Aside0.mk hb; clear hb)
          | (go_at_call 16; with_reducible refine (U5.out.calls HM.out HB.out).mono ?_; rintro e w9 ⟨rfl, hb⟩; replace HB := Aside0.mk hb; clear hb))
        go_ret
        exact ⟨rfl, HB.out⟩
      | true =>
        cases b2 with
        | false =>
          cases b3 with
          | false =>
            clear h1' h2' h3' hma
            go_enter Tryd.func6, Tryd.ntmps6
            go_wp2_with (first
              | (go_at_call 10; with_reducible refine (awake' HM.out HB.out).mono ?_; rintro e w9 ⟨rfl, hb⟩; replace HB := Aside0.mk hb; clear hb)
              | (go_at_call 15; with_reducible refine (HMA.out.calls HM.out HB.out).mono ?_; rintro e w9 ⟨rfl, hb⟩; replace HB := Aside0.mk hb; clear hb)
              | (go_at_call 16; with_reducible refine (U1.out.calls HM.out HB.out).mono ?_; rintro e w9 ⟨rfl, hb⟩; replace HB := Aside0.mk hb; clear hb)
              | (go_at_call 16; with_reducible refine (U2.out.calls HM.out HB.out).mono ?_; rintro e w9 ⟨rfl, hb⟩; replace HB := Aside0.mk hb; clear hb)
              | (go_at_call 16; with_reducible refine (U3.out.calls HM.out HB.out).mono ?_; rintro e w9 ⟨rfl, hb⟩; replace HB := Aside0.mk hb; clear hb)
              | (go_at_call 16; with_reducible refine (U4.out.calls HM.out HB.out).mono ?_; rintro e w9 ⟨rfl, hb⟩; replace HB := Aside0.mk hb; clear hb)
              | (go_at_call 16; with_reducible refine (U5.out.calls HM.out HB.out).mono ?_; rintro e w9 ⟨rfl, hb⟩; replace HB := Aside0.mk hb; clear hb))
            go_ret
            exact ⟨rfl, HB.out⟩
          | true =>
            have hst : s = t := bytes_ext (PathP.under_anti h1' h3')
            subst hst
            clear h1' h2' h3' hma
            go_enter Tryd.func6, Tryd.ntmps6
            go_wp2_with (first
              | (go_at_call 10; with_reducible refine (awake' HM.out HB.out).mono ?_; rintro e w9 ⟨rfl, hb⟩; replace HB := Aside0.mk hb; clear hb)
              | (go_at_call 15; with_reducible refine (HMA.out.calls HM.out HB.out).mono ?_; rintro e w9 ⟨rfl, hb⟩; replace HB := Aside0.mk hb; clear hb)
              | (go_at_call 16; with_reducible refine (U1.out.calls HM.out HB.out).mono ?_; rintro e w9 ⟨rfl, hb⟩; replace HB := Aside0.mk hb; clear hb)
              | (go_at_call 16; with_reducible refine (U2.out.calls HM.out HB.out).mono ?_; rintro e w9 ⟨rfl, hb⟩; replace HB := Aside0.mk hb; clear hb)
              | (go_at_call 16; with_reducible refine (U3.out.calls HM.out HB.out).mono ?_; rintro e w9 ⟨rfl, hb⟩; replace HB := Aside0.mk hb; clear hb)
              | (go_at_call 16; with_reducible refine (U4.out.calls HM.out HB.out).mono ?_; rintro e w9 ⟨rfl, hb⟩; replace HB := Aside0.mk hb; clear hb)
              | (go_at_call 16; with_reducible refine (U5.out.calls HM.out HB.out).mono ?_; rintro e w9 ⟨rfl, hb⟩; replace HB := Aside0.mk hb; clear hb))
            go_ret
            exact ⟨rfl, HB.out⟩
        | true =>
          have U6 := Aside0.mk (show UnderIs s r true from ⟨by omega, by omega, PathP.under_trans h1' h2'⟩)
          cases b3 with
          | false =>
            clear h1' h2' h3' hma
            go_enter Tryd.func6, Tryd.ntmps6
            go_wp2_with (first
              | (go_at_call 10; with_reducible refine (awake' HM.out HB.out).mono ?_; rintro e w9 ⟨rfl, hb⟩; replace HB := Aside0.mk hb; clear hb)
              | (go_at_call 15; with_reducible refine (HMA.out.calls HM.out HB.out).mono ?_; rintro e w9 ⟨rfl, hb⟩; replace HB := Aside0.mk hb; clear hb)
              | (go_at_call 16; with_reducible refine (U1.out.calls HM.out HB.out).mono ?_; rintro e w9 ⟨rfl, hb⟩; replace HB := Aside0.mk hb; clear hb)
              | (go_at_call 16; with_reducible refine (U2.out.calls HM.out HB.out).mono ?_; rintro e w9 ⟨rfl, hb⟩; replace HB := Aside0.mk hb; clear hb)
              | (go_at_call 16; with_reducible refine (U3.out.calls HM.out HB.out).mono ?_; rintro e w9 ⟨rfl, hb⟩; replace HB := Aside0.mk hb; clear hb)
              | (go_at_call 16; with_reducible refine (U4.out.calls HM.out HB.out).mono ?_; rintro e w9 ⟨rfl, hb⟩; replace HB := Aside0.mk hb; clear hb)
              | (go_at_call 16; with_reducible refine (U5.out.calls HM.out HB.out).mono ?_; rintro e w9 ⟨rfl, hb⟩; replace HB := Aside0.mk hb; clear hb)
              | (go_at_call 16; with_reducible refine (U6.out.calls HM.out HB.out).mono ?_; rintro e w9 ⟨rfl, hb⟩; replace HB := Aside0.mk hb; clear hb))
            go_ret
            exact ⟨rfl, HB.out⟩
          | true =>
            have hst : s = t := bytes_ext (PathP.under_anti h1' h3')
            subst hst
            clear h1' h2' h3' hma
            go_enter Tryd.func6, Tryd.ntmps6
            go_wp2_with (first
              | (go_at_call 10; with_reducible refine (awake' HM.out HB.out).mono ?_; rintro e w9 ⟨rfl, hb⟩; replace HB := Aside0.mk hb; clear hb)
              | (go_at_call 15; with_reducible refine (HMA.out.calls HM.out HB.out).mono ?_; rintro e w9 ⟨rfl, hb⟩; replace HB := Aside0.mk hb; clear hb)
              | (go_at_call 16; with_reducible refine (U1.out.calls HM.out HB.out).mono ?_; rintro e w9 ⟨rfl, hb⟩; replace HB := Aside0.mk hb; clear hb)
              | (go_at_call 16; with_reducible refine (U2.out.calls HM.out HB.out).mono ?_; rintro e w9 ⟨rfl, hb⟩; replace HB := Aside0.mk hb; clear hb)
              | (go_at_call 16; with_reducible refine (U3.out.calls HM.out HB.out).mono ?_; rintro e w9 ⟨rfl, hb⟩; replace HB := Aside0.mk hb; clear hb)
              | (go_at_call 16; with_reducible refine (U4.out.calls HM.out HB.out).mono ?_; rintro e w9 ⟨rfl, hb⟩; replace HB := Aside0.mk hb; clear hb)
              | (go_at_call 16; with_reducible refine (U5.out.calls HM.out HB.out).mono ?_; rintro e w9 ⟨rfl, hb⟩; replace HB := Aside0.mk hb; clear hb)
              | (go_at_call 16; with_reducible refine (U6.out.calls HM.out HB.out).mono ?_; rintro e w9 ⟨rfl, hb⟩; replace HB := Aside0.mk hb; clear hb))
            go_ret
            exact ⟨rfl, HB.out⟩
    · have hma' : PathP.may s.data.toList = false := by simpa using hma
      have HMA := Aside0.mk (show MayIs s false from ⟨by omega, hma'⟩)
      obtain rfl : b1 = false := h1'.symm.trans (PathP.under_none hma').1
      obtain rfl : b3 = false := h3'.symm.trans (PathP.under_none hma').2
      clear h1' h2' h3' hma hma'
      go_enter Tryd.func6, Tryd.ntmps6
      go_wp2_with (first
        | (go_at_call 10; with_reducible refine (awake' HM.out HB.out).mono ?_; rintro e w9 ⟨rfl, hb⟩; replace HB := Aside0.mk hb; clear hb)
        | (go_at_call 15; with_reducible refine (HMA.out.calls HM.out HB.out).mono ?_; rintro e w9 ⟨rfl, hb⟩; replace HB := Aside0.mk hb; clear hb)
        | (go_at_call 16; with_reducible refine (U1.out.calls HM.out HB.out).mono ?_; rintro e w9 ⟨rfl, hb⟩; replace HB := Aside0.mk hb; clear hb)
        | (go_at_call 16; with_reducible refine (U3.out.calls HM.out HB.out).mono ?_; rintro e w9 ⟨rfl, hb⟩; replace HB := Aside0.mk hb; clear hb))
      go_ret
      exact ⟨rfl, HB.out⟩
end Go.Proofs.YtipojdjdlnafmaaDoor.Path
