/- The walk of PathTells. -/
import Derived.Test.YtipojdjdlnafmaaDoorPathLaws
namespace Go.Proofs.YtipojdjdlnafmaaDoor.Path
open Go Go.RowKit Go.Proofs.YtipojdjdlnafmaaDoorW.PrintWords Go.Proofs.YtipojdjdlnafmaaDoorW.PrintLast Go.Proofs.YtipojdjdlnafmaaDoorW.PrintMore Go.Proofs.YtipojdjdlnafmaaDoor.Quad
set_option linter.unusedVariables false
set_option linter.unusedSimpArgs false

set_option maxHeartbeats 2000000 in
set_option maxRecDepth 100000 in
theorem tells_walk (s t r : ByteArray) (w : World) (hm : Mx w) :
    Calls Tryd.prog 3 #[.string s, .string t, .string r] w fun e w' => e = .returned (.bool true) ∧ Below w.heap.size w w' := by
  have HM := Aside0.mk hm
  have HB := Aside0.mk (Below.refl w.heap.size w)
  clear hm
  rcases long3 s t r with h1 | ⟨h1, h2⟩ | ⟨h1, h2, h3⟩ | ⟨h1, h2, h3, hs, ht, hr⟩
  iterate 3
    · go_enter Tryd.func3, Tryd.ntmps3
      go_wp2_with (first
        | (go_at_call 10; with_reducible refine (awake' HM.out HB.out).mono ?_; rintro e w9 ⟨rfl, hb⟩; replace HB := Aside0.mk hb; clear hb))
      go_ret
      exact ⟨rfl, HB.out⟩
  · obtain ⟨x, z, hj, _, _⟩ := joinIs (s := s) (t := t) (by omega) (by omega)
    have HJ := Aside0.mk hj
    obtain ⟨b, hb⟩ : ∃ b, MayIs s b := ⟨_, by omega, rfl⟩
    have HMA := Aside0.mk hb
    obtain ⟨u, hu⟩ : ∃ u, UnderIs s r u := ⟨_, by omega, by omega, rfl⟩
    have HU := Aside0.mk hu
    clear hj hb hu
    go_enter Tryd.func3, Tryd.ntmps3
    go_wp2_with (first
      | (go_at_call 10; with_reducible refine (awake' HM.out HB.out).mono ?_; rintro e w9 ⟨rfl, hb⟩; replace HB := Aside0.mk hb; clear hb)
      | (go_at_call 15; with_reducible refine (HMA.out.calls HM.out HB.out).mono ?_; rintro e w9 ⟨rfl, hb⟩; replace HB := Aside0.mk hb; clear hb)
      | (go_at_call 11; with_reducible refine (HMA.out.rcalls HB.out).mono ?_; rintro e w9 ⟨rfl, hb⟩; replace HB := Aside0.mk hb; clear hb)
      | (go_at_call 12; with_reducible refine (HJ.out.calls HM.out HB.out).mono ?_; rintro e w9 ⟨rfl, hb⟩; replace HB := Aside0.mk hb; clear hb)
      | (go_at_call 13; with_reducible refine (HJ.out.rcalls HB.out).mono ?_; rintro e w9 ⟨rfl, hb⟩; replace HB := Aside0.mk hb; clear hb)
      | (go_at_call 16; with_reducible refine (HU.out.calls HM.out HB.out).mono ?_; rintro e w9 ⟨rfl, hb⟩; replace HB := Aside0.mk hb; clear hb)
      | (go_at_call 14; with_reducible refine (HU.out.rcalls HB.out).mono ?_; rintro e w9 ⟨rfl, hb⟩; replace HB := Aside0.mk hb; clear hb))
    go_ret
    exact ⟨rfl, HB.out⟩
end Go.Proofs.YtipojdjdlnafmaaDoor.Path
