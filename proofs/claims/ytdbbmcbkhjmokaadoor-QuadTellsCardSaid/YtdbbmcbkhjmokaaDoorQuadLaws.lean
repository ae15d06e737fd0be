/- The walks of the chapter's laws. -/
import Derived.Test.YtdbbmcbkhjmokaaDoorQuadAwake
namespace Go.Proofs.YtdbbmcbkhjmokaaDoor.Quad
open Go Go.RowKit Go.Proofs.YtdbbmcbkhjmokaaDoorW.PrintWords Go.Proofs.YtdbbmcbkhjmokaaDoorW.PrintLast Go.Proofs.YtdbbmcbkhjmokaaDoorW.PrintMore Go.Proofs.YtdbbmcbkhjmokaaDoor.Dig
set_option linter.unusedVariables false
set_option linter.unusedSimpArgs false

theorem get_more {l : List UInt8} {most more : Int} (h : most ≤ more) (hg : (get l most).2 = true) : get l more = get l most ∧ (get l ((get l most).1 - 1)).2 = false ∧ (get l most).1 ≤ most ∧ 0 ≤ (get l most).1 ∧ (get l most).1 < 1000000000000000000 := by
  unfold Dig.get at hg ⊢
  cases hn : getN l with
  | none => rw [hn] at hg; cases hg
  | some n =>
    rw [hn] at hg
    have hlt := ((getN_iff l n).1 hn).2
    simp only at hg ⊢
    by_cases hm : most < (n : Int)
    · rw [if_pos hm] at hg; cases hg
    · have h1 : ¬ more < (n : Int) := by omega
      have h2 : (n : Int) - 1 < (n : Int) := by omega
      simp only [if_neg hm, if_neg h1, if_pos h2]
      exact ⟨trivial, trivial, by omega, by omega, by omega⟩
theorem get_zero {l : List UInt8} {most : Int} (hg : (get l most).2 = false) : (get l most).1 = 0 := by
  unfold Dig.get at hg ⊢
  cases hn : getN l with
  | none => rfl
  | some n =>
    rw [hn] at hg
    simp only at hg ⊢
    by_cases hm : most < (n : Int)
    · rw [if_pos hm]
    · rw [if_neg hm] at hg; cases hg

set_option maxHeartbeats 1000000 in
set_option maxRecDepth 100000 in
theorem most_walk (s : ByteArray) (most more : Int) (w : World) (hm : Mx w) :
    Calls Tryd.prog 7 #[.string s, .int .i64 most, .int .i64 more] w fun e w' => e = .returned (.bool true) ∧ Below w.heap.size w w' := by
  have HM := Aside0.mk hm
  clear hm
  have hgoes : decide (40 < (s.size : Int)) = true ∨ (decide (40 < (s.size : Int)) = false ∧ decide (more < most) = true) ∨ (decide (40 < (s.size : Int)) = false ∧ decide (more < most) = false) := by
    simp only [decide_eq_true_eq, decide_eq_false_iff_not]; omega
  rcases hgoes with d1 | ⟨d1, d2⟩ | ⟨d1, d2⟩
  · go_enter Tryd.func7, Tryd.ntmps7
    go_wp2_with (go_at_call 8; refine (awake_calls _ HM.out).mono ?_; rintro e w1 ⟨rfl, hb1⟩; have HB1 := Aside0.mk hb1; clear hb1)
    go_ret
    exact ⟨rfl, HB1.out⟩
  · go_enter Tryd.func7, Tryd.ntmps7
    go_wp2_with (go_at_call 8; refine (awake_calls _ HM.out).mono ?_; rintro e w1 ⟨rfl, hb1⟩; have HB1 := Aside0.mk hb1; clear hb1)
    go_ret
    exact ⟨rfl, HB1.out⟩
  · obtain ⟨v, b, hv⟩ : ∃ v b, get s.data.toList most = (v, b) := ⟨_, _, rfl⟩
    cases b
    · have hv0 : v = 0 := by have := get_zero (l := s.data.toList) (most := most) (by rw [hv]); rw [hv] at this; exact this
      subst hv0
      go_enter Tryd.func7, Tryd.ntmps7
      go_wp2_with (first
        | (go_at_call 8; refine (awake_calls _ HM.out).mono ?_; rintro e w1 ⟨rfl, hb1⟩; have HB1 := Aside0.mk hb1; clear hb1)
        | (go_at_call 9; refine (get_calls _ _ _).mono ?_; rw [hv]; rintro e w9 ⟨rfl, rfl⟩))
      go_ret
      exact ⟨rfl, HB1.out⟩
    · have hf := get_more (l := s.data.toList) (most := most) (more := more) (by have := of_decide_eq_false d2; omega) (by rw [hv])
      rw [hv] at hf
      simp only at hf
      obtain ⟨h1, h2, h3, h4, h5⟩ := hf
      obtain ⟨z, hz⟩ : ∃ z, get s.data.toList (v - 1) = (z, false) := ⟨(get s.data.toList (v - 1)).1, by rw [← h2]⟩
      have d3 : decide (v ≤ most) = true := decide_eq_true h3
      have d4 : decide (0 ≤ v) = true := decide_eq_true h4
      have HV := Aside0.mk hv
      have HZ := Aside0.mk hz
      have H1 := Aside0.mk h1
      clear hv hz h1 h2
      have tok1 : True := trivial
      have tok2 : True := trivial
      go_enter Tryd.func7, Tryd.ntmps7
      go_wp2_with (first
        | (go_at_call 8; refine (awake_calls _ HM.out).mono ?_; rintro e w1 ⟨rfl, hb1⟩; have HB1 := Aside0.mk hb1; clear hb1)
        | (go_at_call 9; have _t := tok1; clear tok1 _t; refine (get_calls _ _ _).mono ?_; rw [HV.out]; rintro e w9 ⟨rfl, rfl⟩)
        | (go_at_call 9; have _t := tok2; clear tok2 _t; refine (get_calls _ _ _).mono ?_; rw [H1.out]; rintro e w9 ⟨rfl, rfl⟩)
        | (go_at_call 9; refine (get_calls _ _ _).mono ?_; rw [HZ.out]; rintro e w9 ⟨rfl, rfl⟩))
      go_ret
      exact ⟨rfl, HB1.out⟩
end Go.Proofs.YtdbbmcbkhjmokaaDoor.Quad
