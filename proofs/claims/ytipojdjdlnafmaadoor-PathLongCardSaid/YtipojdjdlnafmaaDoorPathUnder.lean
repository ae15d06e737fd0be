/- The contracts of path.Under and of the reference's Under. -/
import Derived.Test.YtipojdjdlnafmaaDoorPathRefMay
namespace Go.Proofs.YtipojdjdlnafmaaDoor.Path
open Go Go.RowKit Go.Proofs.YtipojdjdlnafmaaDoorW.PrintWords Go.Proofs.YtipojdjdlnafmaaDoorW.PrintLast Go.Proofs.YtipojdjdlnafmaaDoorW.PrintMore Go.Proofs.YtipojdjdlnafmaaDoor.Quad
set_option linter.unusedVariables false
set_option linter.unusedSimpArgs false

set_option maxHeartbeats 1000000 in
set_option maxRecDepth 100000 in
theorem under_calls (s t : ByteArray) (hs : s.size ≤ 1000000) (ht : t.size ≤ 1000000) (w : World) (hm : Mx w) :
    Calls Tryd.prog 16 #[.string s, .string t] w fun e w' => e = .returned (.bool (PathP.under s.data.toList t.data.toList)) ∧ Below w.heap.size w w' := by
  obtain ⟨R, hR⟩ : ∃ R, R = PathP.under s.data.toList t.data.toList := ⟨_, rfl⟩
  rw [← hR]
  have HR := Aside0.mk hR
  clear hR
  have HM := Aside0.mk hm
  have HS := Aside0.mk (And.intro hs ht)
  clear hm
  obtain ⟨b1, hb1⟩ : ∃ b, b = PathP.may s.data.toList := ⟨_, rfl⟩
  obtain ⟨b2, hb2⟩ : ∃ b, b = PathP.may t.data.toList := ⟨_, rfl⟩
  have H1 := Aside0.mk hb1
  have H2 := Aside0.mk hb2
  clear hb1 hb2
  cases b1 with
  | false =>
    have HF := Aside0.mk (show R = false from by rw [HR.out, PathP.under, ← H1.out]; rfl)
    clear hs ht
    go_enter Tryd.func16, Tryd.ntmps16
    go_wp2_with (go_at_call 15; refine (may_calls _ HS.out.1 _ HM.out).mono ?_; rw [← H1.out]; rintro e w1 ⟨rfl, hb⟩; have HB1 := Aside0.mk hb; clear hb)
    go_ret
    exact ⟨by first | (rw [HF.out]; rfl) | rfl, HB1.out⟩
  | true =>
    cases b2 with
    | false =>
      have HF := Aside0.mk (show R = false from by rw [HR.out, PathP.under, ← H2.out, Bool.and_false]; rfl)
      clear hs ht
      have tok1 : True := trivial
      go_enter Tryd.func16, Tryd.ntmps16
      go_wp2_with (first
        | (go_at_call 15; have _t := tok1; clear tok1 _t; refine (may_calls _ HS.out.1 _ HM.out).mono ?_; rw [← H1.out]; rintro e w1 ⟨rfl, hb⟩; have HB1 := Aside0.mk hb; clear hb)
        | (go_at_call 15; refine (may_calls _ HS.out.2 _ (HM.out.below HB1.out)).mono ?_; rw [← H2.out]; rintro e w3 ⟨rfl, hb⟩; have HB2 := Aside0.mk (HB1.out.trans (hb.mono HB1.out.size)); clear hb))
      go_ret
      exact ⟨by first | (rw [HF.out]; rfl) | rfl, HB2.out⟩
    | true =>
      have tok1 : True := trivial
      have HU := Aside0.mk (PathP.under_prefix H1.out.symm H2.out.symm)
      have HG := Aside0.mk (show R = decide (PathP.parts s.data.toList <+: PathP.parts t.data.toList) from by rw [HR.out, PathP.under, ← H1.out, ← H2.out]; rfl)
      have hs1 : (ByteArray.mk #[47]).size = 1 := rfl
      have he : s.toList = s.data.toList := ByteArray.toList_eq s
      by_cases h47 : s.data.toList = [47]
      · have HF := Aside0.mk (show R = true from by rw [HG.out]; exact decide_eq_true (HU.out.1 (.inl h47)))
        have he' : s.toList = [47] := he.trans h47
        clear hs ht he h47
        go_enter Tryd.func16, Tryd.ntmps16
        go_wp2_with (first
          | (go_at_call 15; have _t := tok1; clear tok1 _t; refine (may_calls _ HS.out.1 _ HM.out).mono ?_; rw [← H1.out]; rintro e w1 ⟨rfl, hb⟩; have HB1 := Aside0.mk hb; clear hb)
          | (go_at_call 15; refine (may_calls _ HS.out.2 _ (HM.out.below HB1.out)).mono ?_; rw [← H2.out]; rintro e w3 ⟨rfl, hb⟩; have HB2 := Aside0.mk (HB1.out.trans (hb.mono HB1.out.size)); clear hb))
        go_ret
        exact ⟨by first | (rw [HF.out]; rfl) | rfl, HB2.out⟩
      · have he' : (s.toList == [47]) = false := by rw [he]; exact beq_eq_false_iff_ne.2 h47
        have HP := Aside0.mk (show Lib.hasPrefix (t ++ ⟨#[47]⟩ : ByteArray).data.toList (s ++ ⟨#[47]⟩ : ByteArray).data.toList = R from by
          rw [HG.out, Bool.eq_iff_iff, decide_eq_true_iff]
          rw [show (t ++ ⟨#[47]⟩ : ByteArray).data.toList = t.data.toList ++ [47] from by simp, show (s ++ ⟨#[47]⟩ : ByteArray).data.toList = s.data.toList ++ [47] from by simp]
          rw [Lib.hasPrefix, List.isPrefixOf_iff_prefix, ← HU.out]
          exact ⟨.inr, fun h => h.elim (fun h => absurd h h47) id⟩)
        clear he h47
        go_enter Tryd.func16, Tryd.ntmps16
        go_wp2_with (first
          | (go_at_call 15; have _t := tok1; clear tok1 _t; refine (may_calls _ HS.out.1 _ HM.out).mono ?_; rw [← H1.out]; rintro e w1 ⟨rfl, hb⟩; have HB1 := Aside0.mk hb; clear hb)
          | (go_at_call 15; refine (may_calls _ HS.out.2 _ (HM.out.below HB1.out)).mono ?_; rw [← H2.out]; rintro e w3 ⟨rfl, hb⟩; have HB2 := Aside0.mk (HB1.out.trans (hb.mono HB1.out.size)); clear hb)
          | (go_at_call 21; refine (Tryd.strings_HasPrefix _ _ _).mono ?_; rintro e w2 ⟨rfl, hw⟩; obtain rfl := hw.symm; rw [HP.out]))
        go_ret
        exact ⟨rfl, HB2.out⟩

set_option maxHeartbeats 1000000 in
set_option maxRecDepth 100000 in
theorem ref_under_calls (s t : ByteArray) (hs : s.size ≤ 1000000) (ht : t.size ≤ 1000000) (w : World) :
    Calls Tryd.prog 14 #[.string s, .string t] w fun e w' => e = .returned (.bool (PathP.under s.data.toList t.data.toList)) ∧ Below w.heap.size w w' := by
  obtain ⟨R, hR⟩ : ∃ R, R = PathP.under s.data.toList t.data.toList := ⟨_, rfl⟩
  rw [← hR]
  have HR := Aside0.mk hR
  clear hR
  have HS := Aside0.mk (And.intro hs ht)
  obtain ⟨b1, hb1⟩ : ∃ b, b = PathP.may s.data.toList := ⟨_, rfl⟩
  obtain ⟨b2, hb2⟩ : ∃ b, b = PathP.may t.data.toList := ⟨_, rfl⟩
  have H1 := Aside0.mk hb1
  have H2 := Aside0.mk hb2
  have tok1 : True := trivial
  clear hb1 hb2 hs ht
  by_cases hb : b1 = true ∧ b2 = true
  · obtain ⟨rfl, rfl⟩ := hb
    have tok2 : True := trivial
    obtain ⟨x, hx⟩ : ∃ x, x = PathP.parts s.data.toList := ⟨_, rfl⟩
    obtain ⟨y, hy⟩ : ∃ y, y = PathP.parts t.data.toList := ⟨_, rfl⟩
    have HG := Aside0.mk (show R = decide (x <+: y) from by rw [HR.out, PathP.under, ← H1.out, ← H2.out, hx, hy]; rfl)
    have HX := Aside0.mk hx
    have HY := Aside0.mk hy
    have HLL := Aside0.mk (show x.length ≤ 1000001 ∧ y.length ≤ 1000001 from by
      have h1 := parts_len s.data.toList; have h2 := parts_len t.data.toList
      rw [data_length] at h1 h2
      rw [hx, hy]; have := HS.out; omega)
    clear hx hy
    go_enter Tryd.func14, Tryd.ntmps14
    go_wp2_with (first
      | (go_at_call 11; have _t := tok1; clear tok1 _t; refine (ref_may_calls _ HS.out.1 _).mono ?_; rw [← H1.out]; rintro e w1 ⟨rfl, hb⟩; have HB1 := Aside0.mk hb; clear hb)
      | (go_at_call 11; refine (ref_may_calls _ HS.out.2 _).mono ?_; rw [← H2.out]; rintro e w2 ⟨rfl, hb⟩; have HB2 := Aside0.mk (HB1.out.trans (hb.mono HB1.out.size)); clear hb)
      | (go_at_call 18; have _t := tok2; clear tok2 _t; refine (ref_parts_calls _ HS.out.1 _).mono ?_; rw [← HX.out]; rintro e w3 ⟨v, rfl, ho, hb⟩; have HB3 := Aside0.mk (HB2.out.trans (hb.mono HB2.out.size)); clear hb; have HV := Aside0.mk (own_lies ho); clear ho; obtain ⟨A, N, c, rfl, hN', _⟩ := HV.out.readN; rw [List.length_map] at hN'; have HN := Aside0.mk hN'; clear hN')
      | (go_at_call 18; refine (ref_parts_calls _ HS.out.2 _).mono ?_; rw [← HY.out]; rintro e w4 ⟨v, rfl, ho, hb⟩; have HB4 := Aside0.mk (HB3.out.trans (hb.mono HB3.out.size)); have HV4 := Aside0.mk (HV.out.below hb); clear hb; have HU := Aside0.mk (own_lies ho); clear ho; obtain ⟨A', N', c', rfl, hN', _⟩ := HU.out.readN; rw [List.length_map] at hN'; have HN4 := Aside0.mk hN'; clear hN'))
    · rename_i hlt
      have HF := Aside0.mk (show R = false from by
        rw [HG.out]; refine decide_eq_false fun hp => ?_
        have h1 := hp.length_le
        have h2 := HN.out; have h3 := HN4.out
        omega)
      go_ret
      exact ⟨by first | (rw [HF.out]; rfl) | rfl, HB4.out⟩
    · rename_i hge
      have hN6 : N ≤ 1000001 := by rw [HN.out]; exact HLL.out.1
      go_loopw [9] (fun i_ wr => ∃ k : Nat, k ≤ N ∧ i_ = .int .i64 k ∧ Aside0 (x.take k = y.take k) ∧ Aside0 (Below w4.heap.size w4 wr)) (fun i_ _ => N - (intOf i_).toNat)
      case atStart => exact ⟨0, Nat.zero_le _, rfl, ⟨rfl⟩, ⟨Below.refl _ _⟩⟩
      case round =>
        obtain ⟨k, hk, rfl, HA, HBW⟩ := hrel
        by_cases hlt : k < N
        · have hx' : k < x.length := by rw [← HN.out]; exact hlt
          have hy' : k < y.length := by rw [← HN4.out]; omega
          obtain ⟨p, hp⟩ : ∃ p : ByteArray, p = ⟨(x[k]).toArray⟩ := ⟨_, rfl⟩
          obtain ⟨q, hq⟩ : ∃ q : ByteArray, q = ⟨(y[k]).toArray⟩ := ⟨_, rfl⟩
          have hcx : (x.map str)[k]? = some (.string p) := by rw [List.getElem?_map, List.getElem?_eq_getElem hx', hp]; rfl
          have hcy : (y.map str)[k]? = some (.string q) := by rw [List.getElem?_map, List.getElem?_eq_getElem hy', hq]; rfl
          obtain ⟨A1, N1, c1, e1, n1, hNc1, hr1⟩ := HV4.out.readN
          cases e1
          clear n1
          obtain ⟨A2, N2, c2, e2, n2, hNc2, hr2⟩ := HU.out.readN
          cases e2
          clear n2
          obtain ⟨g, rfl, hg2, hcell0⟩ := hr1 k _ hcx
          have hcell := (HBW.out.cell hg2).trans hcell0
          obtain ⟨g', rfl, hg2', hcell0'⟩ := hr2 k _ hcy
          have hcell' := (HBW.out.cell hg2').trans hcell0'
          clear hcell0 hcell0'
          have hk6 : k < 10000000 := by omega
          have hkN' : k < N' := by omega
          have hpe : p.toList = x[k] := by rw [ByteArray.toList_eq, hp]
          have hqe : q.toList = y[k] := by rw [ByteArray.toList_eq, hq]
          have HK := Aside0.mk (show (x.take (k + 1) = y.take (k + 1) ↔ p.toList = q.toList) ∧ (x <+: y → p.toList = q.toList) from by
            refine ⟨?_, fun h => ?_⟩
            · rw [List.take_succ_eq_append_getElem hx', List.take_succ_eq_append_getElem hy', HA.out, hpe, hqe]
              constructor
              · intro h; have := List.append_cancel_left h; simpa using this
              · intro h; rw [h]
            · rw [hpe, hqe]
              obtain ⟨r, rfl⟩ := h
              rw [List.getElem_append_left hx'])
          clear hp hq hcx hcy hr1 hr2 hg2 hg2' hpe hqe hx' hy'
          by_cases he : p.toList = q.toList
          · have he' : (p.toList == q.toList) = true := beq_iff_eq.2 he
            have HN2 := Aside0.mk (HK.out.1.2 he)
            clear he
            go_wp2
            go_region
            all_goals
              go_wp2
              go_roundw
              case rel => exact ⟨k + 1, by omega, by go_num, HN2, ⟨HBW.out.drew⟩⟩
              case measure => simp [intOf]; omega
          · have he' : (p.toList == q.toList) = false := beq_eq_false_iff_ne.2 he
            have HF := Aside0.mk (show R = false from by rw [HG.out]; exact decide_eq_false fun h => he (HK.out.2 h))
            clear he
            go_wp2
            go_region
            all_goals
              go_wp2
              go_ret
              exact ⟨by first | (rw [HF.out]; rfl) | rfl, (HB4.out.trans (HBW.out.mono HB4.out.size)).drew⟩
        · obtain rfl : k = N := by omega
          have HF := Aside0.mk (show R = true from by
            rw [HG.out]; refine decide_eq_true ?_
            have := HA.out
            rw [HN.out, List.take_length] at this
            rw [this]; exact List.take_prefix _ _)
          go_wp2
          go_ret
          exact ⟨by first | (rw [HF.out]; rfl) | rfl, HB4.out.trans (HBW.out.mono HB4.out.size)⟩
  · have HF := Aside0.mk (show R = false from by
      rw [HR.out, PathP.under, ← H1.out, ← H2.out]
      cases b1 <;> cases b2 <;> first | rfl | exact absurd ⟨rfl, rfl⟩ hb)
    cases b1 <;> cases b2
    iterate 3
      · clear hb
        go_enter Tryd.func14, Tryd.ntmps14
        go_wp2_with (first
          | (go_at_call 11; have _t := tok1; clear tok1 _t; refine (ref_may_calls _ HS.out.1 _).mono ?_; rw [← H1.out]; rintro e w1 ⟨rfl, hb⟩; have HB1 := Aside0.mk hb; clear hb)
          | (go_at_call 11; refine (ref_may_calls _ HS.out.2 _).mono ?_; rw [← H2.out]; rintro e w2 ⟨rfl, hb⟩; have HB2 := Aside0.mk (HB1.out.trans (hb.mono HB1.out.size)); clear hb))
        go_ret
        exact ⟨by first | (rw [HF.out]; rfl) | rfl, HB2.out⟩
    · exact absurd ⟨rfl, rfl⟩ hb
end Go.Proofs.YtipojdjdlnafmaaDoor.Path
