/- The contracts of the reference's Parts and May. -/
import Derived.Test.YtipojdjdlnafmaaDoorPathJoin
namespace Go.Proofs.YtipojdjdlnafmaaDoor.Path
open Go Go.RowKit Go.Proofs.YtipojdjdlnafmaaDoorW.PrintWords Go.Proofs.YtipojdjdlnafmaaDoorW.PrintLast Go.Proofs.YtipojdjdlnafmaaDoorW.PrintMore Go.Proofs.YtipojdjdlnafmaaDoor.Quad
set_option linter.unusedVariables false
set_option linter.unusedSimpArgs false

theorem own_lies {w : World} {B e : Nat} {v : Value} {n : Nat} {xs : List Value} (h : w.ownsRow B e 1 v n xs) : Row.Lies w B e v xs := by
  have : n = xs.length := by have := h.1; omega
  subst this
  exact .inl h

set_option maxHeartbeats 1000000 in
set_option maxRecDepth 100000 in
theorem ref_parts_calls (s : ByteArray) (hs : s.size ≤ 1000000) (w : World) :
    Calls Tryd.prog 18 #[.string s] w fun e w' => ∃ v, e = .returned v ∧ w'.ownsRow w.heap.size 9 1 v (PathP.parts s.data.toList).length ((PathP.parts s.data.toList).map str) ∧ Below w.heap.size w w' := by
  by_cases h : (s.size : Int) < 2
  · have h' := decide_eq_true h
    have HF := Aside0.mk (show PathP.parts s.data.toList = [] from by rw [PathP.parts, if_pos (by rw [data_length]; omega)])
    clear h
    go_enter Tryd.func18, Tryd.ntmps18
    go_wp2
    go_ret
    exact ⟨_, rfl, by rw [HF.out]; exact own_nil _ _ _ _, Below.refl _ _⟩
  · have h' := decide_eq_false h
    have h1s : 1 ≤ s.size := by omega
    obtain ⟨t, ht⟩ : ∃ t : ByteArray, t = ⟨(s.data.toList.drop 1).toArray⟩ := ⟨_, rfl⟩
    have hsl : ∀ W, (Instr.slice 9 (.string s) (some (.int .i64 1)) none none).run Tryd.prog W = .ok (.string t) W := fun W => by rw [ht]; exact slice_f s 1 h1s W
    have htl : t.data.toList = s.data.toList.drop 1 := by rw [ht]
    have HTS := Aside0.mk (show t.size ≤ 1000000 from by rw [← data_length, htl, List.length_drop, data_length]; omega)
    have HF := Aside0.mk (show PathP.parts s.data.toList = Cut.cut 47 t.data.toList from by rw [htl, PathP.parts, if_neg (by rw [data_length]; omega)])
    clear h ht htl h1s hs
    go_enter Tryd.func18, Tryd.ntmps18
    go_wp2_with (go_at_call 24; refine (ref_cut_calls t 47 HTS.out _).mono ?_; rw [← HF.out]; rintro e w1 ⟨v, rfl, ho, hb⟩; have HO := Aside0.mk ho; have HB := Aside0.mk hb; clear ho hb)
    go_ret
    exact ⟨_, rfl, HO.out, HB.out⟩

set_option maxHeartbeats 1000000 in
set_option maxRecDepth 100000 in
theorem ref_may_calls (s : ByteArray) (hs : s.size ≤ 1000000) (w : World) :
    Calls Tryd.prog 11 #[.string s] w fun e w' => e = .returned (.bool (PathP.may s.data.toList)) ∧ Below w.heap.size w w' := by
  obtain ⟨R, hR⟩ : ∃ R, R = PathP.may s.data.toList := ⟨_, rfl⟩
  rw [← hR]
  have HR := Aside0.mk hR
  clear hR
  have HL := Aside0.mk (data_length s)
  have HS := Aside0.mk hs
  obtain ⟨b3, hb3⟩ : ∃ b, b = PathP.clean s.data.toList := ⟨_, rfl⟩
  have H3 := Aside0.mk hb3
  obtain ⟨c0, hc0⟩ : ∃ c, c = bt s 0 := ⟨_, rfl⟩
  have HC0 := Aside0.mk (show 0 < s.size → (c0 = 47 ↔ s.data.toList.head? = some 47) from fun h => by
    have hp : 0 < s.data.toList.length := by rw [HL.out]; exact h
    have h4 := bt_byte s 0 hp
    rw [show ((0 : Nat) : Int) = 0 from rfl, ← hc0] at h4
    rw [h4, List.head?_eq_getElem?, List.getElem?_eq_getElem hp, Option.some.injEq, ← UInt8.toNat_inj]
    have e : (47 : UInt8).toNat = 47 := rfl
    omega)
  have hx0 : ∀ h : 0 < s.size, ((s[0]'h).toNat : Int) = c0 := fun h => by rw [hc0]; exact bt_at s 0 h
  clear hc0 hb3 hs
  cases b3 with
  | false =>
    have hF : R = false := by rw [HR.out, PathP.may, ← H3.out, Bool.and_false, Bool.false_and]
    clear hx0
    go_enter Tryd.func11, Tryd.ntmps11
    go_wp2_with (go_at_call 17; refine (ref_clean_calls _ HS.out _).mono ?_; rintro e w2 ⟨rfl, hw⟩; obtain rfl := hw.symm; rw [← H3.out])
    go_ret
    exact ⟨by first | (rw [hF]; rfl) | rfl, Below.refl _ _⟩
  | true =>
    by_cases h2 : 200 < (s.size : Int)
    · have hF : R = false := by rw [HR.out, PathP.may, show decide (s.data.toList.length ≤ 200) = false from decide_eq_false (by rw [HL.out]; omega), Bool.and_false, Bool.false_and, Bool.false_and]
      have h2' := decide_eq_true h2
      clear h2 hx0
      go_enter Tryd.func11, Tryd.ntmps11
      go_wp2_with (go_at_call 17; refine (ref_clean_calls _ HS.out _).mono ?_; rintro e w2 ⟨rfl, hw⟩; obtain rfl := hw.symm; rw [← H3.out])
      go_ret
      exact ⟨by first | (rw [hF]; rfl) | rfl, Below.refl _ _⟩
    · have h2' := decide_eq_false h2
      have H2 := Aside0.mk (show s.data.toList.length ≤ 200 from by rw [HL.out]; omega)
      clear h2
      by_cases h0 : s.size = 0
      · have hF : R = false := by
          rw [HR.out, PathP.may, List.eq_nil_of_length_eq_zero (l := s.data.toList) (by rw [HL.out, h0])]; rfl
        have hE : ((s.size : Int) == 0) = true := by rw [h0]; rfl
        clear h0 hx0
        go_enter Tryd.func11, Tryd.ntmps11
        go_wp2_with (go_at_call 17; refine (ref_clean_calls _ HS.out _).mono ?_; rintro e w2 ⟨rfl, hw⟩; obtain rfl := hw.symm; rw [← H3.out])
        go_ret
        exact ⟨by first | (rw [hF]; rfl) | rfl, Below.refl _ _⟩
      · have hE : ((s.size : Int) == 0) = false := beq_eq_false_iff_ne.2 (by omega)
        have hp : 0 < s.size := by omega
        by_cases h47 : c0 = 47
        · have hN : (c0 != 47) = false := by rw [h47]; rfl
          have H47 := Aside0.mk ((HC0.out hp).1 h47)
          obtain ⟨l, hl⟩ : ∃ l, l = PathP.parts s.data.toList := ⟨_, rfl⟩
          have HP := Aside0.mk hl
          have HLL := Aside0.mk (show l.length ≤ 201 from by rw [hl]; exact Nat.le_trans (parts_len _) (by have := H2.out; omega))
          have HG := Aside0.mk (show R = l.all fun x => !PathP.badPart x from by rw [HR.out, PathP.may, ← H3.out, decide_eq_true H47.out, show decide (s.data.toList.length ≤ 200) = true from decide_eq_true H2.out, hl]; rfl)
          clear hl h47 h0
          go_enter Tryd.func11, Tryd.ntmps11
          go_wp2_with (first
            | (go_at_call 17; refine (ref_clean_calls _ HS.out _).mono ?_; rintro e w2 ⟨rfl, hw⟩; obtain rfl := hw.symm; rw [← H3.out])
            | (go_at_call 18; refine (ref_parts_calls _ HS.out _).mono ?_; rw [← HP.out]; rintro e w1 ⟨v, rfl, ho, hb⟩; have HB1 := Aside0.mk hb; clear hb; obtain ⟨A, N, c, rfl, hN', hc, hx⟩ := (own_lies ho).readN; rw [List.length_map] at hN'; have HV := Aside0.mk (And.intro hN' (And.intro hc hx)); clear hc hx ho hN'))
          have hNl : N ≤ 201 := by rw [HV.out.1]; exact HLL.out
          go_loop [5] (fun i_ => ∃ k : Nat, k ≤ N ∧ i_ = .int .i64 k ∧ Aside0 ((l.take k).all (fun x => !PathP.badPart x) = true)) (fun i_ => N - (intOf i_).toNat)
          case atStart => exact ⟨0, Nat.zero_le _, rfl, ⟨rfl⟩⟩
          case round =>
            obtain ⟨k, hk, rfl, HA⟩ := hrel
            by_cases hlt : k < N
            · have hlt' : k < l.length := by rw [← HV.out.1]; exact hlt
              obtain ⟨p, hp'⟩ : ∃ p : ByteArray, p = ⟨(l[k]).toArray⟩ := ⟨_, rfl⟩
              have hpl : p.data.toList = l[k] := by rw [hp']
              have hcx : (l.map str)[k]? = some (.string p) := by rw [List.getElem?_map, List.getElem?_eq_getElem hlt', hp']; rfl
              obtain ⟨g, rfl, hg2, hcell⟩ := HV.out.2.2 k _ hcx
              have hk6 : k < 1000000 := by omega
              have HPL := Aside0.mk (show p.data.toList ∈ l ∧ (l.take (k + 1)).all (fun x => !PathP.badPart x) = !PathP.badPart p.data.toList from by
                refine ⟨by rw [hpl]; exact List.getElem_mem _, ?_⟩
                rw [List.take_succ_eq_append_getElem hlt', List.all_append, HA.out, hpl]; simp)
              clear hp' hpl hcx hg2 hlt'
              rcases bad_cases p with ⟨e1, hb⟩ | ⟨e1, e2, hb⟩ | ⟨e1, e2, e3, hb⟩ | ⟨e1, e2, e3, hb⟩
              iterate 3
                · have hF : R = false := by rw [HR.out]; exact may_false (by rw [← HP.out]; exact HPL.out.1) hb
                  clear hb
                  go_wp2
                  go_ret
                  exact ⟨by first | (rw [hF]; rfl) | rfl, HB1.out⟩
              · have HN := Aside0.mk (show (l.take (k + 1)).all (fun x => !PathP.badPart x) = true from by rw [HPL.out.2, hb]; rfl)
                clear hb
                go_wp2
                go_round
                case rel => exact ⟨k + 1, by omega, by go_num, HN⟩
                case measure => simp [intOf]; omega
            · obtain rfl : k = N := by omega
              have hF : R = true := by rw [HG.out]; have := HA.out; rw [HV.out.1] at this; rwa [List.take_length] at this
              go_wp2
              go_ret
              exact ⟨by first | (rw [hF]; rfl) | rfl, HB1.out⟩
        · have hN : (c0 != 47) = true := by simpa using h47
          have hF : R = false := by rw [HR.out, PathP.may, decide_eq_false (fun h => h47 ((HC0.out hp).2 h)), Bool.false_and, Bool.false_and, Bool.false_and]
          clear h47 h0
          go_enter Tryd.func11, Tryd.ntmps11
          go_wp2_with (go_at_call 17; refine (ref_clean_calls _ HS.out _).mono ?_; rintro e w2 ⟨rfl, hw⟩; obtain rfl := hw.symm; rw [← H3.out])
          go_ret
          exact ⟨by first | (rw [hF]; rfl) | rfl, Below.refl _ _⟩
end Go.Proofs.YtipojdjdlnafmaaDoor.Path
