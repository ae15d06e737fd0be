/- The contracts of path.parts, path.May and of the reference's Parts and May. -/
import Derived.Test.YtipojdjdlnafmaaDoorPathClean
import Derived.Test.YtipojdjdlnafmaaDoorSplit
import Derived.Test.YtipojdjdlnafmaaDoorRefCut
import Derived.Test.YtipojdjdlnafmaaDoorRow
namespace Go.Proofs.YtipojdjdlnafmaaDoor.Path
open Go Go.RowKit Go.Proofs.YtipojdjdlnafmaaDoorW.PrintWords Go.Proofs.YtipojdjdlnafmaaDoorW.PrintLast Go.Proofs.YtipojdjdlnafmaaDoorW.PrintMore Go.Proofs.YtipojdjdlnafmaaDoor.Quad
set_option linter.unusedVariables false
set_option linter.unusedSimpArgs false

theorem pre47 (l : List UInt8) : Lib.hasPrefix l [47] = decide (l.head? = some 47) := by
  cases l with
  | nil => rfl
  | cons c r =>
    by_cases h : c = 47
    · subst h; simp [Lib.hasPrefix]
    · have h2 : ¬ (47 = c) := fun e => h e.symm
      simp [Lib.hasPrefix, List.isPrefixOf, h, h2]
theorem str_map (ps : List ByteArray) : ps.map Value.string = (ps.map (·.data.toList)).map str := by
  rw [List.map_map]; rfl
theorem drop1 {s : ByteArray} {l : List UInt8} (h : s.data.toList = l) : (s.extract 1 s.size).data.toList = l.drop 1 := by
  rw [extract_list s 1 s.size (Nat.le_refl _), List.take_of_length_le (by rw [data_length]; exact Nat.le_refl _), h]

set_option maxHeartbeats 1000000 in
set_option maxRecDepth 100000 in
theorem parts_calls (s : ByteArray) (hs : s.size ≤ 1000000) (h47 : s.data.toList.head? = some 47) (w : World) (hm : Mx w) :
    Calls Tryd.prog 20 #[.string s] w fun e w' => ∃ v, e = .returned v ∧ (∀ B, Row.Lies w' B 9 v ((PathP.parts s.data.toList).map str)) ∧ Below w.heap.size w w' := by
  have hsz : 0 < s.data.toList.length := by
    cases hl : s.data.toList with
    | nil => rw [hl] at h47; cases h47
    | cons c r => simp
  by_cases h1 : s.data.toList = [47]
  · have hF := Aside0.mk (show (PathP.parts s.data.toList) = [] from by rw [h1]; rfl)
    have he : s.toList = [47] := by rw [ByteArray.toList_eq, h1]
    clear h1 h47 hsz
    go_enter Tryd.func20, Tryd.ntmps20
    go_wp2
    go_ret
    exact ⟨_, rfl, fun B => by rw [hF.out]; exact Row.Lies.nil _ _ _, Below.refl _ _⟩
  · have he : (s.toList == [47]) = false := by rw [ByteArray.toList_eq]; exact beq_eq_false_iff_ne.2 h1
    have h2 : 2 ≤ s.data.toList.length := by
      cases hl : s.data.toList with
      | nil => rw [hl] at h47; cases h47
      | cons c r =>
        cases r with
        | nil => rw [hl] at h47 h1; simp at h47; subst h47; exact absurd rfl h1
        | cons d r => simp
    have h1s : 1 ≤ s.size := by rw [← data_length]; omega
    obtain ⟨t, ht⟩ : ∃ t : ByteArray, t = ⟨(s.data.toList.drop 1).toArray⟩ := ⟨_, rfl⟩
    have hsl : ∀ W, (Instr.slice 9 (.string s) (some (.int .i64 1)) none none).run Tryd.prog W = .ok (.string t) W := fun W => by rw [ht]; exact slice_f s 1 h1s W
    have htl : t.data.toList = s.data.toList.drop 1 := by rw [ht]
    have hts : t.size < 4294967281 := by rw [← data_length, htl, List.length_drop, data_length]; omega
    obtain ⟨ps, hps, hsp⟩ := split_calls 47 t hts
    have HSP := Aside0.mk hsp
    have HM := Aside0.mk hm
    have hF := Aside0.mk (show (PathP.parts s.data.toList) = ps.map (·.data.toList) from by rw [hps, htl, PathP.parts, if_neg (by omega)])
    clear h1 h47 hsz ht htl hts hps hsp hm h2
    go_enter Tryd.func20, Tryd.ntmps20
    go_wp2_with (go_at_call 22; refine (HSP.out _ HM.out).mono ?_; rintro e w1 ⟨rfl, rfl⟩)
    go_ret
    refine ⟨_, rfl, fun B => ?_, (Below.refl _ _).alloc (Nat.le_refl _) _⟩
    rw [hF.out, ← str_map]
    have := Row.Lies.whole w B 9 9 (ps.map Value.string)
    rwa [List.length_map] at this

theorem cut_len (c : UInt8) : ∀ l : List UInt8, (Cut.cut c l).length ≤ l.length + 1
  | [] => by simp [Cut.cut]
  | b :: l => by
    have ih := cut_len c l
    unfold Cut.cut
    split
    · simp only [List.length_cons]; omega
    · match h : Cut.cut c l with
      | [] => simp
      | p :: r => rw [h] at ih; simp only [List.length_cons] at ih ⊢; omega
theorem parts_len (l : List UInt8) : (PathP.parts l).length ≤ l.length + 1 := by
  unfold PathP.parts
  split
  · simp
  · exact Nat.le_trans (cut_len 47 _) (by simp)
theorem bad_cases (p : ByteArray) : (p.toList = [] ∧ PathP.badPart p.data.toList = true) ∨ (p.toList.isEmpty = false ∧ p.toList = [46] ∧ PathP.badPart p.data.toList = true) ∨
    (p.toList.isEmpty = false ∧ (p.toList == [46]) = false ∧ p.toList = [46, 46] ∧ PathP.badPart p.data.toList = true) ∨
    (p.toList.isEmpty = false ∧ (p.toList == [46]) = false ∧ (p.toList == [46, 46]) = false ∧ PathP.badPart p.data.toList = false) := by
  have e : p.toList = p.data.toList := ByteArray.toList_eq p
  rw [e]
  by_cases h1 : p.data.toList = []
  · exact .inl ⟨h1, by rw [h1]; rfl⟩
  · by_cases h2 : p.data.toList = [46]
    · exact .inr (.inl ⟨by rw [h2]; rfl, h2, by rw [h2]; rfl⟩)
    · by_cases h3 : p.data.toList = [46, 46]
      · exact .inr (.inr (.inl ⟨by rw [h3]; rfl, beq_eq_false_iff_ne.2 h2, h3, by rw [h3]; rfl⟩))
      · refine .inr (.inr (.inr ⟨List.isEmpty_eq_false_iff.2 h1, beq_eq_false_iff_ne.2 h2, beq_eq_false_iff_ne.2 h3, ?_⟩))
        rw [PathP.badPart, beq_eq_false_iff_ne.2 h1, beq_eq_false_iff_ne.2 h2, beq_eq_false_iff_ne.2 h3]; rfl
theorem may_false {l : List UInt8} {p : List UInt8} (hp : p ∈ PathP.parts l) (h : PathP.badPart p = true) : PathP.may l = false := by
  cases hm : PathP.may l
  · rfl
  · simp only [PathP.may, Bool.and_eq_true, List.all_eq_true] at hm
    have := hm.2 p hp
    rw [h] at this; cases this

set_option maxHeartbeats 1000000 in
set_option maxRecDepth 100000 in
theorem may_calls (s : ByteArray) (hs : s.size ≤ 1000000) (w : World) (hm : Mx w) :
    Calls Tryd.prog 15 #[.string s] w fun e w' => e = .returned (.bool (PathP.may s.data.toList)) ∧ Below w.heap.size w w' := by
  obtain ⟨R, hR⟩ : ∃ R, R = PathP.may s.data.toList := ⟨_, rfl⟩
  rw [← hR]
  have HR := Aside0.mk hR
  clear hR
  have HL := Aside0.mk (data_length s)
  have HM := Aside0.mk hm
  have HS := Aside0.mk hs
  clear hm hs
  obtain ⟨b1, hb1⟩ : ∃ b, b = Lib.hasPrefix s.data.toList [47] := ⟨_, rfl⟩
  obtain ⟨b3, hb3⟩ : ∃ b, b = PathP.clean s.data.toList := ⟨_, rfl⟩
  have HB := Aside0.mk (show b1 = decide (s.data.toList.head? = some 47) from by
    rw [hb1]
    exact pre47 _)
  have H1 := Aside0.mk hb1
  have H3 := Aside0.mk hb3
  clear hb1 hb3
  cases b1 with
  | false =>
    have hF : R = false := by rw [HR.out, PathP.may, ← HB.out]; rfl
    go_enter Tryd.func15, Tryd.ntmps15
    go_wp2_with (go_at_call 21; refine (Tryd.strings_HasPrefix _ _ _).mono ?_; rintro e w1 ⟨rfl, rfl⟩; rw [show (ByteArray.mk #[47]).data.toList = [47] from rfl, ← H1.out])
    go_ret
    exact ⟨by first | (rw [hF]; rfl) | rfl, Below.refl _ _⟩
  | true =>
    by_cases h2 : 200 < (s.size : Int)
    · have hF : R = false := by rw [HR.out, PathP.may, show decide (s.data.toList.length ≤ 200) = false from decide_eq_false (by rw [HL.out]; omega), Bool.and_false, Bool.false_and, Bool.false_and]
      have h2' := decide_eq_true h2
      clear h2
      go_enter Tryd.func15, Tryd.ntmps15
      go_wp2_with (go_at_call 21; refine (Tryd.strings_HasPrefix _ _ _).mono ?_; rintro e w1 ⟨rfl, rfl⟩; rw [show (ByteArray.mk #[47]).data.toList = [47] from rfl, ← H1.out])
      go_ret
      exact ⟨by first | (rw [hF]; rfl) | rfl, Below.refl _ _⟩
    · have h2' := decide_eq_false h2
      have H2 := Aside0.mk (show s.data.toList.length ≤ 200 from by rw [HL.out]; omega)
      clear h2
      cases b3 with
      | false =>
        have hF : R = false := by rw [HR.out, PathP.may, ← H3.out, Bool.and_false, Bool.false_and]
        go_enter Tryd.func15, Tryd.ntmps15
        go_wp2_with (first
          | (go_at_call 21; refine (Tryd.strings_HasPrefix _ _ _).mono ?_; rintro e w1 ⟨rfl, rfl⟩; rw [show (ByteArray.mk #[47]).data.toList = [47] from rfl, ← H1.out])
          | (go_at_call 19; refine (clean_calls _ HS.out _).mono ?_; rintro e w1 ⟨rfl, rfl⟩; rw [← H3.out]))
        go_ret
        exact ⟨by first | (rw [hF]; rfl) | rfl, Below.refl _ _⟩
      | true =>
        have H47 := Aside0.mk (show s.data.toList.head? = some 47 from of_decide_eq_true HB.out.symm)
        obtain ⟨l, hl⟩ : ∃ l, l = PathP.parts s.data.toList := ⟨_, rfl⟩
        have HP := Aside0.mk hl
        have HLL := Aside0.mk (show l.length ≤ 201 from by rw [hl]; exact Nat.le_trans (parts_len _) (by have := H2.out; omega))
        have HG := Aside0.mk (show R = l.all fun x => !PathP.badPart x from by rw [HR.out, PathP.may, ← H3.out, ← HB.out, show decide (s.data.toList.length ≤ 200) = true from decide_eq_true H2.out, hl]; rfl)
        clear hl
        go_enter Tryd.func15, Tryd.ntmps15
        go_wp2_with (first
          | (go_at_call 21; refine (Tryd.strings_HasPrefix _ _ _).mono ?_; rintro e w1 ⟨rfl, rfl⟩; rw [show (ByteArray.mk #[47]).data.toList = [47] from rfl, ← H1.out])
          | (go_at_call 19; refine (clean_calls _ HS.out _).mono ?_; rintro e w1 ⟨rfl, rfl⟩; rw [← H3.out])
          | (go_at_call 20; refine (parts_calls _ HS.out H47.out _ HM.out).mono ?_; rw [← HP.out]; rintro e w1 ⟨v, rfl, hv, hb⟩; have HB1 := Aside0.mk hb; clear hb; obtain ⟨A, c, rfl, hc, hx⟩ := (hv 0).read; have HV := Aside0.mk (And.intro hc hx); clear hc hx hv))
        go_loop [21] (fun i_ => ∃ k : Nat, k ≤ l.length ∧ i_ = .int .i64 k ∧ Aside0 ((l.take k).all (fun x => !PathP.badPart x) = true)) (fun i_ => l.length - (intOf i_).toNat)
        case atStart => exact ⟨0, Nat.zero_le _, rfl, ⟨rfl⟩⟩
        case round =>
          obtain ⟨k, hk, rfl, HA⟩ := hrel
          by_cases hlt : k < l.length
          · obtain ⟨p, hp⟩ : ∃ p : ByteArray, p = ⟨(l[k]).toArray⟩ := ⟨_, rfl⟩
            have hpl : p.data.toList = l[k] := by rw [hp]
            have hcx : (l.map str)[k]? = some (.string p) := by rw [List.getElem?_map, List.getElem?_eq_getElem hlt, hp]; rfl
            obtain ⟨g, rfl, hg2, hcell⟩ := HV.out.2 k _ hcx
            have hk6 : k < 1000000 := by have := HLL.out; omega
            have HPL := Aside0.mk (show p.data.toList ∈ l ∧ (l.take (k + 1)).all (fun x => !PathP.badPart x) = !PathP.badPart p.data.toList from by
              refine ⟨by rw [hpl]; exact List.getElem_mem _, ?_⟩
              rw [List.take_succ_eq_append_getElem hlt, List.all_append, HA.out, hpl]; simp)
            clear hp hpl hcx hg2
            rcases bad_cases p with ⟨e1, hb⟩ | ⟨e1, e2, hb⟩ | ⟨e1, e2, e3, hb⟩ | ⟨e1, e2, e3, hb⟩
            iterate 3
              · have hF : R = false := by rw [HR.out]; exact may_false (by rw [← HP.out]; exact HPL.out.1) hb
                clear hb
                go_wp2
                go_ret
                exact ⟨by first | (rw [hF]; rfl) | rfl, HB1.out⟩
            · have HN := Aside0.mk (show (l.take (k + 1)).all (fun x => !PathP.badPart x) = true from by rw [HPL.out.2, hb]; rfl)
              clear hb
              go_wp2
              go_round
              case rel => exact ⟨k + 1, by omega, by go_num, HN⟩
              case measure => simp [intOf]; omega
          · obtain rfl : k = l.length := by omega
            have hF : R = true := by rw [HG.out]; have := HA.out; rwa [List.take_length] at this
            go_wp2
            go_ret
            exact ⟨by first | (rw [hF]; rfl) | rfl, HB1.out⟩
end Go.Proofs.YtipojdjdlnafmaaDoor.Path
