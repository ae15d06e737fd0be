/- The contract of path.Join. -/
import Derived.Test.YtipojdjdlnafmaaDoorPathMay
import Derived.Test.YtipojdjdlnafmaaDoorPathR
namespace Go.Proofs.YtipojdjdlnafmaaDoor.Path
open Go Go.RowKit Go.Proofs.YtipojdjdlnafmaaDoorW.PrintWords Go.Proofs.YtipojdjdlnafmaaDoorW.PrintLast Go.Proofs.YtipojdjdlnafmaaDoorW.PrintMore Go.Proofs.YtipojdjdlnafmaaDoor.Quad
set_option linter.unusedVariables false
set_option linter.unusedSimpArgs false

def errNo : PathP.Err → Int
  | .ok => 0
  | .arg => 1
  | .form => 2
  | .over => 5
/-- What Join hands back. -/
def joinR (r : List UInt8 × PathP.Err) : Value := .tuple #[str r.1, .int .i64 (errNo r.2)]
def tot : List (List UInt8) → Nat
  | [] => 0
  | x :: l => x.length + 1 + tot l
theorem tot_app (a b : List (List UInt8)) : tot (a ++ b) = tot a + tot b := by
  induction a with
  | nil => simp [tot]
  | cons x a ih => rw [List.cons_append, tot, tot, ih]; omega
theorem tot_last (l : List (List UInt8)) : tot l.dropLast ≤ tot l := by
  rcases List.eq_nil_or_concat l with rfl | ⟨a, x, rfl⟩
  · exact Nat.le_refl _
  · rw [List.concat_eq_append, List.dropLast_concat, tot_app]; omega
theorem tot_step (l : List (List UInt8)) (x : List UInt8) : tot (PathP.step l x) ≤ tot l + x.length + 1 := by
  unfold PathP.step
  split
  · omega
  · split
    · have := tot_last l; omega
    · rw [tot_app]; simp only [tot]; omega
theorem tot_len (l : List (List UInt8)) : l.length ≤ tot l := by
  induction l with
  | nil => exact Nat.le_refl _
  | cons x l ih => simp only [List.length_cons, tot]; omega
theorem jn_tot (c : UInt8) : ∀ l : List (List UInt8), (Cut.jn c l).length ≤ tot l
  | [] => by simp [Cut.jn]
  | [p] => by simp [Cut.jn, tot]
  | p :: q :: r => by
    have ih := jn_tot c (q :: r)
    rw [Cut.jn, tot]
    simp only [List.length_append, List.length_cons]; omega
theorem tot_cut (c : UInt8) : ∀ l : List UInt8, tot (Cut.cut c l) = l.length + 1
  | [] => by simp [Cut.cut, tot]
  | b :: l => by
    have ih := tot_cut c l
    unfold Cut.cut
    split
    · simp only [tot, ih, List.length_nil, List.length_cons]; omega
    · match h : Cut.cut c l with
      | [] => exact absurd h (Cut.cut_ne c l)
      | p :: r => rw [h] at ih; simp only [tot, List.length_cons] at ih ⊢; omega
theorem tot_take (l : List (List UInt8)) (k : Nat) : tot (l.take k) ≤ tot l := by
  conv => rhs; rw [← List.take_append_drop k l]
  rw [tot_app]; omega
theorem tot_parts (l : List UInt8) : tot (PathP.parts l) ≤ l.length + 1 := by
  unfold PathP.parts
  split
  · simp [tot]
  · rw [tot_cut, List.length_drop]; omega
theorem tot_fold (l xs : List (List UInt8)) : tot (xs.foldl PathP.step l) ≤ tot l + tot xs := by
  induction xs generalizing l with
  | nil => simp [tot]
  | cons x xs ih =>
    rw [List.foldl_cons, tot]
    have := ih (PathP.step l x)
    have := tot_step l x
    omega

/-- strings.Join by a stroke, of whatever lies so. -/
theorem join_any (ls : List (List UInt8)) (v : Value) (B : Nat) (w : World) (h : Row.Lies w B 9 v (ls.map str)) (hl : tot ls ≤ 100000000) :
    Calls Tryd.prog 23 #[v, .string ⟨#[47]⟩] w fun e w' => e = .returned (.string ⟨(Cut.jn 47 ls).toArray⟩) ∧ Below w.heap.size w w' := by
  have hm : ls.map str = (ls.map fun x => (⟨x.toArray⟩ : ByteArray)).map Value.string := by rw [List.map_map]; rfl
  have hd : (ls.map fun x => (⟨x.toArray⟩ : ByteArray)).map (·.data.toList) = ls := by
    rw [List.map_map]
    conv => rhs; rw [← List.map_id ls]
    rfl
  rcases h.form with ⟨rfl, h0⟩ | ⟨g, c, rfl, hc, hg, hx⟩
  · have h1 : ls = [] := by simpa using h0
    subst h1
    exact (Tryd.strings_Join_none none 0 ⟨#[47]⟩ w).mono fun e w' ⟨he, hw⟩ => ⟨he, hw ▸ Below.refl _ _⟩
  · have hj := Tryd.strings_Join g 0 c (ls.map fun x => (⟨x.toArray⟩ : ByteArray)) ⟨#[47]⟩ w (fun j x hx' => hx j (.string x) (by rw [hm, List.getElem?_map, hx']; rfl)) hg
      (by rw [List.length_map]; have := tot_len ls; omega) (by rw [List.length_map] at hc ⊢; exact hc)
      (by rw [hd, show (ByteArray.mk #[47]).data.toList = [47] from rfl, Cut.join_jn]; have := jn_tot 47 ls; omega)
    rw [hd, show (ByteArray.mk #[47]).data.toList = [47] from rfl, Cut.join_jn, List.length_map] at hj
    rw [List.length_map]
    exact hj
theorem step_cases (l : List (List UInt8)) (p : ByteArray) : (p.toList = [] ∧ PathP.step l p.data.toList = l) ∨ (p.toList.isEmpty = false ∧ p.toList = [46] ∧ PathP.step l p.data.toList = l) ∨
    (p.toList.isEmpty = false ∧ (p.toList == [46]) = false ∧ p.toList = [46, 46] ∧ PathP.step l p.data.toList = l.dropLast) ∨
    (p.toList.isEmpty = false ∧ (p.toList == [46]) = false ∧ (p.toList == [46, 46]) = false ∧ PathP.step l p.data.toList = l ++ [p.data.toList]) := by
  have e : p.toList = p.data.toList := ByteArray.toList_eq p
  rw [e]
  by_cases h1 : p.data.toList = []
  · exact .inl ⟨h1, by rw [h1]; rfl⟩
  · by_cases h2 : p.data.toList = [46]
    · exact .inr (.inl ⟨by rw [h2]; rfl, h2, by rw [h2]; rfl⟩)
    · by_cases h3 : p.data.toList = [46, 46]
      · exact .inr (.inr (.inl ⟨by rw [h3]; rfl, beq_eq_false_iff_ne.2 h2, h3, by rw [h3, PathP.step_up]⟩))
      · refine .inr (.inr (.inr ⟨List.isEmpty_eq_false_iff.2 h1, beq_eq_false_iff_ne.2 h2, beq_eq_false_iff_ne.2 h3, ?_⟩))
        rw [PathP.step, if_neg (fun h => h.elim h1 h2), if_neg h3]

set_option maxHeartbeats 2000000 in
set_option maxRecDepth 100000 in
theorem join_calls (s t : ByteArray) (hs : s.size ≤ 1000000) (ht : t.size ≤ 1000000) (w : World) (hm : Mx w) :
    Calls Tryd.prog 12 #[.string s, .string t] w fun e w' => e = .returned (joinR (PathP.join s.data.toList t.data.toList)) ∧ Below w.heap.size w w' := by
  obtain ⟨R, hR⟩ : ∃ R, R = joinR (PathP.join s.data.toList t.data.toList) := ⟨_, rfl⟩
  rw [← hR]
  have HR := Aside0.mk hR
  clear hR
  have HM := Aside0.mk hm
  have HS := Aside0.mk (And.intro hs ht)
  clear hm hs ht
  obtain ⟨b1, hb1⟩ : ∃ b, b = PathP.may s.data.toList := ⟨_, rfl⟩
  obtain ⟨b2, hb2⟩ : ∃ b, b = PathP.clean t.data.toList := ⟨_, rfl⟩
  have H1 := Aside0.mk hb1
  have H2 := Aside0.mk hb2
  clear hb1 hb2
  cases b1 with
  | false =>
    have HF := Aside0.mk (show R = joinR ([], .arg) from by rw [HR.out, PathP.join, if_pos H1.out.symm])
    go_enter Tryd.func12, Tryd.ntmps12
    go_wp2_with (go_at_call 15; refine (may_calls _ HS.out.1 _ HM.out).mono ?_; rw [← H1.out]; rintro e w1 ⟨rfl, hb⟩; have HB1 := Aside0.mk hb; clear hb)
    go_ret2
    exact ⟨by first | (rw [HF.out]; rfl) | rfl, HB1.out⟩
  | true =>
    cases b2 with
    | false =>
      have HF := Aside0.mk (show R = joinR ([], .form) from by rw [HR.out, PathP.join, if_neg (by rw [← H1.out]; decide), if_pos H2.out.symm])
      go_enter Tryd.func12, Tryd.ntmps12
      go_wp2_with (first
        | (go_at_call 15; refine (may_calls _ HS.out.1 _ HM.out).mono ?_; rw [← H1.out]; rintro e w1 ⟨rfl, hb⟩; have HB1 := Aside0.mk hb; clear hb)
        | (go_at_call 19; refine (clean_calls _ HS.out.2 _).mono ?_; rintro e w2 ⟨rfl, rfl⟩; rw [← H2.out]))
      go_ret2
      exact ⟨by first | (rw [HF.out]; rfl) | rfl, HB1.out⟩
    | true =>
      obtain ⟨i0, hi, hz0, hz1, hz2⟩ := info_parts info9
      have HI := Aside0.mk (And.intro hi (And.intro hz0 (And.intro hz1 hz2)))
      clear hi hz0 hz1 hz2
      have H47 := Aside0.mk (PathP.may_clean H1.out.symm).2.2
      have HG := Aside0.mk (show R = joinR (if 200 < (PathP.lead s.data.toList t.data.toList).length then ([], .over) else (PathP.lead s.data.toList t.data.toList, .ok)) from by
        rw [HR.out, PathP.join, if_neg (by rw [← H1.out]; decide), if_neg (by rw [← H2.out]; decide)])
      obtain ⟨b, hb⟩ : ∃ b, b = Lib.hasPrefix t.data.toList [47] := ⟨_, rfl⟩
      have HB := Aside0.mk hb
      clear hb
      obtain ⟨ps, hps, hsp⟩ := split_calls 47 t (by have := HS.out.2; omega)
      have HSP := Aside0.mk hsp
      obtain ⟨init, hin⟩ : ∃ init, init = if t.data.toList.head? = some 47 then [] else PathP.parts s.data.toList := ⟨_, rfl⟩
      have HIN := Aside0.mk hin
      have HBB := Aside0.mk (show b = decide (t.data.toList.head? = some 47) from by
        rw [HB.out]
        exact pre47 _)
      have HPS := Aside0.mk (show PathP.lead s.data.toList t.data.toList = PathP.whole ((ps.map (·.data.toList)).foldl PathP.step init) ∧ tot init + tot (ps.map (·.data.toList)) ≤ 2000002 ∧ ps.length ≤ 1000001 from by
        rw [hps, hin]
        refine ⟨rfl, ?_, ?_⟩
        · have h1 := tot_parts s.data.toList
          have h2 := tot_cut 47 t.data.toList
          have h3 := data_length s
          have h4 := data_length t
          have h5 := HS.out.1
          have h6 := HS.out.2
          split
          · simp only [tot]; omega
          · omega
        · have := cut_len 47 t.data.toList
          rw [← hps, List.length_map] at this
          have h4 := data_length t
          have h6 := HS.out.2
          omega)
      clear hps hsp hin
      cases b with
      | true =>
        have HINI := Aside0.mk (show init = [] from by rw [HIN.out, if_pos (of_decide_eq_true HBB.out.symm)])
        go_enter Tryd.func12, Tryd.ntmps12
        go_wp2_with (first
          | (go_at_call 15; refine (may_calls _ HS.out.1 _ HM.out).mono ?_; rw [← H1.out]; rintro e w1 ⟨rfl, hb⟩; have HB1 := Aside0.mk hb; clear hb)
          | (go_at_call 19; refine (clean_calls _ HS.out.2 _).mono ?_; rintro e w2 ⟨rfl, hw⟩; obtain rfl := hw.symm; rw [← H2.out])
          | (go_at_call 20; refine (parts_calls _ HS.out.1 H47.out _ (HM.out.below HB1.out)).mono ?_; rintro e w3 ⟨v, rfl, hv, hb⟩; have HB3 := Aside0.mk (HB1.out.trans (hb.mono HB1.out.size)); have HV := Aside0.mk (show ∀ B, Row.Lies w3 B 9 (.slice none 0 0) (init.map str) from fun B => by rw [HINI.out]; exact Row.Lies.nil _ _ _); clear hb; clear hv)
          | (go_at_call 21; refine (Tryd.strings_HasPrefix _ _ _).mono ?_; rintro e w2 ⟨rfl, hw⟩; obtain rfl := hw.symm; rw [show (ByteArray.mk #[47]).data.toList = [47] from rfl, ← HB.out])
          | (go_at_call 22; refine (HSP.out _ (HM.out.below HB3.out)).mono ?_; rintro e w4 ⟨rfl, rfl⟩))
        go_loopw [6, 24] (fun v i wr => ∃ (k : Nat) (ls : List (List UInt8)), k ≤ ps.length ∧ i = .int .i64 k ∧ Aside0 (ls = ((ps.map (·.data.toList)).take k).foldl PathP.step init) ∧ Aside0 (Row.Lies wr (w3.heap.size + 1) 9 v (ls.map str)) ∧ Aside0 (Below (w3.heap.size + 1) (w3.alloc (.cells (ps.map Value.string).toArray 9)) wr)) (fun _ i _ => ps.length - (intOf i).toNat)
        case atStart => exact ⟨0, init, Nat.zero_le _, rfl, ⟨rfl⟩, ⟨(HV.out _).alloc _⟩, ⟨Below.refl _ _⟩⟩
        case round =>
          obtain ⟨k, ls, hk, rfl, HLS, HO, HB5⟩ := hrel
          have HTOT := Aside0.mk (show tot ls ≤ 2000002 ∧ ls.length ≤ 2000002 from by
            have h1 := tot_fold init ((ps.map (·.data.toList)).take k)
            have h2 := tot_take (ps.map (·.data.toList)) k
            have h3 := HPS.out.2.1
            rw [← HLS.out] at h1
            have h4 := tot_len ls
            omega)
          have HB0 := Aside0.mk (show Below w.heap.size w wr from (HB3.out.alloc HB3.out.size _).trans (HB5.out.mono (Nat.le_succ_of_le HB3.out.size)))
          have HSW := Aside0.mk (show w3.heap.size + 1 ≤ wr.heap.size from by have := HB5.out.size; simpa using this)
          by_cases hlt : k < ps.length
          · obtain ⟨p, hp⟩ : ∃ p : ByteArray, p = ps[k] := ⟨_, rfl⟩
            have hcell : wr.cell? ⟨w3.heap.size, k, none⟩ = some (.string p) := by
              rw [HB5.out.cell (show w3.heap.size < w3.heap.size + 1 from Nat.lt_succ_self _)]
              have := Laws.new_cells w3 (ps.map Value.string) 9 _ rfl k (.string p) (by rw [List.getElem?_map, List.getElem?_eq_getElem hlt, hp]; rfl)
              rwa [add_plain] at this
            have HNX := Aside0.mk (show ((ps.map (·.data.toList)).take (k + 1)).foldl PathP.step init = PathP.step ls p.data.toList from by
              rw [List.take_succ_eq_append_getElem (by rw [List.length_map]; exact hlt), List.foldl_append, ← HLS.out, List.getElem_map, hp]; rfl)
            have hk6 : k < 10000000 := by have := HPS.out.2.2; omega
            obtain ⟨A, N, c, rfl, hN, hNc, hx⟩ := HO.out.readN
            rw [List.length_map] at hN
            have HX := Aside0.mk (And.intro hN hx)
            have hN6 : N < 10000000 := by have := HTOT.out.2; omega
            clear hp hN hx
            rcases step_cases ls p with ⟨e1, hst⟩ | ⟨e1, e2, hst⟩ | ⟨e1, e2, e3, hst⟩ | ⟨e1, e2, e3, hst⟩
            iterate 2
              · have HST := Aside0.mk hst
                clear hst
                go_wp2
                go_roundw
                case rel => exact ⟨k + 1, ls, by omega, by go_num, ⟨by rw [HNX.out, HST.out]⟩, HO, HB5⟩
                case measure => simp [intOf]; omega
            · by_cases h0 : N = 0
              · have HST := Aside0.mk (show PathP.step ls p.data.toList = ls from by rw [hst, List.eq_nil_of_length_eq_zero (l := ls) (by rw [← HX.out.1, h0])]; rfl)
                subst h0
                clear hst
                go_wp2
                go_roundw
                case rel => exact ⟨k + 1, ls, by omega, by go_num, ⟨by rw [HNX.out, HST.out]⟩, HO, HB5⟩
                case measure => simp [intOf]; omega
              · obtain ⟨g, rfl, hg, hq⟩ := HX.out.2 0 (str (ls[0]'(by rw [← HX.out.1]; omega))) (by rw [List.getElem?_map, List.getElem?_eq_getElem (by rw [← HX.out.1]; omega)]; rfl)
                obtain ⟨M, rfl⟩ : ∃ M, N = M + 1 := ⟨N - 1, by omega⟩
                have hN0 : ((M : Int) + 1 == 0) = false := beq_eq_false_iff_ne.2 (by omega)
                have hw : wrap64 (M : Int) = (M : Int) := by unfold wrap64; omega
                have hMc : M ≤ c := by omega
                have hMc' : (M : Int) ≤ (c : Int) := by omega
                have hM0 : 0 ≤ (M : Int) := by omega
                have HST := Aside0.mk hst
                have HO2 := Aside0.mk (show Row.Lies wr (w3.heap.size + 1) 9 (.slice (some ⟨g, 0, none⟩) M M) (ls.dropLast.map str) from by
                  rw [List.map_dropLast]; exact HO.out.last M (by omega))
                clear hq
                clear hst h0 hg
                go_wp2
                go_roundw
                case rel => exact ⟨k + 1, ls.dropLast, by omega, by go_num, ⟨by rw [HNX.out, HST.out]⟩, HO2, HB5⟩
                case measure => simp [intOf]; omega
            · have HST := Aside0.mk hst
              have HPP := Aside0.mk (show Value.string p = str p.data.toList from rfl)
              clear hst
              go_wp2_with ((with_reducible refine Laws.gate 33 rfl ?_); refine Row.append rfl (.tmp 30) (.tmp 32) 31 rfl (w3.heap.size + 1) 9 i0 (.string ⟨#[]⟩) 16 Tryd.underlying31 HI.out.1 HI.out.2.1 HI.out.2.2.1 HI.out.2.2.2 rfl _ (ls.map str) rfl (HO.out.alloc _) ⟨wr.heap.size, 0, none⟩ 1 1 [.string p] rfl rfl (by decide) (Laws.new_cells wr _ _ _ rfl) (fun u hu => by simp at hu; subst hu; rfl) (by rw [List.length_map]; have := HTOT.out.2; simp only [maxLen]; omega) (by rw [List.length_map]; have := HTOT.out.2; omega) (Nat.le_trans HSW.out (by simp)) ?_; intro v6 w6 ho6 hb6; have HO6 := Aside0.mk (show Row.Lies w6 (w3.heap.size + 1) 9 v6 ((ls ++ [p.data.toList]).map str) from .inl (by rw [List.map_append, List.length_append]; exact ho6)); have HB6 := Aside0.mk (show Below (w3.heap.size + 1) (w3.alloc (.cells (ps.map Value.string).toArray 9)) w6 from (HB5.out.alloc HSW.out _).trans hb6); clear ho6 hb6)
              go_roundw
              case rel => exact ⟨k + 1, ls ++ [p.data.toList], by omega, by go_num, ⟨by rw [HNX.out, HST.out]⟩, HO6, HB6⟩
              case measure => simp [intOf]; omega
          · obtain rfl : k = ps.length := by omega
            obtain ⟨J, hJ⟩ : ∃ J : ByteArray, J = ⟨(Cut.jn 47 ls).toArray⟩ := ⟨_, rfl⟩
            have hJl : J.data.toList = Cut.jn 47 ls := by rw [hJ]
            have HLD := Aside0.mk (show PathP.lead s.data.toList t.data.toList = 47 :: J.data.toList from by
              rw [HPS.out.1, hJl, HLS.out, List.take_of_length_le (by rw [List.length_map]; exact Nat.le_refl _)]; rfl)
            have HJ := Aside0.mk hJ
            have hJs : J.size ≤ 2000002 := by rw [← data_length, hJl]; exact Nat.le_trans (jn_tot 47 ls) HTOT.out.1
            have hs1 : (ByteArray.mk #[47]).size = 1 := rfl
            have HE := Aside0.mk (show Value.string ((⟨#[47]⟩ : ByteArray) ++ J) = str (47 :: J.data.toList) from by
              refine congrArg Value.string ?_; apply ByteArray.ext; apply Array.ext'; simp)
            obtain ⟨A, N, c, rfl, hN, hNc, hx⟩ := HO.out.readN
            clear hJ hJl hN hNc hx
            by_cases h2 : 200 < 1 + J.size
            · have HF := Aside0.mk (show R = joinR ([], .over) from by
                rw [HG.out, if_pos]
                rw [HLD.out, List.length_cons, data_length]; omega)
              go_wp2_with (go_at_call 23; refine (join_any ls _ _ _ HO.out (Nat.le_trans HTOT.out.1 (by decide))).mono ?_; rw [← HJ.out]; rintro e w7 ⟨rfl, hb7⟩; have HB7 := Aside0.mk (HB0.out.trans (hb7.mono HB0.out.size)); clear hb7)
              go_ret2
              exact ⟨by first | (rw [HF.out]; rfl) | rfl, HB7.out⟩
            · have HF := Aside0.mk (show R = joinR (47 :: J.data.toList, .ok) from by
                rw [HG.out, if_neg, HLD.out]
                rw [HLD.out, List.length_cons, data_length]; omega)
              go_wp2_with (go_at_call 23; refine (join_any ls _ _ _ HO.out (Nat.le_trans HTOT.out.1 (by decide))).mono ?_; rw [← HJ.out]; rintro e w7 ⟨rfl, hb7⟩; have HB7 := Aside0.mk (HB0.out.trans (hb7.mono HB0.out.size)); clear hb7)
              go_ret2
              exact ⟨by rw [HF.out, HE.out]; rfl, HB7.out⟩
      | false =>
        have HINI := Aside0.mk (show init = PathP.parts s.data.toList from by rw [HIN.out, if_neg (of_decide_eq_false HBB.out.symm)])
        go_enter Tryd.func12, Tryd.ntmps12
        go_wp2_with (first
          | (go_at_call 15; refine (may_calls _ HS.out.1 _ HM.out).mono ?_; rw [← H1.out]; rintro e w1 ⟨rfl, hb⟩; have HB1 := Aside0.mk hb; clear hb)
          | (go_at_call 19; refine (clean_calls _ HS.out.2 _).mono ?_; rintro e w2 ⟨rfl, hw⟩; obtain rfl := hw.symm; rw [← H2.out])
          | (go_at_call 20; refine (parts_calls _ HS.out.1 H47.out _ (HM.out.below HB1.out)).mono ?_; rintro e w3 ⟨v, rfl, hv, hb⟩; have HB3 := Aside0.mk (HB1.out.trans (hb.mono HB1.out.size)); have HV := Aside0.mk (show ∀ B, Row.Lies w3 B 9 v (init.map str) from fun B => by rw [HINI.out]; exact hv B); clear hb; clear hv)
          | (go_at_call 21; refine (Tryd.strings_HasPrefix _ _ _).mono ?_; rintro e w2 ⟨rfl, hw⟩; obtain rfl := hw.symm; rw [show (ByteArray.mk #[47]).data.toList = [47] from rfl, ← HB.out])
          | (go_at_call 22; refine (HSP.out _ (HM.out.below HB3.out)).mono ?_; rintro e w4 ⟨rfl, rfl⟩))
        go_loopw [6, 24] (fun v i wr => ∃ (k : Nat) (ls : List (List UInt8)), k ≤ ps.length ∧ i = .int .i64 k ∧ Aside0 (ls = ((ps.map (·.data.toList)).take k).foldl PathP.step init) ∧ Aside0 (Row.Lies wr (w3.heap.size + 1) 9 v (ls.map str)) ∧ Aside0 (Below (w3.heap.size + 1) (w3.alloc (.cells (ps.map Value.string).toArray 9)) wr)) (fun _ i _ => ps.length - (intOf i).toNat)
        case atStart => exact ⟨0, init, Nat.zero_le _, rfl, ⟨rfl⟩, ⟨(HV.out _).alloc _⟩, ⟨Below.refl _ _⟩⟩
        case round =>
          obtain ⟨k, ls, hk, rfl, HLS, HO, HB5⟩ := hrel
          have HTOT := Aside0.mk (show tot ls ≤ 2000002 ∧ ls.length ≤ 2000002 from by
            have h1 := tot_fold init ((ps.map (·.data.toList)).take k)
            have h2 := tot_take (ps.map (·.data.toList)) k
            have h3 := HPS.out.2.1
            rw [← HLS.out] at h1
            have h4 := tot_len ls
            omega)
          have HB0 := Aside0.mk (show Below w.heap.size w wr from (HB3.out.alloc HB3.out.size _).trans (HB5.out.mono (Nat.le_succ_of_le HB3.out.size)))
          have HSW := Aside0.mk (show w3.heap.size + 1 ≤ wr.heap.size from by have := HB5.out.size; simpa using this)
          by_cases hlt : k < ps.length
          · obtain ⟨p, hp⟩ : ∃ p : ByteArray, p = ps[k] := ⟨_, rfl⟩
            have hcell : wr.cell? ⟨w3.heap.size, k, none⟩ = some (.string p) := by
              rw [HB5.out.cell (show w3.heap.size < w3.heap.size + 1 from Nat.lt_succ_self _)]
              have := Laws.new_cells w3 (ps.map Value.string) 9 _ rfl k (.string p) (by rw [List.getElem?_map, List.getElem?_eq_getElem hlt, hp]; rfl)
              rwa [add_plain] at this
            have HNX := Aside0.mk (show ((ps.map (·.data.toList)).take (k + 1)).foldl PathP.step init = PathP.step ls p.data.toList from by
              rw [List.take_succ_eq_append_getElem (by rw [List.length_map]; exact hlt), List.foldl_append, ← HLS.out, List.getElem_map, hp]; rfl)
            have hk6 : k < 10000000 := by have := HPS.out.2.2; omega
            obtain ⟨A, N, c, rfl, hN, hNc, hx⟩ := HO.out.readN
            rw [List.length_map] at hN
            have HX := Aside0.mk (And.intro hN hx)
            have hN6 : N < 10000000 := by have := HTOT.out.2; omega
            clear hp hN hx
            rcases step_cases ls p with ⟨e1, hst⟩ | ⟨e1, e2, hst⟩ | ⟨e1, e2, e3, hst⟩ | ⟨e1, e2, e3, hst⟩
            iterate 2
              · have HST := Aside0.mk hst
                clear hst
                go_wp2
                go_roundw
                case rel => exact ⟨k + 1, ls, by omega, by go_num, ⟨by rw [HNX.out, HST.out]⟩, HO, HB5⟩
                case measure => simp [intOf]; omega
            · by_cases h0 : N = 0
              · have HST := Aside0.mk (show PathP.step ls p.data.toList = ls from by rw [hst, List.eq_nil_of_length_eq_zero (l := ls) (by rw [← HX.out.1, h0])]; rfl)
                subst h0
                clear hst
                go_wp2
                go_roundw
                case rel => exact ⟨k + 1, ls, by omega, by go_num, ⟨by rw [HNX.out, HST.out]⟩, HO, HB5⟩
                case measure => simp [intOf]; omega
              · obtain ⟨g, rfl, hg, hq⟩ := HX.out.2 0 (str (ls[0]'(by rw [← HX.out.1]; omega))) (by rw [List.getElem?_map, List.getElem?_eq_getElem (by rw [← HX.out.1]; omega)]; rfl)
                obtain ⟨M, rfl⟩ : ∃ M, N = M + 1 := ⟨N - 1, by omega⟩
                have hN0 : ((M : Int) + 1 == 0) = false := beq_eq_false_iff_ne.2 (by omega)
                have hw : wrap64 (M : Int) = (M : Int) := by unfold wrap64; omega
                have hMc : M ≤ c := by omega
                have hMc' : (M : Int) ≤ (c : Int) := by omega
                have hM0 : 0 ≤ (M : Int) := by omega
                have HST := Aside0.mk hst
                have HO2 := Aside0.mk (show Row.Lies wr (w3.heap.size + 1) 9 (.slice (some ⟨g, 0, none⟩) M M) (ls.dropLast.map str) from by
                  rw [List.map_dropLast]; exact HO.out.last M (by omega))
                clear hq
                clear hst h0 hg
                go_wp2
                go_roundw
                case rel => exact ⟨k + 1, ls.dropLast, by omega, by go_num, ⟨by rw [HNX.out, HST.out]⟩, HO2, HB5⟩
                case measure => simp [intOf]; omega
            · have HST := Aside0.mk hst
              have HPP := Aside0.mk (show Value.string p = str p.data.toList from rfl)
              clear hst
              go_wp2_with ((with_reducible refine Laws.gate 33 rfl ?_); refine Row.append rfl (.tmp 30) (.tmp 32) 31 rfl (w3.heap.size + 1) 9 i0 (.string ⟨#[]⟩) 16 Tryd.underlying31 HI.out.1 HI.out.2.1 HI.out.2.2.1 HI.out.2.2.2 rfl _ (ls.map str) rfl (HO.out.alloc _) ⟨wr.heap.size, 0, none⟩ 1 1 [.string p] rfl rfl (by decide) (Laws.new_cells wr _ _ _ rfl) (fun u hu => by simp at hu; subst hu; rfl) (by rw [List.length_map]; have := HTOT.out.2; simp only [maxLen]; omega) (by rw [List.length_map]; have := HTOT.out.2; omega) (Nat.le_trans HSW.out (by simp)) ?_; intro v6 w6 ho6 hb6; have HO6 := Aside0.mk (show Row.Lies w6 (w3.heap.size + 1) 9 v6 ((ls ++ [p.data.toList]).map str) from .inl (by rw [List.map_append, List.length_append]; exact ho6)); have HB6 := Aside0.mk (show Below (w3.heap.size + 1) (w3.alloc (.cells (ps.map Value.string).toArray 9)) w6 from (HB5.out.alloc HSW.out _).trans hb6); clear ho6 hb6)
              go_roundw
              case rel => exact ⟨k + 1, ls ++ [p.data.toList], by omega, by go_num, ⟨by rw [HNX.out, HST.out]⟩, HO6, HB6⟩
              case measure => simp [intOf]; omega
          · obtain rfl : k = ps.length := by omega
            obtain ⟨J, hJ⟩ : ∃ J : ByteArray, J = ⟨(Cut.jn 47 ls).toArray⟩ := ⟨_, rfl⟩
            have hJl : J.data.toList = Cut.jn 47 ls := by rw [hJ]
            have HLD := Aside0.mk (show PathP.lead s.data.toList t.data.toList = 47 :: J.data.toList from by
              rw [HPS.out.1, hJl, HLS.out, List.take_of_length_le (by rw [List.length_map]; exact Nat.le_refl _)]; rfl)
            have HJ := Aside0.mk hJ
            have hJs : J.size ≤ 2000002 := by rw [← data_length, hJl]; exact Nat.le_trans (jn_tot 47 ls) HTOT.out.1
            have hs1 : (ByteArray.mk #[47]).size = 1 := rfl
            have HE := Aside0.mk (show Value.string ((⟨#[47]⟩ : ByteArray) ++ J) = str (47 :: J.data.toList) from by
              refine congrArg Value.string ?_; apply ByteArray.ext; apply Array.ext'; simp)
            obtain ⟨A, N, c, rfl, hN, hNc, hx⟩ := HO.out.readN
            clear hJ hJl hN hNc hx
            by_cases h2 : 200 < 1 + J.size
            · have HF := Aside0.mk (show R = joinR ([], .over) from by
                rw [HG.out, if_pos]
                rw [HLD.out, List.length_cons, data_length]; omega)
              go_wp2_with (go_at_call 23; refine (join_any ls _ _ _ HO.out (Nat.le_trans HTOT.out.1 (by decide))).mono ?_; rw [← HJ.out]; rintro e w7 ⟨rfl, hb7⟩; have HB7 := Aside0.mk (HB0.out.trans (hb7.mono HB0.out.size)); clear hb7)
              go_ret2
              exact ⟨by first | (rw [HF.out]; rfl) | rfl, HB7.out⟩
            · have HF := Aside0.mk (show R = joinR (47 :: J.data.toList, .ok) from by
                rw [HG.out, if_neg, HLD.out]
                rw [HLD.out, List.length_cons, data_length]; omega)
              go_wp2_with (go_at_call 23; refine (join_any ls _ _ _ HO.out (Nat.le_trans HTOT.out.1 (by decide))).mono ?_; rw [← HJ.out]; rintro e w7 ⟨rfl, hb7⟩; have HB7 := Aside0.mk (HB0.out.trans (hb7.mono HB0.out.size)); clear hb7)
              go_ret2
              exact ⟨by rw [HF.out, HE.out]; rfl, HB7.out⟩
end Go.Proofs.YtipojdjdlnafmaaDoor.Path
