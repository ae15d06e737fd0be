/- The contract of the reference's Join. -/
import Derived.Test.YtipojdjdlnafmaaDoorPathRefMay
namespace Go.Proofs.YtipojdjdlnafmaaDoor.Path
open Go Go.RowKit Go.Proofs.YtipojdjdlnafmaaDoorW.PrintWords Go.Proofs.YtipojdjdlnafmaaDoorW.PrintLast Go.Proofs.YtipojdjdlnafmaaDoorW.PrintMore Go.Proofs.YtipojdjdlnafmaaDoor.Quad
set_option linter.unusedVariables false
set_option linter.unusedSimpArgs false

/-- A stroke ahead of each. -/
def flat (l : List (List UInt8)) : List UInt8 := l.flatMap fun x => 47 :: x
theorem flat_tot (l : List (List UInt8)) : (flat l).length = tot l := by
  induction l with
  | nil => rfl
  | cons x l ih => rw [flat, List.flatMap_cons, List.length_append, ← flat, ih, tot]; simp
theorem flat_whole : ∀ {l : List (List UInt8)}, l ≠ [] → flat l = PathP.whole l
  | [], h => absurd rfl h
  | [x], _ => by simp [flat, PathP.whole, Cut.jn]
  | x :: y :: r, _ => by
    have ih := flat_whole (l := y :: r) (by simp)
    rw [flat, List.flatMap_cons, ← flat, ih, PathP.whole, PathP.whole, Cut.jn]; rfl
theorem flat_snoc (l : List (List UInt8)) (x : List UInt8) : flat (l ++ [x]) = flat l ++ 47 :: x := by simp [flat]

set_option maxHeartbeats 2000000 in
set_option maxRecDepth 100000 in
theorem ref_join_calls (s t : ByteArray) (hs : s.size ≤ 1000000) (ht : t.size ≤ 1000000) (w : World) :
    Calls Tryd.prog 13 #[.string s, .string t] w fun e w' => e = .returned (joinR (PathP.join s.data.toList t.data.toList)) ∧ Below w.heap.size w w' := by
  obtain ⟨R, hR⟩ : ∃ R, R = joinR (PathP.join s.data.toList t.data.toList) := ⟨_, rfl⟩
  rw [← hR]
  have HR := Aside0.mk hR
  clear hR
  have HS := Aside0.mk (And.intro hs ht)
  obtain ⟨b1, hb1⟩ : ∃ b, b = PathP.may s.data.toList := ⟨_, rfl⟩
  obtain ⟨b2, hb2⟩ : ∃ b, b = PathP.clean t.data.toList := ⟨_, rfl⟩
  have H1 := Aside0.mk hb1
  have H2 := Aside0.mk hb2
  obtain ⟨c0, hc0⟩ : ∃ c, c = bt t 0 := ⟨_, rfl⟩
  have HC0 := Aside0.mk (show 0 < t.size → (c0 = 47 ↔ t.data.toList.head? = some 47) from fun h => by
    have hp : 0 < t.data.toList.length := by rw [data_length]; exact h
    have h4 := bt_byte t 0 hp
    rw [show ((0 : Nat) : Int) = 0 from rfl, ← hc0] at h4
    rw [h4, List.head?_eq_getElem?, List.getElem?_eq_getElem hp, Option.some.injEq, ← UInt8.toNat_inj]
    have e : (47 : UInt8).toNat = 47 := rfl
    omega)
  have hx0 : ∀ h : 0 < t.size, ((t[0]'h).toNat : Int) = c0 := fun h => by rw [hc0]; exact bt_at t 0 h
  clear hb1 hb2 hc0 hs ht
  cases b1 with
  | false =>
    have HF := Aside0.mk (show R = joinR ([], .arg) from by rw [HR.out, PathP.join, if_pos H1.out.symm])
    clear hx0
    go_enter Tryd.func13, Tryd.ntmps13
    go_wp2_with (first
      | (go_at_call 11; refine (ref_may_calls _ HS.out.1 _).mono ?_; rw [← H1.out]; rintro e w1 ⟨rfl, hb⟩; have HB1 := Aside0.mk hb; clear hb)
      | (go_at_call 17; refine (ref_clean_calls _ HS.out.2 _).mono ?_; rintro e w2 ⟨rfl, hw⟩; obtain rfl := hw.symm; rw [← H2.out]))
    go_ret2
    exact ⟨by first | (rw [HF.out]; rfl) | rfl, HB1.out⟩
  | true =>
    cases b2 with
    | false =>
      have HF := Aside0.mk (show R = joinR ([], .form) from by rw [HR.out, PathP.join, if_neg (by rw [← H1.out]; decide), if_pos H2.out.symm])
      clear hx0
      go_enter Tryd.func13, Tryd.ntmps13
      go_wp2_with (first
        | (go_at_call 11; refine (ref_may_calls _ HS.out.1 _).mono ?_; rw [← H1.out]; rintro e w1 ⟨rfl, hb⟩; have HB1 := Aside0.mk hb; clear hb)
        | (go_at_call 17; refine (ref_clean_calls _ HS.out.2 _).mono ?_; rintro e w2 ⟨rfl, hw⟩; obtain rfl := hw.symm; rw [← H2.out]))
      go_ret2
      exact ⟨by first | (rw [HF.out]; rfl) | rfl, HB1.out⟩
    | true =>
      obtain ⟨i0, hi, hz0, hz1, hz2⟩ := info_parts info9
      have HI := Aside0.mk (And.intro hi (And.intro hz0 (And.intro hz1 hz2)))
      clear hi hz0 hz1 hz2
      have HG := Aside0.mk (show R = joinR (if 200 < (PathP.lead s.data.toList t.data.toList).length then ([], .over) else (PathP.lead s.data.toList t.data.toList, .ok)) from by
        rw [HR.out, PathP.join, if_neg (by rw [← H1.out]; decide), if_neg (by rw [← H2.out]; decide)])
      obtain ⟨xs, hxs⟩ : ∃ xs, xs = PathP.parts s.data.toList := ⟨_, rfl⟩
      have HX := Aside0.mk hxs
      obtain ⟨ps, hps⟩ : ∃ ps, ps = Cut.cut 47 t.data.toList := ⟨_, rfl⟩
      have HP := Aside0.mk hps
      obtain ⟨init, hin⟩ : ∃ init, init = if t.data.toList.head? = some 47 then [] else xs := ⟨_, rfl⟩
      have HIN := Aside0.mk hin
      have HPS := Aside0.mk (show PathP.lead s.data.toList t.data.toList = PathP.whole (ps.foldl PathP.step init) ∧ tot init + tot ps ≤ 2000002 ∧ ps.length ≤ 1000001 ∧ xs.length ≤ 1000001 ∧ 0 < ps.length from by
        have h1 := tot_parts s.data.toList
        have h2 := tot_cut 47 t.data.toList
        have h3 := data_length s
        have h4 := data_length t
        have h5 := HS.out.1
        have h6 := HS.out.2
        have h7 := cut_len 47 t.data.toList
        have h8 := parts_len s.data.toList
        rw [hps, hin, hxs]
        refine ⟨rfl, ?_, by omega, by omega, List.length_pos_iff.2 (Cut.cut_ne _ _)⟩
        split
        · simp only [tot]; omega
        · omega)
      clear hxs hps hin
      have hgoes : (((decide (0 < (t.size : Int))) = true ∧ (c0 == 47) = true ∧ 0 < t.size) ∧ init = []) ∨ (((decide (0 < (t.size : Int))) = true ∧ (c0 == 47) = false ∧ 0 < t.size) ∧ init = xs) ∨ (t.size = 0 ∧ init = xs) := by
        rw [HIN.out]
        by_cases h0 : 0 < t.size
        · by_cases h47 : c0 = 47
          · exact .inl ⟨⟨decide_eq_true (by omega), beq_iff_eq.2 h47, h0⟩, if_pos ((HC0.out h0).1 h47)⟩
          · exact .inr (.inl ⟨⟨decide_eq_true (by omega), beq_eq_false_iff_ne.2 h47, h0⟩, if_neg (fun h => h47 ((HC0.out h0).2 h))⟩)
        · refine .inr (.inr ⟨by omega, if_neg (fun h => ?_)⟩)
          cases hl : t.data.toList with
          | nil => rw [hl] at h; cases h
          | cons c r => have := data_length t; rw [hl, List.length_cons] at this; omega
      rcases hgoes with ⟨⟨hE1, hE2, hE3⟩, hin⟩ | ⟨⟨hE1, hE2, hE3⟩, hin⟩ | ⟨hE1, hin⟩
      · have HINI := Aside0.mk hin
        clear hin
        go_enter Tryd.func13, Tryd.ntmps13
        go_wp2_with (first
          | (go_at_call 11; refine (ref_may_calls _ HS.out.1 _).mono ?_; rw [← H1.out]; rintro e w1 ⟨rfl, hb⟩; have HB1 := Aside0.mk hb; clear hb)
          | (go_at_call 17; refine (ref_clean_calls _ HS.out.2 _).mono ?_; rintro e w2 ⟨rfl, hw⟩; obtain rfl := hw.symm; rw [← H2.out])
          | (go_at_call 18; refine (ref_parts_calls _ HS.out.1 _).mono ?_; rw [← HX.out]; rintro e w3 ⟨v, rfl, ho, hb⟩; have HB3 := Aside0.mk (HB1.out.trans (hb.mono HB1.out.size)); clear hb; obtain ⟨A, N, c, rfl, hN', hc, hx⟩ := (own_lies ho).readN; rw [List.length_map] at hN'; have HV := Aside0.mk (And.intro hN' hx); clear ho hN' hc hx)
          | ((with_reducible refine Laws.gate 23 rfl ?_); refine Laws.append_any rfl (.const (Value.slice none 0 0)) (.tmp 22) 31 rfl w.heap.size 9 i0 (.string ⟨#[]⟩) 1 16 Tryd.underlying31 HI.out.1 HI.out.2.1 HI.out.2.2.1 HI.out.2.2.2 rfl (by decide) (.slice none 0 0) 0 [] rfl (own_nil _ _ _ _) A N c (xs.map str) rfl (by rw [List.length_map, HV.out.1, Nat.mul_one]) (fun h0 => by obtain ⟨g, hA, _, _⟩ := HV.out.2 0 (str (xs[0]'(by rw [← HV.out.1]; exact h0))) (by rw [List.getElem?_map, List.getElem?_eq_getElem (by rw [← HV.out.1]; exact h0)]; rfl); refine ⟨⟨g, 0, none⟩, hA, fun j u hj => ?_⟩; obtain ⟨g', hA', _, hcl⟩ := HV.out.2 j u hj; rw [add_plain]; rw [hA] at hA'; cases hA'; exact hcl) (fun u hu => by obtain ⟨y, _, rfl⟩ := List.mem_map.1 hu; rfl) (by have := HPS.out.2.2.2.1; have := HV.out.1; simp only [maxLen]; omega) (by have := HPS.out.2.2.2.1; have := HV.out.1; omega) HB3.out.size ?_; intro v6 w6 ho6 hg6 _ _; have HO6 := Aside0.mk (show w6.ownsRow w.heap.size 9 1 v6 xs.length (xs.map str) from by rw [Nat.zero_add, List.nil_append, HV.out.1] at ho6; exact ho6); have HB6 := Aside0.mk (show Below w.heap.size w w6 from HB3.out.grown hg6 HB3.out.size (fun k h => by cases h)); clear ho6 hg6)
          | (go_at_call 24; refine (ref_cut_calls t 47 HS.out.2 _).mono ?_; rw [← HP.out]; rintro e w7 ⟨u, rfl, ho, hb⟩; have HB7 := Aside0.mk (HB6.out.trans (hb.mono HB6.out.size)); have HV7 := Aside0.mk (show w7.ownsRow w.heap.size 9 1 (.slice none 0 0) init.length (init.map str) ∧ ∀ b, (Value.slice none 0 0).ownBlock = some b → b < w6.heap.size from ⟨by rw [HINI.out]; exact own_nil _ _ _ _, fun b h => by cases h⟩); obtain ⟨g2, c2, rfl, hc2, hg2, hl2, hcell2⟩ := Laws.own_cells ho HPS.out.2.2.2.2; have HU := Aside0.mk (And.intro hl2 hcell2); have HW6 := Aside0.mk (show w6.heap.size ≤ g2 from hg2); clear ho hb hc2 hg2 hl2 hcell2))
        obtain ⟨NP, hNP⟩ : ∃ NP, NP = ps.length := ⟨_, rfl⟩
        have HNP := Aside0.mk hNP
        rw [← hNP]
        have hNP6 : NP ≤ 1000001 := by rw [hNP]; exact HPS.out.2.2.1
        clear hNP
        go_loopw [8, 10] (fun v i wr => ∃ (k : Nat) (ls : List (List UInt8)), k ≤ NP ∧ i = .int .i64 k ∧ Aside0 (ls = (ps.take k).foldl PathP.step init) ∧ Aside0 (wr.ownsRow w.heap.size 9 1 v ls.length (ls.map str)) ∧ Aside0 (∀ b, v.ownBlock = some b → b ≠ g2) ∧ Aside0 (wr.heap[g2]? = w7.heap[g2]? ∧ w7.heap.size ≤ wr.heap.size) ∧ Aside0 (Below w.heap.size w wr)) (fun _ i _ => NP - (intOf i).toNat)
        case atStart => exact ⟨0, init, Nat.zero_le _, rfl, ⟨rfl⟩, ⟨HV7.out.1⟩, ⟨fun b hb => by have := HV7.out.2 b hb; have := HW6.out; omega⟩, ⟨rfl, Nat.le_refl _⟩, HB7⟩
        case round =>
          obtain ⟨k, ls, hk, rfl, HLS, HO, HNE, HG2, HB⟩ := hrel
          have HTOT := Aside0.mk (show tot ls ≤ 2000002 ∧ ls.length ≤ 2000002 from by
            have h1 := tot_fold init (ps.take k)
            have h2 := tot_take ps k
            have h3 := HPS.out.2.1
            rw [← HLS.out] at h1
            have h4 := tot_len ls
            omega)
          by_cases hlt : k < NP
          · have hlt' : k < ps.length := by rw [← HNP.out]; exact hlt
            obtain ⟨p, hp⟩ : ∃ p : ByteArray, p = ⟨(ps[k]).toArray⟩ := ⟨_, rfl⟩
            have hcell : wr.cell? ⟨g2, k, none⟩ = some (.string p) := by
              rw [World.cell?_of_block (w := w7) HG2.out.1]
              have := HU.out.2 k (.string p) (by rw [List.getElem?_map, List.getElem?_eq_getElem hlt', hp]; rfl)
              rwa [Nat.zero_add] at this
            have HNX := Aside0.mk (show (ps.take (k + 1)).foldl PathP.step init = PathP.step ls p.data.toList from by
              rw [List.take_succ_eq_append_getElem hlt', List.foldl_append, ← HLS.out, hp]; rfl)
            have hk6 : k < 10000000 := by omega
            obtain ⟨B, M, d, rfl, hM, hMd, hx⟩ := (own_lies HO.out).readN
            rw [List.length_map] at hM
            have HX2 := Aside0.mk (And.intro hM hx)
            have hM6 : M < 10000000 := by have := HTOT.out.2; omega
            clear hp hM hx hlt'
            rcases step_cases ls p with ⟨e1, hst⟩ | ⟨e1, e2, hst⟩ | ⟨e1, e2, e3, hst⟩ | ⟨e1, e2, e3, hst⟩
            iterate 2
              · have HST := Aside0.mk hst
                clear hst
                go_wp2
                go_roundw
                case rel => exact ⟨k + 1, ls, by omega, by go_num, ⟨by rw [HNX.out, HST.out]⟩, HO, HNE, HG2, HB⟩
                case measure => simp [intOf]; omega
            · by_cases h0 : M = 0
              · have HST := Aside0.mk (show PathP.step ls p.data.toList = ls from by rw [hst, List.eq_nil_of_length_eq_zero (l := ls) (by rw [← HX2.out.1, h0])]; rfl)
                subst h0
                clear hst
                go_wp2
                go_roundw
                case rel => exact ⟨k + 1, ls, by omega, by go_num, ⟨by rw [HNX.out, HST.out]⟩, HO, HNE, HG2, HB⟩
                case measure => simp [intOf]; omega
              · obtain ⟨g, rfl, hg, hq⟩ := HX2.out.2 0 (str (ls[0]'(by rw [← HX2.out.1]; omega))) (by rw [List.getElem?_map, List.getElem?_eq_getElem (by rw [← HX2.out.1]; omega)]; rfl)
                obtain ⟨M', rfl⟩ : ∃ M', M = M' + 1 := ⟨M - 1, by omega⟩
                have hpos : decide (0 < (M' : Int) + 1) = true := decide_eq_true (by omega)
                have hw : wrap64 (M' : Int) = (M' : Int) := by unfold wrap64; omega
                have hMc : M' ≤ d := by omega
                have hMc' : (M' : Int) ≤ (d : Int) := by omega
                have hM0 : 0 ≤ (M' : Int) := by omega
                have HST := Aside0.mk hst
                have HO2 := Aside0.mk (show wr.ownsRow w.heap.size 9 1 (.slice (some ⟨g, 0, none⟩) M' d) ls.dropLast.length (ls.dropLast.map str) from by
                  have h1 : M' = ls.dropLast.length := by rw [List.length_dropLast, ← HX2.out.1]; rfl
                  have h2 := HO.out
                  rw [← HX2.out.1] at h2
                  rw [List.map_dropLast, ← h1]; exact Row.own_last h2 M' rfl)
                clear hq
                clear hst h0 hg
                go_wp2
                go_roundw
                case rel => exact ⟨k + 1, ls.dropLast, by omega, by go_num, ⟨by rw [HNX.out, HST.out]⟩, HO2, HNE, HG2, HB⟩
                case measure => simp [intOf]; omega
            · have HST := Aside0.mk hst
              have HPP := Aside0.mk (show Value.string p = str p.data.toList from rfl)
              clear hst
              go_wp2_with ((with_reducible refine Laws.gate 63 rfl ?_); refine Laws.append_any rfl (.tmp 57) (.tmp 62) 31 rfl w.heap.size 9 i0 (.string ⟨#[]⟩) 1 16 Tryd.underlying31 HI.out.1 HI.out.2.1 HI.out.2.2.1 HI.out.2.2.2 rfl (by decide) (.slice B M d) ls.length (ls.map str) rfl (own_move HO.out (fun j hj => Below.heap_alloc _ _ _ (own_lt HO.out j hj))) (some ⟨wr.heap.size, 0, none⟩) 1 1 [.string p] rfl rfl (fun _ => ⟨_, rfl, Laws.new_cells wr _ _ _ rfl⟩) (fun u hu => by simp at hu; subst hu; rfl) (by have := HTOT.out.2; simp only [maxLen]; omega) (by have := HTOT.out.2; omega) (Nat.le_trans HB.out.size (by simp)) ?_; intro v8 w8 ho8 hg8 _ hl8; have HO8 := Aside0.mk (show w8.ownsRow w.heap.size 9 1 v8 (ls ++ [p.data.toList]).length ((ls ++ [p.data.toList]).map str) from by rw [List.map_append, List.length_append]; exact ho8); have HG8 := Aside0.mk (show w8.heap[g2]? = w7.heap[g2]? ∧ w7.heap.size ≤ w8.heap.size from by
                  have hgs : g2 < wr.heap.size := Nat.lt_of_lt_of_le HU.out.1 HG2.out.2
                  refine ⟨?_, Nat.le_trans HG2.out.2 (Nat.le_trans (by simp) hg8.size)⟩
                  rw [hg8.block g2 (by simp; omega) (fun e => HNE.out g2 e.symm rfl), Below.heap_alloc _ _ _ hgs]; exact HG2.out.1); have HN8 := Aside0.mk (show ∀ b, v8.ownBlock = some b → b ≠ g2 from fun b hb => by
                  rcases hl8 with h | h
                  · exact HNE.out b (h ▸ hb)
                  · rw [h] at hb
                    have := Option.some.inj hb
                    have hgs : g2 < wr.heap.size := Nat.lt_of_lt_of_le HU.out.1 HG2.out.2
                    simp at this; omega); have HB8 := Aside0.mk (show Below w.heap.size w w8 from (HB.out.alloc HB.out.size _).grown hg8 (Nat.le_trans HB.out.size (by simp)) (fun k h => Laws.own_ge HO.out k h)); clear ho8 hg8 hl8)
              go_roundw
              case rel => exact ⟨k + 1, ls ++ [p.data.toList], by omega, by go_num, ⟨by rw [HNX.out, HST.out]⟩, HO8, HN8, HG8, HB8⟩
              case measure => simp [intOf]; omega
          · obtain rfl : k = NP := by omega
            have HLD := Aside0.mk (show PathP.lead s.data.toList t.data.toList = PathP.whole ls from by
              rw [HPS.out.1, HLS.out, HNP.out, List.take_length])
            obtain ⟨B, M, d, rfl, hM, hMd, hx⟩ := (own_lies HO.out).readN
            rw [List.length_map] at hM
            have HX2 := Aside0.mk (And.intro hM hx)
            have hM6 : M < 10000000 := by have := HTOT.out.2; omega
            clear hM hx hMd
            go_wp2
            go_loop [11, 12] (fun out_ i_ => ∃ (k : Nat) (O : ByteArray), k ≤ M ∧ i_ = .int .i64 k ∧ out_ = .string O ∧ Aside0 (O.data.toList = flat (ls.take k))) (fun _ i_ => M - (intOf i_).toNat)
            case atStart => exact ⟨0, ⟨#[]⟩, Nat.zero_le _, rfl, rfl, ⟨rfl⟩⟩
            case round =>
              obtain ⟨k, O, hk, rfl, rfl, HO1⟩ := hrel
              have hOs : O.size ≤ 2000002 := by
                rw [← data_length, HO1.out, flat_tot]; exact Nat.le_trans (tot_take _ _) HTOT.out.1
              by_cases hlt : k < M
              · have hlt' : k < ls.length := by rw [← HX2.out.1]; exact hlt
                obtain ⟨p, hp⟩ : ∃ p : ByteArray, p = ⟨(ls[k]).toArray⟩ := ⟨_, rfl⟩
                have hpl : p.data.toList = ls[k] := by rw [hp]
                have hps : p.size ≤ 2000002 := by
                  rw [← data_length, hpl]
                  have h1 := tot_take ls (k + 1)
                  rw [List.take_succ_eq_append_getElem hlt', tot_app, tot] at h1
                  have := HTOT.out.1
                  omega
                obtain ⟨g, rfl, hg, hcell⟩ := HX2.out.2 k (.string p) (by rw [List.getElem?_map, List.getElem?_eq_getElem hlt', hp]; rfl)
                have hs1 : (ByteArray.mk #[47]).size = 1 := rfl
                have hk6 : k < 10000000 := by omega
                have HNX := Aside0.mk (show ((O ++ ⟨#[47]⟩ : ByteArray) ++ p).data.toList = flat (ls.take (k + 1)) from by
                  rw [List.take_succ_eq_append_getElem hlt', flat_snoc, ← HO1.out, ← hpl]; simp)
                clear hp hpl hg hlt'
                go_wp2
                go_round
                case rel => exact ⟨k + 1, _, by omega, by go_num, rfl, HNX⟩
                case measure => simp [intOf]; omega
              · obtain rfl : k = M := by omega
                have HO2 := Aside0.mk (show O.data.toList = flat ls from by rw [HO1.out, HX2.out.1, List.take_length])
                have hOe : O.toList = O.data.toList := ByteArray.toList_eq O
                by_cases h0 : ls = []
                · have hE : O.toList = [] := by rw [hOe, HO2.out, h0]; rfl
                  have HF := Aside0.mk (show R = joinR ([47], .ok) from by rw [HG.out, HLD.out, h0]; rfl)
                  have hs1 : (ByteArray.mk #[47]).size = 1 := rfl
                  clear hOe h0
                  go_wp2
                  go_ret2
                  exact ⟨by first | (rw [HF.out]; rfl) | rfl, HB.out⟩
                · have hE : O.toList.isEmpty = false := by
                    rw [hOe, HO2.out, flat_whole h0]; rfl
                  have HE := Aside0.mk (show Value.string O = str (PathP.whole ls) from by
                    refine congrArg Value.string ?_; apply ByteArray.ext; apply Array.ext'
                    rw [HO2.out, flat_whole h0])
                  have HL := Aside0.mk (show (PathP.whole ls).length = O.size from by rw [← flat_whole h0, ← HO2.out, data_length])
                  clear hOe h0
                  by_cases h2 : 200 < (O.size : Int)
                  · have HF := Aside0.mk (show R = joinR ([], .over) from by rw [HG.out, HLD.out, if_pos (by rw [HL.out]; omega)])
                    have h2' := decide_eq_true h2
                    clear h2
                    go_wp2
                    go_ret2
                    exact ⟨by first | (rw [HF.out]; rfl) | rfl, HB.out⟩
                  · have HF := Aside0.mk (show R = joinR (PathP.whole ls, .ok) from by rw [HG.out, HLD.out, if_neg (by rw [HL.out]; omega)])
                    have h2' := decide_eq_false h2
                    clear h2
                    go_wp2
                    go_ret2
                    exact ⟨by rw [HF.out, HE.out]; rfl, HB.out⟩
      · have HINI := Aside0.mk hin
        clear hin
        go_enter Tryd.func13, Tryd.ntmps13
        go_wp2_with (first
          | (go_at_call 11; refine (ref_may_calls _ HS.out.1 _).mono ?_; rw [← H1.out]; rintro e w1 ⟨rfl, hb⟩; have HB1 := Aside0.mk hb; clear hb)
          | (go_at_call 17; refine (ref_clean_calls _ HS.out.2 _).mono ?_; rintro e w2 ⟨rfl, hw⟩; obtain rfl := hw.symm; rw [← H2.out])
          | (go_at_call 18; refine (ref_parts_calls _ HS.out.1 _).mono ?_; rw [← HX.out]; rintro e w3 ⟨v, rfl, ho, hb⟩; have HB3 := Aside0.mk (HB1.out.trans (hb.mono HB1.out.size)); clear hb; obtain ⟨A, N, c, rfl, hN', hc, hx⟩ := (own_lies ho).readN; rw [List.length_map] at hN'; have HV := Aside0.mk (And.intro hN' hx); clear ho hN' hc hx)
          | ((with_reducible refine Laws.gate 23 rfl ?_); refine Laws.append_any rfl (.const (Value.slice none 0 0)) (.tmp 22) 31 rfl w.heap.size 9 i0 (.string ⟨#[]⟩) 1 16 Tryd.underlying31 HI.out.1 HI.out.2.1 HI.out.2.2.1 HI.out.2.2.2 rfl (by decide) (.slice none 0 0) 0 [] rfl (own_nil _ _ _ _) A N c (xs.map str) rfl (by rw [List.length_map, HV.out.1, Nat.mul_one]) (fun h0 => by obtain ⟨g, hA, _, _⟩ := HV.out.2 0 (str (xs[0]'(by rw [← HV.out.1]; exact h0))) (by rw [List.getElem?_map, List.getElem?_eq_getElem (by rw [← HV.out.1]; exact h0)]; rfl); refine ⟨⟨g, 0, none⟩, hA, fun j u hj => ?_⟩; obtain ⟨g', hA', _, hcl⟩ := HV.out.2 j u hj; rw [add_plain]; rw [hA] at hA'; cases hA'; exact hcl) (fun u hu => by obtain ⟨y, _, rfl⟩ := List.mem_map.1 hu; rfl) (by have := HPS.out.2.2.2.1; have := HV.out.1; simp only [maxLen]; omega) (by have := HPS.out.2.2.2.1; have := HV.out.1; omega) HB3.out.size ?_; intro v6 w6 ho6 hg6 _ _; have HO6 := Aside0.mk (show w6.ownsRow w.heap.size 9 1 v6 xs.length (xs.map str) from by rw [Nat.zero_add, List.nil_append, HV.out.1] at ho6; exact ho6); have HB6 := Aside0.mk (show Below w.heap.size w w6 from HB3.out.grown hg6 HB3.out.size (fun k h => by cases h)); clear ho6 hg6)
          | (go_at_call 24; refine (ref_cut_calls t 47 HS.out.2 _).mono ?_; rw [← HP.out]; rintro e w7 ⟨u, rfl, ho, hb⟩; have HB7 := Aside0.mk (HB6.out.trans (hb.mono HB6.out.size)); have HV7 := Aside0.mk (show w7.ownsRow w.heap.size 9 1 v6 init.length (init.map str) ∧ ∀ b, v6.ownBlock = some b → b < w6.heap.size from ⟨by rw [HINI.out]; exact own_move HO6.out (fun j hj => hb.block j (own_lt HO6.out j hj)), fun b h => own_lt HO6.out b h⟩); obtain ⟨g2, c2, rfl, hc2, hg2, hl2, hcell2⟩ := Laws.own_cells ho HPS.out.2.2.2.2; have HU := Aside0.mk (And.intro hl2 hcell2); have HW6 := Aside0.mk (show w6.heap.size ≤ g2 from hg2); clear ho hb hc2 hg2 hl2 hcell2))
        obtain ⟨NP, hNP⟩ : ∃ NP, NP = ps.length := ⟨_, rfl⟩
        have HNP := Aside0.mk hNP
        rw [← hNP]
        have hNP6 : NP ≤ 1000001 := by rw [hNP]; exact HPS.out.2.2.1
        clear hNP
        go_loopw [8, 10] (fun v i wr => ∃ (k : Nat) (ls : List (List UInt8)), k ≤ NP ∧ i = .int .i64 k ∧ Aside0 (ls = (ps.take k).foldl PathP.step init) ∧ Aside0 (wr.ownsRow w.heap.size 9 1 v ls.length (ls.map str)) ∧ Aside0 (∀ b, v.ownBlock = some b → b ≠ g2) ∧ Aside0 (wr.heap[g2]? = w7.heap[g2]? ∧ w7.heap.size ≤ wr.heap.size) ∧ Aside0 (Below w.heap.size w wr)) (fun _ i _ => NP - (intOf i).toNat)
        case atStart => exact ⟨0, init, Nat.zero_le _, rfl, ⟨rfl⟩, ⟨HV7.out.1⟩, ⟨fun b hb => by have := HV7.out.2 b hb; have := HW6.out; omega⟩, ⟨rfl, Nat.le_refl _⟩, HB7⟩
        case round =>
          obtain ⟨k, ls, hk, rfl, HLS, HO, HNE, HG2, HB⟩ := hrel
          have HTOT := Aside0.mk (show tot ls ≤ 2000002 ∧ ls.length ≤ 2000002 from by
            have h1 := tot_fold init (ps.take k)
            have h2 := tot_take ps k
            have h3 := HPS.out.2.1
            rw [← HLS.out] at h1
            have h4 := tot_len ls
            omega)
          by_cases hlt : k < NP
          · have hlt' : k < ps.length := by rw [← HNP.out]; exact hlt
            obtain ⟨p, hp⟩ : ∃ p : ByteArray, p = ⟨(ps[k]).toArray⟩ := ⟨_, rfl⟩
            have hcell : wr.cell? ⟨g2, k, none⟩ = some (.string p) := by
              rw [World.cell?_of_block (w := w7) HG2.out.1]
              have := HU.out.2 k (.string p) (by rw [List.getElem?_map, List.getElem?_eq_getElem hlt', hp]; rfl)
              rwa [Nat.zero_add] at this
            have HNX := Aside0.mk (show (ps.take (k + 1)).foldl PathP.step init = PathP.step ls p.data.toList from by
              rw [List.take_succ_eq_append_getElem hlt', List.foldl_append, ← HLS.out, hp]; rfl)
            have hk6 : k < 10000000 := by omega
            obtain ⟨B, M, d, rfl, hM, hMd, hx⟩ := (own_lies HO.out).readN
            rw [List.length_map] at hM
            have HX2 := Aside0.mk (And.intro hM hx)
            have hM6 : M < 10000000 := by have := HTOT.out.2; omega
            clear hp hM hx hlt'
            rcases step_cases ls p with ⟨e1, hst⟩ | ⟨e1, e2, hst⟩ | ⟨e1, e2, e3, hst⟩ | ⟨e1, e2, e3, hst⟩
            iterate 2
              · have HST := Aside0.mk hst
                clear hst
                go_wp2
                go_roundw
                case rel => exact ⟨k + 1, ls, by omega, by go_num, ⟨by rw [HNX.out, HST.out]⟩, HO, HNE, HG2, HB⟩
                case measure => simp [intOf]; omega
            · by_cases h0 : M = 0
              · have HST := Aside0.mk (show PathP.step ls p.data.toList = ls from by rw [hst, List.eq_nil_of_length_eq_zero (l := ls) (by rw [← HX2.out.1, h0])]; rfl)
                subst h0
                clear hst
                go_wp2
                go_roundw
                case rel => exact ⟨k + 1, ls, by omega, by go_num, ⟨by rw [HNX.out, HST.out]⟩, HO, HNE, HG2, HB⟩
                case measure => simp [intOf]; omega
              · obtain ⟨g, rfl, hg, hq⟩ := HX2.out.2 0 (str (ls[0]'(by rw [← HX2.out.1]; omega))) (by rw [List.getElem?_map, List.getElem?_eq_getElem (by rw [← HX2.out.1]; omega)]; rfl)
                obtain ⟨M', rfl⟩ : ∃ M', M = M' + 1 := ⟨M - 1, by omega⟩
                have hpos : decide (0 < (M' : Int) + 1) = true := decide_eq_true (by omega)
                have hw : wrap64 (M' : Int) = (M' : Int) := by unfold wrap64; omega
                have hMc : M' ≤ d := by omega
                have hMc' : (M' : Int) ≤ (d : Int) := by omega
                have hM0 : 0 ≤ (M' : Int) := by omega
                have HST := Aside0.mk hst
                have HO2 := Aside0.mk (show wr.ownsRow w.heap.size 9 1 (.slice (some ⟨g, 0, none⟩) M' d) ls.dropLast.length (ls.dropLast.map str) from by
                  have h1 : M' = ls.dropLast.length := by rw [List.length_dropLast, ← HX2.out.1]; rfl
                  have h2 := HO.out
                  rw [← HX2.out.1] at h2
                  rw [List.map_dropLast, ← h1]; exact Row.own_last h2 M' rfl)
                clear hq
                clear hst h0 hg
                go_wp2
                go_roundw
                case rel => exact ⟨k + 1, ls.dropLast, by omega, by go_num, ⟨by rw [HNX.out, HST.out]⟩, HO2, HNE, HG2, HB⟩
                case measure => simp [intOf]; omega
            · have HST := Aside0.mk hst
              have HPP := Aside0.mk (show Value.string p = str p.data.toList from rfl)
              clear hst
              go_wp2_with ((with_reducible refine Laws.gate 63 rfl ?_); refine Laws.append_any rfl (.tmp 57) (.tmp 62) 31 rfl w.heap.size 9 i0 (.string ⟨#[]⟩) 1 16 Tryd.underlying31 HI.out.1 HI.out.2.1 HI.out.2.2.1 HI.out.2.2.2 rfl (by decide) (.slice B M d) ls.length (ls.map str) rfl (own_move HO.out (fun j hj => Below.heap_alloc _ _ _ (own_lt HO.out j hj))) (some ⟨wr.heap.size, 0, none⟩) 1 1 [.string p] rfl rfl (fun _ => ⟨_, rfl, Laws.new_cells wr _ _ _ rfl⟩) (fun u hu => by simp at hu; subst hu; rfl) (by have := HTOT.out.2; simp only [maxLen]; omega) (by have := HTOT.out.2; omega) (Nat.le_trans HB.out.size (by simp)) ?_; intro v8 w8 ho8 hg8 _ hl8; have HO8 := Aside0.mk (show w8.ownsRow w.heap.size 9 1 v8 (ls ++ [p.data.toList]).length ((ls ++ [p.data.toList]).map str) from by rw [List.map_append, List.length_append]; exact ho8); have HG8 := Aside0.mk (show w8.heap[g2]? = w7.heap[g2]? ∧ w7.heap.size ≤ w8.heap.size from by
                  have hgs : g2 < wr.heap.size := Nat.lt_of_lt_of_le HU.out.1 HG2.out.2
                  refine ⟨?_, Nat.le_trans HG2.out.2 (Nat.le_trans (by simp) hg8.size)⟩
                  rw [hg8.block g2 (by simp; omega) (fun e => HNE.out g2 e.symm rfl), Below.heap_alloc _ _ _ hgs]; exact HG2.out.1); have HN8 := Aside0.mk (show ∀ b, v8.ownBlock = some b → b ≠ g2 from fun b hb => by
                  rcases hl8 with h | h
                  · exact HNE.out b (h ▸ hb)
                  · rw [h] at hb
                    have := Option.some.inj hb
                    have hgs : g2 < wr.heap.size := Nat.lt_of_lt_of_le HU.out.1 HG2.out.2
                    simp at this; omega); have HB8 := Aside0.mk (show Below w.heap.size w w8 from (HB.out.alloc HB.out.size _).grown hg8 (Nat.le_trans HB.out.size (by simp)) (fun k h => Laws.own_ge HO.out k h)); clear ho8 hg8 hl8)
              go_roundw
              case rel => exact ⟨k + 1, ls ++ [p.data.toList], by omega, by go_num, ⟨by rw [HNX.out, HST.out]⟩, HO8, HN8, HG8, HB8⟩
              case measure => simp [intOf]; omega
          · obtain rfl : k = NP := by omega
            have HLD := Aside0.mk (show PathP.lead s.data.toList t.data.toList = PathP.whole ls from by
              rw [HPS.out.1, HLS.out, HNP.out, List.take_length])
            obtain ⟨B, M, d, rfl, hM, hMd, hx⟩ := (own_lies HO.out).readN
            rw [List.length_map] at hM
            have HX2 := Aside0.mk (And.intro hM hx)
            have hM6 : M < 10000000 := by have := HTOT.out.2; omega
            clear hM hx hMd
            go_wp2
            go_loop [11, 12] (fun out_ i_ => ∃ (k : Nat) (O : ByteArray), k ≤ M ∧ i_ = .int .i64 k ∧ out_ = .string O ∧ Aside0 (O.data.toList = flat (ls.take k))) (fun _ i_ => M - (intOf i_).toNat)
            case atStart => exact ⟨0, ⟨#[]⟩, Nat.zero_le _, rfl, rfl, ⟨rfl⟩⟩
            case round =>
              obtain ⟨k, O, hk, rfl, rfl, HO1⟩ := hrel
              have hOs : O.size ≤ 2000002 := by
                rw [← data_length, HO1.out, flat_tot]; exact Nat.le_trans (tot_take _ _) HTOT.out.1
              by_cases hlt : k < M
              · have hlt' : k < ls.length := by rw [← HX2.out.1]; exact hlt
                obtain ⟨p, hp⟩ : ∃ p : ByteArray, p = ⟨(ls[k]).toArray⟩ := ⟨_, rfl⟩
                have hpl : p.data.toList = ls[k] := by rw [hp]
                have hps : p.size ≤ 2000002 := by
                  rw [← data_length, hpl]
                  have h1 := tot_take ls (k + 1)
                  rw [List.take_succ_eq_append_getElem hlt', tot_app, tot] at h1
                  have := HTOT.out.1
                  omega
                obtain ⟨g, rfl, hg, hcell⟩ := HX2.out.2 k (.string p) (by rw [List.getElem?_map, List.getElem?_eq_getElem hlt', hp]; rfl)
                have hs1 : (ByteArray.mk #[47]).size = 1 := rfl
                have hk6 : k < 10000000 := by omega
                have HNX := Aside0.mk (show ((O ++ ⟨#[47]⟩ : ByteArray) ++ p).data.toList = flat (ls.take (k + 1)) from by
                  rw [List.take_succ_eq_append_getElem hlt', flat_snoc, ← HO1.out, ← hpl]; simp)
                clear hp hpl hg hlt'
                go_wp2
                go_round
                case rel => exact ⟨k + 1, _, by omega, by go_num, rfl, HNX⟩
                case measure => simp [intOf]; omega
              · obtain rfl : k = M := by omega
                have HO2 := Aside0.mk (show O.data.toList = flat ls from by rw [HO1.out, HX2.out.1, List.take_length])
                have hOe : O.toList = O.data.toList := ByteArray.toList_eq O
                by_cases h0 : ls = []
                · have hE : O.toList = [] := by rw [hOe, HO2.out, h0]; rfl
                  have HF := Aside0.mk (show R = joinR ([47], .ok) from by rw [HG.out, HLD.out, h0]; rfl)
                  have hs1 : (ByteArray.mk #[47]).size = 1 := rfl
                  clear hOe h0
                  go_wp2
                  go_ret2
                  exact ⟨by first | (rw [HF.out]; rfl) | rfl, HB.out⟩
                · have hE : O.toList.isEmpty = false := by
                    rw [hOe, HO2.out, flat_whole h0]; rfl
                  have HE := Aside0.mk (show Value.string O = str (PathP.whole ls) from by
                    refine congrArg Value.string ?_; apply ByteArray.ext; apply Array.ext'
                    rw [HO2.out, flat_whole h0])
                  have HL := Aside0.mk (show (PathP.whole ls).length = O.size from by rw [← flat_whole h0, ← HO2.out, data_length])
                  clear hOe h0
                  by_cases h2 : 200 < (O.size : Int)
                  · have HF := Aside0.mk (show R = joinR ([], .over) from by rw [HG.out, HLD.out, if_pos (by rw [HL.out]; omega)])
                    have h2' := decide_eq_true h2
                    clear h2
                    go_wp2
                    go_ret2
                    exact ⟨by first | (rw [HF.out]; rfl) | rfl, HB.out⟩
                  · have HF := Aside0.mk (show R = joinR (PathP.whole ls, .ok) from by rw [HG.out, HLD.out, if_neg (by rw [HL.out]; omega)])
                    have h2' := decide_eq_false h2
                    clear h2
                    go_wp2
                    go_ret2
                    exact ⟨by rw [HF.out, HE.out]; rfl, HB.out⟩
      · have HINI := Aside0.mk hin
        clear hin
        go_enter Tryd.func13, Tryd.ntmps13
        go_wp2_with (first
          | (go_at_call 11; refine (ref_may_calls _ HS.out.1 _).mono ?_; rw [← H1.out]; rintro e w1 ⟨rfl, hb⟩; have HB1 := Aside0.mk hb; clear hb)
          | (go_at_call 17; refine (ref_clean_calls _ HS.out.2 _).mono ?_; rintro e w2 ⟨rfl, hw⟩; obtain rfl := hw.symm; rw [← H2.out])
          | (go_at_call 18; refine (ref_parts_calls _ HS.out.1 _).mono ?_; rw [← HX.out]; rintro e w3 ⟨v, rfl, ho, hb⟩; have HB3 := Aside0.mk (HB1.out.trans (hb.mono HB1.out.size)); clear hb; obtain ⟨A, N, c, rfl, hN', hc, hx⟩ := (own_lies ho).readN; rw [List.length_map] at hN'; have HV := Aside0.mk (And.intro hN' hx); clear ho hN' hc hx)
          | ((with_reducible refine Laws.gate 23 rfl ?_); refine Laws.append_any rfl (.const (Value.slice none 0 0)) (.tmp 22) 31 rfl w.heap.size 9 i0 (.string ⟨#[]⟩) 1 16 Tryd.underlying31 HI.out.1 HI.out.2.1 HI.out.2.2.1 HI.out.2.2.2 rfl (by decide) (.slice none 0 0) 0 [] rfl (own_nil _ _ _ _) A N c (xs.map str) rfl (by rw [List.length_map, HV.out.1, Nat.mul_one]) (fun h0 => by obtain ⟨g, hA, _, _⟩ := HV.out.2 0 (str (xs[0]'(by rw [← HV.out.1]; exact h0))) (by rw [List.getElem?_map, List.getElem?_eq_getElem (by rw [← HV.out.1]; exact h0)]; rfl); refine ⟨⟨g, 0, none⟩, hA, fun j u hj => ?_⟩; obtain ⟨g', hA', _, hcl⟩ := HV.out.2 j u hj; rw [add_plain]; rw [hA] at hA'; cases hA'; exact hcl) (fun u hu => by obtain ⟨y, _, rfl⟩ := List.mem_map.1 hu; rfl) (by have := HPS.out.2.2.2.1; have := HV.out.1; simp only [maxLen]; omega) (by have := HPS.out.2.2.2.1; have := HV.out.1; omega) HB3.out.size ?_; intro v6 w6 ho6 hg6 _ _; have HO6 := Aside0.mk (show w6.ownsRow w.heap.size 9 1 v6 xs.length (xs.map str) from by rw [Nat.zero_add, List.nil_append, HV.out.1] at ho6; exact ho6); have HB6 := Aside0.mk (show Below w.heap.size w w6 from HB3.out.grown hg6 HB3.out.size (fun k h => by cases h)); clear ho6 hg6)
          | (go_at_call 24; refine (ref_cut_calls t 47 HS.out.2 _).mono ?_; rw [← HP.out]; rintro e w7 ⟨u, rfl, ho, hb⟩; have HB7 := Aside0.mk (HB6.out.trans (hb.mono HB6.out.size)); have HV7 := Aside0.mk (show w7.ownsRow w.heap.size 9 1 v6 init.length (init.map str) ∧ ∀ b, v6.ownBlock = some b → b < w6.heap.size from ⟨by rw [HINI.out]; exact own_move HO6.out (fun j hj => hb.block j (own_lt HO6.out j hj)), fun b h => own_lt HO6.out b h⟩); obtain ⟨g2, c2, rfl, hc2, hg2, hl2, hcell2⟩ := Laws.own_cells ho HPS.out.2.2.2.2; have HU := Aside0.mk (And.intro hl2 hcell2); have HW6 := Aside0.mk (show w6.heap.size ≤ g2 from hg2); clear ho hb hc2 hg2 hl2 hcell2))
        obtain ⟨NP, hNP⟩ : ∃ NP, NP = ps.length := ⟨_, rfl⟩
        have HNP := Aside0.mk hNP
        rw [← hNP]
        have hNP6 : NP ≤ 1000001 := by rw [hNP]; exact HPS.out.2.2.1
        clear hNP
        go_loopw [8, 10] (fun v i wr => ∃ (k : Nat) (ls : List (List UInt8)), k ≤ NP ∧ i = .int .i64 k ∧ Aside0 (ls = (ps.take k).foldl PathP.step init) ∧ Aside0 (wr.ownsRow w.heap.size 9 1 v ls.length (ls.map str)) ∧ Aside0 (∀ b, v.ownBlock = some b → b ≠ g2) ∧ Aside0 (wr.heap[g2]? = w7.heap[g2]? ∧ w7.heap.size ≤ wr.heap.size) ∧ Aside0 (Below w.heap.size w wr)) (fun _ i _ => NP - (intOf i).toNat)
        case atStart => exact ⟨0, init, Nat.zero_le _, rfl, ⟨rfl⟩, ⟨HV7.out.1⟩, ⟨fun b hb => by have := HV7.out.2 b hb; have := HW6.out; omega⟩, ⟨rfl, Nat.le_refl _⟩, HB7⟩
        case round =>
          obtain ⟨k, ls, hk, rfl, HLS, HO, HNE, HG2, HB⟩ := hrel
          have HTOT := Aside0.mk (show tot ls ≤ 2000002 ∧ ls.length ≤ 2000002 from by
            have h1 := tot_fold init (ps.take k)
            have h2 := tot_take ps k
            have h3 := HPS.out.2.1
            rw [← HLS.out] at h1
            have h4 := tot_len ls
            omega)
          by_cases hlt : k < NP
          · have hlt' : k < ps.length := by rw [← HNP.out]; exact hlt
            obtain ⟨p, hp⟩ : ∃ p : ByteArray, p = ⟨(ps[k]).toArray⟩ := ⟨_, rfl⟩
            have hcell : wr.cell? ⟨g2, k, none⟩ = some (.string p) := by
              rw [World.cell?_of_block (w := w7) HG2.out.1]
              have := HU.out.2 k (.string p) (by rw [List.getElem?_map, List.getElem?_eq_getElem hlt', hp]; rfl)
              rwa [Nat.zero_add] at this
            have HNX := Aside0.mk (show (ps.take (k + 1)).foldl PathP.step init = PathP.step ls p.data.toList from by
              rw [List.take_succ_eq_append_getElem hlt', List.foldl_append, ← HLS.out, hp]; rfl)
            have hk6 : k < 10000000 := by omega
            obtain ⟨B, M, d, rfl, hM, hMd, hx⟩ := (own_lies HO.out).readN
            rw [List.length_map] at hM
            have HX2 := Aside0.mk (And.intro hM hx)
            have hM6 : M < 10000000 := by have := HTOT.out.2; omega
            clear hp hM hx hlt'
            rcases step_cases ls p with ⟨e1, hst⟩ | ⟨e1, e2, hst⟩ | ⟨e1, e2, e3, hst⟩ | ⟨e1, e2, e3, hst⟩
            iterate 2
              · have HST := Aside0.mk hst
                clear hst
                go_wp2
                go_roundw
                case rel => exact ⟨k + 1, ls, by omega, by go_num, ⟨by rw [HNX.out, HST.out]⟩, HO, HNE, HG2, HB⟩
                case measure => simp [intOf]; omega
            · by_cases h0 : M = 0
              · have HST := Aside0.mk (show PathP.step ls p.data.toList = ls from by rw [hst, List.eq_nil_of_length_eq_zero (l := ls) (by rw [← HX2.out.1, h0])]; rfl)
                subst h0
                clear hst
                go_wp2
                go_roundw
                case rel => exact ⟨k + 1, ls, by omega, by go_num, ⟨by rw [HNX.out, HST.out]⟩, HO, HNE, HG2, HB⟩
                case measure => simp [intOf]; omega
              · obtain ⟨g, rfl, hg, hq⟩ := HX2.out.2 0 (str (ls[0]'(by rw [← HX2.out.1]; omega))) (by rw [List.getElem?_map, List.getElem?_eq_getElem (by rw [← HX2.out.1]; omega)]; rfl)
                obtain ⟨M', rfl⟩ : ∃ M', M = M' + 1 := ⟨M - 1, by omega⟩
                have hpos : decide (0 < (M' : Int) + 1) = true := decide_eq_true (by omega)
                have hw : wrap64 (M' : Int) = (M' : Int) := by unfold wrap64; omega
                have hMc : M' ≤ d := by omega
                have hMc' : (M' : Int) ≤ (d : Int) := by omega
                have hM0 : 0 ≤ (M' : Int) := by omega
                have HST := Aside0.mk hst
                have HO2 := Aside0.mk (show wr.ownsRow w.heap.size 9 1 (.slice (some ⟨g, 0, none⟩) M' d) ls.dropLast.length (ls.dropLast.map str) from by
                  have h1 : M' = ls.dropLast.length := by rw [List.length_dropLast, ← HX2.out.1]; rfl
                  have h2 := HO.out
                  rw [← HX2.out.1] at h2
                  rw [List.map_dropLast, ← h1]; exact Row.own_last h2 M' rfl)
                clear hq
                clear hst h0 hg
                go_wp2
                go_roundw
                case rel => exact ⟨k + 1, ls.dropLast, by omega, by go_num, ⟨by rw [HNX.out, HST.out]⟩, HO2, HNE, HG2, HB⟩
                case measure => simp [intOf]; omega
            · have HST := Aside0.mk hst
              have HPP := Aside0.mk (show Value.string p = str p.data.toList from rfl)
              clear hst
              go_wp2_with ((with_reducible refine Laws.gate 63 rfl ?_); refine Laws.append_any rfl (.tmp 57) (.tmp 62) 31 rfl w.heap.size 9 i0 (.string ⟨#[]⟩) 1 16 Tryd.underlying31 HI.out.1 HI.out.2.1 HI.out.2.2.1 HI.out.2.2.2 rfl (by decide) (.slice B M d) ls.length (ls.map str) rfl (own_move HO.out (fun j hj => Below.heap_alloc _ _ _ (own_lt HO.out j hj))) (some ⟨wr.heap.size, 0, none⟩) 1 1 [.string p] rfl rfl (fun _ => ⟨_, rfl, Laws.new_cells wr _ _ _ rfl⟩) (fun u hu => by simp at hu; subst hu; rfl) (by have := HTOT.out.2; simp only [maxLen]; omega) (by have := HTOT.out.2; omega) (Nat.le_trans HB.out.size (by simp)) ?_; intro v8 w8 ho8 hg8 _ hl8; have HO8 := Aside0.mk (show w8.ownsRow w.heap.size 9 1 v8 (ls ++ [p.data.toList]).length ((ls ++ [p.data.toList]).map str) from by rw [List.map_append, List.length_append]; exact ho8); have HG8 := Aside0.mk (show w8.heap[g2]? = w7.heap[g2]? ∧ w7.heap.size ≤ w8.heap.size from by
                  have hgs : g2 < wr.heap.size := Nat.lt_of_lt_of_le HU.out.1 HG2.out.2
                  refine ⟨?_, Nat.le_trans HG2.out.2 (Nat.le_trans (by simp) hg8.size)⟩
                  rw [hg8.block g2 (by simp; omega) (fun e => HNE.out g2 e.symm rfl), Below.heap_alloc _ _ _ hgs]; exact HG2.out.1); have HN8 := Aside0.mk (show ∀ b, v8.ownBlock = some b → b ≠ g2 from fun b hb => by
                  rcases hl8 with h | h
                  · exact HNE.out b (h ▸ hb)
                  · rw [h] at hb
                    have := Option.some.inj hb
                    have hgs : g2 < wr.heap.size := Nat.lt_of_lt_of_le HU.out.1 HG2.out.2
                    simp at this; omega); have HB8 := Aside0.mk (show Below w.heap.size w w8 from (HB.out.alloc HB.out.size _).grown hg8 (Nat.le_trans HB.out.size (by simp)) (fun k h => Laws.own_ge HO.out k h)); clear ho8 hg8 hl8)
              go_roundw
              case rel => exact ⟨k + 1, ls ++ [p.data.toList], by omega, by go_num, ⟨by rw [HNX.out, HST.out]⟩, HO8, HN8, HG8, HB8⟩
              case measure => simp [intOf]; omega
          · obtain rfl : k = NP := by omega
            have HLD := Aside0.mk (show PathP.lead s.data.toList t.data.toList = PathP.whole ls from by
              rw [HPS.out.1, HLS.out, HNP.out, List.take_length])
            obtain ⟨B, M, d, rfl, hM, hMd, hx⟩ := (own_lies HO.out).readN
            rw [List.length_map] at hM
            have HX2 := Aside0.mk (And.intro hM hx)
            have hM6 : M < 10000000 := by have := HTOT.out.2; omega
            clear hM hx hMd
            go_wp2
            go_loop [11, 12] (fun out_ i_ => ∃ (k : Nat) (O : ByteArray), k ≤ M ∧ i_ = .int .i64 k ∧ out_ = .string O ∧ Aside0 (O.data.toList = flat (ls.take k))) (fun _ i_ => M - (intOf i_).toNat)
            case atStart => exact ⟨0, ⟨#[]⟩, Nat.zero_le _, rfl, rfl, ⟨rfl⟩⟩
            case round =>
              obtain ⟨k, O, hk, rfl, rfl, HO1⟩ := hrel
              have hOs : O.size ≤ 2000002 := by
                rw [← data_length, HO1.out, flat_tot]; exact Nat.le_trans (tot_take _ _) HTOT.out.1
              by_cases hlt : k < M
              · have hlt' : k < ls.length := by rw [← HX2.out.1]; exact hlt
                obtain ⟨p, hp⟩ : ∃ p : ByteArray, p = ⟨(ls[k]).toArray⟩ := ⟨_, rfl⟩
                have hpl : p.data.toList = ls[k] := by rw [hp]
                have hps : p.size ≤ 2000002 := by
                  rw [← data_length, hpl]
                  have h1 := tot_take ls (k + 1)
                  rw [List.take_succ_eq_append_getElem hlt', tot_app, tot] at h1
                  have := HTOT.out.1
                  omega
                obtain ⟨g, rfl, hg, hcell⟩ := HX2.out.2 k (.string p) (by rw [List.getElem?_map, List.getElem?_eq_getElem hlt', hp]; rfl)
                have hs1 : (ByteArray.mk #[47]).size = 1 := rfl
                have hk6 : k < 10000000 := by omega
                have HNX := Aside0.mk (show ((O ++ ⟨#[47]⟩ : ByteArray) ++ p).data.toList = flat (ls.take (k + 1)) from by
                  rw [List.take_succ_eq_append_getElem hlt', flat_snoc, ← HO1.out, ← hpl]; simp)
                clear hp hpl hg hlt'
                go_wp2
                go_round
                case rel => exact ⟨k + 1, _, by omega, by go_num, rfl, HNX⟩
                case measure => simp [intOf]; omega
              · obtain rfl : k = M := by omega
                have HO2 := Aside0.mk (show O.data.toList = flat ls from by rw [HO1.out, HX2.out.1, List.take_length])
                have hOe : O.toList = O.data.toList := ByteArray.toList_eq O
                by_cases h0 : ls = []
                · have hE : O.toList = [] := by rw [hOe, HO2.out, h0]; rfl
                  have HF := Aside0.mk (show R = joinR ([47], .ok) from by rw [HG.out, HLD.out, h0]; rfl)
                  have hs1 : (ByteArray.mk #[47]).size = 1 := rfl
                  clear hOe h0
                  go_wp2
                  go_ret2
                  exact ⟨by first | (rw [HF.out]; rfl) | rfl, HB.out⟩
                · have hE : O.toList.isEmpty = false := by
                    rw [hOe, HO2.out, flat_whole h0]; rfl
                  have HE := Aside0.mk (show Value.string O = str (PathP.whole ls) from by
                    refine congrArg Value.string ?_; apply ByteArray.ext; apply Array.ext'
                    rw [HO2.out, flat_whole h0])
                  have HL := Aside0.mk (show (PathP.whole ls).length = O.size from by rw [← flat_whole h0, ← HO2.out, data_length])
                  clear hOe h0
                  by_cases h2 : 200 < (O.size : Int)
                  · have HF := Aside0.mk (show R = joinR ([], .over) from by rw [HG.out, HLD.out, if_pos (by rw [HL.out]; omega)])
                    have h2' := decide_eq_true h2
                    clear h2
                    go_wp2
                    go_ret2
                    exact ⟨by first | (rw [HF.out]; rfl) | rfl, HB.out⟩
                  · have HF := Aside0.mk (show R = joinR (PathP.whole ls, .ok) from by rw [HG.out, HLD.out, if_neg (by rw [HL.out]; omega)])
                    have h2' := decide_eq_false h2
                    clear h2
                    go_wp2
                    go_ret2
                    exact ⟨by rw [HF.out, HE.out]; rfl, HB.out⟩
end Go.Proofs.YtipojdjdlnafmaaDoor.Path
