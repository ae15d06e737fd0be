/- The walk of PathTwice. -/
import Derived.Test.YtipojdjdlnafmaaDoorPathLaws
namespace Go.Proofs.YtipojdjdlnafmaaDoor.Path
open Go Go.RowKit Go.Proofs.YtipojdjdlnafmaaDoorW.PrintWords Go.Proofs.YtipojdjdlnafmaaDoorW.PrintLast Go.Proofs.YtipojdjdlnafmaaDoorW.PrintMore Go.Proofs.YtipojdjdlnafmaaDoor.Quad
set_option linter.unusedVariables false
set_option linter.unusedSimpArgs false

set_option maxHeartbeats 2000000 in
set_option maxRecDepth 100000 in
theorem twice_walk (s t r : ByteArray) (w : World) (hm : Mx w) :
    Calls Tryd.prog 7 #[.string s, .string t, .string r] w fun e w' => e = .returned (.bool true) ∧ Below w.heap.size w w' := by
  have HM := Aside0.mk hm
  have HB := Aside0.mk (Below.refl w.heap.size w)
  clear hm
  rcases long3 s t r with h1 | ⟨h1, h2⟩ | ⟨h1, h2, h3⟩ | ⟨h1, h2, h3, hs, ht, hr⟩
  iterate 3
    · go_enter Tryd.func7, Tryd.ntmps7
      go_wp2_with (first
        | (go_at_call 10; with_reducible refine (awake' HM.out HB.out).mono ?_; rintro e w9 ⟨rfl, hb⟩; replace HB := Aside0.mk hb; clear hb))
      go_ret
      exact ⟨rfl, HB.out⟩
  · rcases join_goes (s := s) (t := t) (by omega) (by omega) with ⟨x, hj, he, hx, hmx⟩ | ⟨z, hj, hz, _, _⟩
    · have J1 := Aside0.mk hj
      rcases join_goes (s := x) (t := r) (by omega) (by omega) with ⟨y, hj2, he2, hy, hmy⟩ | ⟨z2, hj2, hz2, _, _⟩
      · have J2 := Aside0.mk hj2
        have hL := PathP.twice_law (cwd := s.data.toList) (a := t.data.toList) (b := r.data.toList) (by rw [he]) (by rw [he]; rw [he2])
        rw [he, he2] at hL
        obtain ⟨c0, hc0⟩ : ∃ c, c = bt r 0 := ⟨_, rfl⟩
        have HC0 := Aside0.mk (show 0 < r.size → (c0 = 47 ↔ r.data.toList.head? = some 47) from fun h => by
          have hp : 0 < r.data.toList.length := by rw [data_length]; exact h
          have h4 := bt_byte r 0 hp
          rw [show ((0 : Nat) : Int) = 0 from rfl, ← hc0] at h4
          rw [h4, List.head?_eq_getElem?, List.getElem?_eq_getElem hp, Option.some.injEq, ← UInt8.toNat_inj]
          have e : (47 : UInt8).toNat = 47 := rfl
          omega)
        have hx0 : ∀ h : 0 < r.size, ((r[0]'h).toNat : Int) = c0 := fun h => by rw [hc0]; exact bt_at r 0 h
        clear hc0
        have hs1 : (ByteArray.mk #[47]).size = 1 := rfl
        have hte : t.toList = t.data.toList := ByteArray.toList_eq t
        have hgoes : (0 < r.size ∧ (c0 == 47) = true ∧ JoinIs ⟨#[47]⟩ r y 0) ∨ (((0 < r.size ∧ (c0 == 47) = false) ∨ r.size = 0) ∧ (t.toList = [] ∧ JoinIs s r y 0 ∨ t.toList.isEmpty = false ∧ JoinIs s (t ++ ⟨#[47]⟩ ++ r) y 0)) := by
          have hno : r.data.toList.head? ≠ some 47 → (t.toList = [] ∧ JoinIs s r y 0 ∨ t.toList.isEmpty = false ∧ JoinIs s (t ++ ⟨#[47]⟩ ++ r) y 0) := fun h => by
            have h2 := hL.2 h
            rw [hte]
            by_cases ht0 : t.data.toList = []
            · rw [if_pos ht0] at h2
              exact .inl ⟨ht0, .ok (by omega) (by omega) h2⟩
            · rw [if_neg ht0] at h2
              refine .inr ⟨List.isEmpty_eq_false_iff.2 ht0, .ok (by omega) (by rw [ByteArray.size_append, ByteArray.size_append, hs1]; omega) ?_⟩
              rw [show (t ++ ⟨#[47]⟩ ++ r : ByteArray).data.toList = t.data.toList ++ 47 :: r.data.toList from by simp]
              exact h2
          by_cases h0 : 0 < r.size
          · by_cases h47 : c0 = 47
            · exact .inl ⟨h0, beq_iff_eq.2 h47, .ok (by decide) (by omega) (hL.1 ((HC0.out h0).1 h47))⟩
            · exact .inr ⟨.inl ⟨h0, beq_eq_false_iff_ne.2 h47⟩, hno fun h => h47 ((HC0.out h0).2 h)⟩
          · refine .inr ⟨.inr (by omega), hno fun h => ?_⟩
            cases hl : r.data.toList with
            | nil => rw [hl] at h; cases h
            | cons c q => have := data_length r; rw [hl, List.length_cons] at this; omega
        clear hL he he2 hj hj2 hmx hmy hte
        rcases hgoes with ⟨g1, g2, hj3⟩ | ⟨⟨g1, g2⟩ | g1, ⟨g3, hj3⟩ | ⟨g3, hj3⟩⟩
        all_goals
          have J3 := Aside0.mk hj3
          clear hj3
          go_enter Tryd.func7, Tryd.ntmps7
          go_wp2_with (first
            | (go_at_call 10; with_reducible refine (awake' HM.out HB.out).mono ?_; rintro e w9 ⟨rfl, hb⟩; replace HB := Aside0.mk hb; clear hb)
            | (go_at_call 12; with_reducible refine (J1.out.calls HM.out HB.out).mono ?_; rintro e w9 ⟨rfl, hb⟩; replace HB := Aside0.mk hb; clear hb)
            | (go_at_call 12; with_reducible refine (J2.out.calls HM.out HB.out).mono ?_; rintro e w9 ⟨rfl, hb⟩; replace HB := Aside0.mk hb; clear hb)
            | (go_at_call 12; with_reducible refine (J3.out.calls HM.out HB.out).mono ?_; rintro e w9 ⟨rfl, hb⟩; replace HB := Aside0.mk hb; clear hb))
          go_ret
          exact ⟨rfl, HB.out⟩
      · have J2 := Aside0.mk hj2
        clear he hj hj2 hmx
        have hz2' : (z2 != 0) = true := by rw [bne, hz2]; rfl
        go_enter Tryd.func7, Tryd.ntmps7
        go_wp2_with (first
          | (go_at_call 10; with_reducible refine (awake' HM.out HB.out).mono ?_; rintro e w9 ⟨rfl, hb⟩; replace HB := Aside0.mk hb; clear hb)
          | (go_at_call 12; with_reducible refine (J1.out.calls HM.out HB.out).mono ?_; rintro e w9 ⟨rfl, hb⟩; replace HB := Aside0.mk hb; clear hb)
          | (go_at_call 12; with_reducible refine (J2.out.calls HM.out HB.out).mono ?_; rintro e w9 ⟨rfl, hb⟩; replace HB := Aside0.mk hb; clear hb))
        go_ret
        exact ⟨rfl, HB.out⟩
    · have J1 := Aside0.mk hj
      have hz' : (z != 0) = true := by rw [bne, hz]; rfl
      obtain ⟨x, z2, hj2, _, _⟩ := joinIs (s := ⟨#[]⟩) (t := r) (by decide) (by omega)
      have J2 := Aside0.mk hj2
      clear hj hj2
      go_enter Tryd.func7, Tryd.ntmps7
      go_wp2_with (first
        | (go_at_call 10; with_reducible refine (awake' HM.out HB.out).mono ?_; rintro e w9 ⟨rfl, hb⟩; replace HB := Aside0.mk hb; clear hb)
        | (go_at_call 12; with_reducible refine (J1.out.calls HM.out HB.out).mono ?_; rintro e w9 ⟨rfl, hb⟩; replace HB := Aside0.mk hb; clear hb)
        | (go_at_call 12; with_reducible refine (J2.out.calls HM.out HB.out).mono ?_; rintro e w9 ⟨rfl, hb⟩; replace HB := Aside0.mk hb; clear hb))
      go_ret
      exact ⟨rfl, HB.out⟩
end Go.Proofs.YtipojdjdlnafmaaDoor.Path
