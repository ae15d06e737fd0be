/- The walk of PathUp. -/
import Derived.Test.YtipojdjdlnafmaaDoorPathLaws
namespace Go.Proofs.YtipojdjdlnafmaaDoor.Path
open Go Go.RowKit Go.Proofs.YtipojdjdlnafmaaDoorW.PrintWords Go.Proofs.YtipojdjdlnafmaaDoorW.PrintLast Go.Proofs.YtipojdjdlnafmaaDoorW.PrintMore Go.Proofs.YtipojdjdlnafmaaDoor.Quad
set_option linter.unusedVariables false
set_option linter.unusedSimpArgs false

set_option maxHeartbeats 2000000 in
set_option maxRecDepth 100000 in
theorem up_walk (s t : ByteArray) (w : World) (hm : Mx w) :
    Calls Tryd.prog 5 #[.string s, .string t] w fun e w' => e = .returned (.bool true) ∧ Below w.heap.size w w' := by
  have HM := Aside0.mk hm
  have HB := Aside0.mk (Below.refl w.heap.size w)
  clear hm
  rcases long2 s t with h1 | ⟨h1, h2⟩ | ⟨h1, h2, hs, ht⟩
  iterate 2
    · go_enter Tryd.func5, Tryd.ntmps5
      go_wp2_with (first
        | (go_at_call 10; with_reducible refine (awake' HM.out HB.out).mono ?_; rintro e w9 ⟨rfl, hb⟩; replace HB := Aside0.mk hb; clear hb))
      go_ret
      exact ⟨rfl, HB.out⟩
  · have hs1 : (ByteArray.mk #[47]).size = 1 := rfl
    have hs3 : (ByteArray.mk #[47, 46, 46]).size = 3 := rfl
    have hst : (⟨#[47]⟩ ++ t : ByteArray).size ≤ 1000000 := by rw [ByteArray.size_append, hs1]; omega
    have hbs : (⟨#[47]⟩ ++ t : ByteArray).data.toList = 47 :: t.data.toList := by simp
    obtain ⟨b1, h1'⟩ : ∃ b, PathP.may s.data.toList = b := ⟨_, rfl⟩
    obtain ⟨b2, h2'⟩ : ∃ b, PathP.may (47 :: t.data.toList) = b := ⟨_, rfl⟩
    have M1 := Aside0.mk (show MayIs s b1 from ⟨by omega, h1'⟩)
    have M2 := Aside0.mk (show MayIs (⟨#[47]⟩ ++ t) b2 from ⟨hst, by rw [hbs]; exact h2'⟩)
    have hte : t.toList = t.data.toList := ByteArray.toList_eq t
    clear hst hbs
    cases b1 with
    | false =>
      clear h1' h2' hte
      go_enter Tryd.func5, Tryd.ntmps5
      go_wp2_with (first
        | (go_at_call 10; with_reducible refine (awake' HM.out HB.out).mono ?_; rintro e w9 ⟨rfl, hb⟩; replace HB := Aside0.mk hb; clear hb)
        | (go_at_call 15; with_reducible refine (M1.out.calls HM.out HB.out).mono ?_; rintro e w9 ⟨rfl, hb⟩; replace HB := Aside0.mk hb; clear hb)
        | (go_at_call 15; with_reducible refine (M2.out.calls HM.out HB.out).mono ?_; rintro e w9 ⟨rfl, hb⟩; replace HB := Aside0.mk hb; clear hb))
      go_ret
      exact ⟨rfl, HB.out⟩
    | true =>
      cases b2 with
      | false =>
        clear h1' h2' hte
        go_enter Tryd.func5, Tryd.ntmps5
        go_wp2_with (first
          | (go_at_call 10; with_reducible refine (awake' HM.out HB.out).mono ?_; rintro e w9 ⟨rfl, hb⟩; replace HB := Aside0.mk hb; clear hb)
          | (go_at_call 15; with_reducible refine (M1.out.calls HM.out HB.out).mono ?_; rintro e w9 ⟨rfl, hb⟩; replace HB := Aside0.mk hb; clear hb)
          | (go_at_call 15; with_reducible refine (M2.out.calls HM.out HB.out).mono ?_; rintro e w9 ⟨rfl, hb⟩; replace HB := Aside0.mk hb; clear hb))
        go_ret
        exact ⟨rfl, HB.out⟩
      | true =>
        by_cases ht0 : t.data.toList = []
        · have hE : t.toList = [] := hte.trans ht0
          clear h1' h2' hte ht0
          go_enter Tryd.func5, Tryd.ntmps5
          go_wp2_with (first
            | (go_at_call 10; with_reducible refine (awake' HM.out HB.out).mono ?_; rintro e w9 ⟨rfl, hb⟩; replace HB := Aside0.mk hb; clear hb)
            | (go_at_call 15; with_reducible refine (M1.out.calls HM.out HB.out).mono ?_; rintro e w9 ⟨rfl, hb⟩; replace HB := Aside0.mk hb; clear hb)
            | (go_at_call 15; with_reducible refine (M2.out.calls HM.out HB.out).mono ?_; rintro e w9 ⟨rfl, hb⟩; replace HB := Aside0.mk hb; clear hb))
          go_ret
          exact ⟨rfl, HB.out⟩
        · have hE : t.toList.isEmpty = false := by rw [hte]; exact List.isEmpty_eq_false_iff.2 ht0
          have HT := Aside0.mk (And.intro h1' (And.intro h2' ht0))
          clear h1' h2' hte ht0
          go_enter Tryd.func5, Tryd.ntmps5
          go_wp2_with (first
            | (go_at_call 10; with_reducible refine (awake' HM.out HB.out).mono ?_; rintro e w9 ⟨rfl, hb⟩; replace HB := Aside0.mk hb; clear hb)
            | (go_at_call 15; with_reducible refine (M1.out.calls HM.out HB.out).mono ?_; rintro e w9 ⟨rfl, hb⟩; replace HB := Aside0.mk hb; clear hb)
            | (go_at_call 15; with_reducible refine (M2.out.calls HM.out HB.out).mono ?_; rintro e w9 ⟨rfl, hb⟩; replace HB := Aside0.mk hb; clear hb))
          go_loop [6] (fun i_ => ∃ k : Nat, k ≤ t.size ∧ i_ = .int .i64 k ∧ Aside0 (47 ∉ t.data.toList.take k)) (fun i_ => t.size - (intOf i_).toNat)
          case atStart => exact ⟨0, Nat.zero_le _, rfl, ⟨by simp⟩⟩
          case round =>
            obtain ⟨k, hk, rfl, HA⟩ := hrel
            have HL := Aside0.mk (data_length t)
            by_cases hlt : k < t.size
            · have hk6 : k < 1000000 := by omega
              have hk' : k < t.data.toList.length := by rw [HL.out]; exact hlt
              obtain ⟨c, hc⟩ : ∃ c, c = t.data.toList[k] := ⟨_, rfl⟩
              obtain ⟨x, hx⟩ : ∃ x : Nat, x = c.toNat := ⟨_, rfl⟩
              have hckc : ∀ h : k < t.size, ((t[k]'h).toNat : Int) = (x : Int) := fun h => by rw [hx, hc, ← bt_byte t k hk']; exact bt_at t k h
              by_cases h47 : c = 47
              · have hcmp : ((x : Int) == 47) = true := by rw [hx, h47]; rfl
                clear hc hx h47 hk'
                go_wp2
                go_ret
                exact ⟨rfl, HB.out⟩
              · have hcmp : ((x : Int) == 47) = false := by
                  refine beq_eq_false_iff_ne.2 fun e => h47 (UInt8.toNat_inj.1 ?_)
                  rw [← hx]; have e2 : (47 : UInt8).toNat = 47 := rfl
                  omega
                have HA2 := Aside0.mk (show 47 ∉ t.data.toList.take (k + 1) from by
                  rw [List.take_succ_eq_append_getElem hk', List.mem_append, List.mem_singleton, ← hc]
                  exact fun h => h.elim HA.out (fun e => h47 e.symm))
                clear hc hx h47 hk'
                go_wp2
                go_round
                case rel => exact ⟨k + 1, by omega, by go_num, HA2⟩
                case measure => simp [intOf]; omega
            · obtain rfl : k = t.size := by omega
              have hno : 47 ∉ t.data.toList := by
                have := HA.out; rwa [List.take_of_length_le (by rw [HL.out]; exact Nat.le_refl _)] at this
              have hp := PathP.may_part HT.out.2.1 HT.out.2.2 hno
              have hU := PathP.up_law HT.out.1 hp.1
              have J2 := Aside0.mk (show JoinIs ⟨#[47]⟩ ⟨#[46, 46]⟩ ⟨#[47]⟩ 0 from .ok (by decide) (by decide) (by decide))
              have J3 := Aside0.mk (show JoinIs s (t ++ ⟨#[47, 46, 46]⟩) s 0 from .ok (by omega) (by rw [ByteArray.size_append, hs3]; omega) (by
                rw [show (t ++ ⟨#[47, 46, 46]⟩ : ByteArray).data.toList = t.data.toList ++ [47, 46, 46] from by simp]
                exact PathP.join_part_up HT.out.1 hp.1))
              have e2 : (ByteArray.mk #[47]).toList = [47] := by rw [ByteArray.toList_eq]
              rcases join_goes (s := s) (t := t) (by omega) (by omega) with ⟨r, hj, he, hr, hmr⟩ | ⟨z, hj, hz, hze, hne⟩
              · have J1 := Aside0.mk hj
                have h3 := hU.2 (by rw [he])
                rw [he] at h3
                have J4 := Aside0.mk (show JoinIs r ⟨#[46, 46]⟩ s 0 from .ok (by omega) (by decide) h3.1)
                have U1 := Aside0.mk (show UnderIs s r true from ⟨by omega, by omega, h3.2.1⟩)
                have hrs : (r.toList == s.toList) = false := by
                  rw [ByteArray.toList_eq, ByteArray.toList_eq]; exact beq_eq_false_iff_ne.2 h3.2.2
                clear hno hp hU hj he hmr h3 hE HA
                go_wp2_with (first
                  | (go_at_call 10; with_reducible refine (awake' HM.out HB.out).mono ?_; rintro e w9 ⟨rfl, hb⟩; replace HB := Aside0.mk hb; clear hb)
                  | (go_at_call 12; with_reducible refine (J1.out.calls HM.out HB.out).mono ?_; rintro e w9 ⟨rfl, hb⟩; replace HB := Aside0.mk hb; clear hb)
                  | (go_at_call 12; with_reducible refine (J2.out.calls HM.out HB.out).mono ?_; rintro e w9 ⟨rfl, hb⟩; replace HB := Aside0.mk hb; clear hb)
                  | (go_at_call 12; with_reducible refine (J3.out.calls HM.out HB.out).mono ?_; rintro e w9 ⟨rfl, hb⟩; replace HB := Aside0.mk hb; clear hb)
                  | (go_at_call 12; with_reducible refine (J4.out.calls HM.out HB.out).mono ?_; rintro e w9 ⟨rfl, hb⟩; replace HB := Aside0.mk hb; clear hb)
                  | (go_at_call 16; with_reducible refine (U1.out.calls HM.out HB.out).mono ?_; rintro e w9 ⟨rfl, hb⟩; replace HB := Aside0.mk hb; clear hb))
                go_ret
                exact ⟨rfl, HB.out⟩
              · have h3 := hU.1 hne
                have hz5 : z = 5 := by rw [hze, h3.1]; rfl
                subst hz5
                have J1 := Aside0.mk hj
                have hsum : s.size + t.size ≥ 200 := by rw [← data_length s, ← data_length t]; exact h3.2
                have hsumI : decide (200 ≤ (s.size : Int) + (t.size : Int)) = true := decide_eq_true (by omega)
                clear hno hp hU hj hne h3 hze hE HA
                go_wp2_with (first
                  | (go_at_call 10; with_reducible refine (awake' HM.out HB.out).mono ?_; rintro e w9 ⟨rfl, hb⟩; replace HB := Aside0.mk hb; clear hb)
                  | (go_at_call 12; with_reducible refine (J1.out.calls HM.out HB.out).mono ?_; rintro e w9 ⟨rfl, hb⟩; replace HB := Aside0.mk hb; clear hb)
                  | (go_at_call 12; with_reducible refine (J2.out.calls HM.out HB.out).mono ?_; rintro e w9 ⟨rfl, hb⟩; replace HB := Aside0.mk hb; clear hb)
                  | (go_at_call 12; with_reducible refine (J3.out.calls HM.out HB.out).mono ?_; rintro e w9 ⟨rfl, hb⟩; replace HB := Aside0.mk hb; clear hb))
                go_ret
                exact ⟨rfl, HB.out⟩
end Go.Proofs.YtipojdjdlnafmaaDoor.Path
