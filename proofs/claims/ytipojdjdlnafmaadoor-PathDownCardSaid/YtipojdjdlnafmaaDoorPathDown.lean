/- The walk of PathDown. -/
import Derived.Test.YtipojdjdlnafmaaDoorPathLaws
namespace Go.Proofs.YtipojdjdlnafmaaDoor.Path
open Go Go.RowKit Go.Proofs.YtipojdjdlnafmaaDoorW.PrintWords Go.Proofs.YtipojdjdlnafmaaDoorW.PrintLast Go.Proofs.YtipojdjdlnafmaaDoorW.PrintMore Go.Proofs.YtipojdjdlnafmaaDoor.Quad
set_option linter.unusedVariables false
set_option linter.unusedSimpArgs false

set_option maxHeartbeats 2000000 in
set_option maxRecDepth 100000 in
theorem down_walk (s t : ByteArray) (w : World) (hm : Mx w) :
    Calls Tryd.prog 9 #[.string s, .string t] w fun e w' => e = .returned (.bool true) ∧ Below w.heap.size w w' := by
  have HM := Aside0.mk hm
  have HB := Aside0.mk (Below.refl w.heap.size w)
  clear hm
  rcases long2 s t with h1 | ⟨h1, h2⟩ | ⟨h1, h2, hs, ht⟩
  iterate 2
    · go_enter Tryd.func9, Tryd.ntmps9
      go_wp2_with (first
        | (go_at_call 10; with_reducible refine (awake' HM.out HB.out).mono ?_; rintro e w9 ⟨rfl, hb⟩; replace HB := Aside0.mk hb; clear hb))
      go_ret
      exact ⟨rfl, HB.out⟩
  · have hs1 : (ByteArray.mk #[47]).size = 1 := rfl
    have hbs : (t ++ ⟨#[47]⟩ : ByteArray).data.toList = t.data.toList ++ [47] := by simp
    have hst : (t ++ ⟨#[47]⟩ : ByteArray).size ≤ 1000000 := by rw [ByteArray.size_append, hs1]; omega
    have hte : t.toList = t.data.toList := ByteArray.toList_eq t
    have HL := Aside0.mk (data_length t)
    obtain ⟨r, z, hj, hgoes, hzok⟩ : ∃ r z, JoinIs s t r z ∧ ((z = 0 ∧ PathP.join s.data.toList t.data.toList = (r.data.toList, .ok) ∧ r.size ≤ 1000000) ∨ ((z == 0) = false)) ∧ True := by
      rcases join_goes (s := s) (t := t) (by omega) (by omega) with ⟨r, hj, he, hr, hmr⟩ | ⟨z, hj, hz, hze, hne⟩
      · exact ⟨r, 0, hj, .inl ⟨rfl, he, by omega⟩, trivial⟩
      · exact ⟨_, z, hj, .inr hz, trivial⟩
    obtain ⟨r', z', hj2, hE⟩ : ∃ r' z', JoinIs s (t ++ ⟨#[47]⟩) r' z' ∧ (t.toList = [] ∨ (t.toList.isEmpty = false ∧ r = r' ∧ z = z')) := by
      by_cases ht0 : t.data.toList = []
      · obtain ⟨r', z', hj2, _, _⟩ := joinIs (s := s) (t := t ++ ⟨#[47]⟩) (by omega) hst
        exact ⟨r', z', hj2, .inl (hte.trans ht0)⟩
      · refine ⟨r, z, ⟨hj.1, hst, ?_⟩, .inr ⟨by rw [hte]; exact List.isEmpty_eq_false_iff.2 ht0, rfl, rfl⟩⟩
        rw [hbs, PathP.down_stroke ht0]; exact hj.2.2
    have J1 := Aside0.mk hj
    have J2 := Aside0.mk hj2
    have HG := Aside0.mk hgoes
    clear hbs hst hte hj hj2 hgoes hzok
    rcases hE with hE | ⟨hE, rfl, rfl⟩
    all_goals
      go_enter Tryd.func9, Tryd.ntmps9
      go_wp2_with (first
        | (go_at_call 10; with_reducible refine (awake' HM.out HB.out).mono ?_; rintro e w9 ⟨rfl, hb⟩; replace HB := Aside0.mk hb; clear hb)
        | (go_at_call 12; with_reducible refine (J1.out.calls HM.out HB.out).mono ?_; rintro e w9 ⟨rfl, hb⟩; replace HB := Aside0.mk hb; clear hb)
        | (go_at_call 12; with_reducible refine (J2.out.calls HM.out HB.out).mono ?_; rintro e w9 ⟨rfl, hb⟩; replace HB := Aside0.mk hb; clear hb))
      go_loop [10] (fun i_ => ∃ k : Nat, k ≤ t.size ∧ i_ = .int .i64 k ∧ Aside0 (46 ∉ t.data.toList.take k ∧ (0 < k → t.data.toList.head? ≠ some 47))) (fun i_ => t.size - (intOf i_).toNat)
      case atStart => exact ⟨0, Nat.zero_le _, rfl, ⟨by simp, fun h => absurd h (by decide)⟩⟩
      case round =>
        obtain ⟨k, hk, rfl, HA⟩ := hrel
        clear hE
        by_cases hlt : k < t.size
        · have hk6 : k < 1000000 := by omega
          have hk' : k < t.data.toList.length := by rw [HL.out]; exact hlt
          obtain ⟨c, hc⟩ : ∃ c, c = t.data.toList[k] := ⟨_, rfl⟩
          obtain ⟨x, hx⟩ : ∃ x : Nat, x = c.toNat := ⟨_, rfl⟩
          have hckc : ∀ h : k < t.size, ((t[k]'h).toNat : Int) = (x : Int) := fun h => by rw [hx, hc, ← bt_byte t k hk']; exact bt_at t k h
          by_cases h46 : c = 46
          · have hcmp : ((x : Int) == 46) = true := by rw [hx, h46]; rfl
            clear hc hx h46 hk'
            go_wp2
            go_ret
            exact ⟨rfl, HB.out⟩
          · have hcmp : ((x : Int) == 46) = false := by
              refine beq_eq_false_iff_ne.2 fun e => h46 (UInt8.toNat_inj.1 ?_)
              rw [← hx]; have e2 : (46 : UInt8).toNat = 46 := rfl
              omega
            have hA1 : 46 ∉ t.data.toList.take (k + 1) := by
              rw [List.take_succ_eq_append_getElem hk', List.mem_append, List.mem_singleton, ← hc]
              exact fun h => h.elim HA.out.1 (fun e => h46 e.symm)
            by_cases hk0 : k = 0
            · subst hk0
              have hhd : t.data.toList.head? = some c := by rw [List.head?_eq_getElem?, List.getElem?_eq_getElem hk', hc]
              by_cases h47 : c = 47
              · have hcmp2 : ((x : Int) == 47) = true := by rw [hx, h47]; rfl
                clear hc hx h46 hk' h47 hhd hA1
                go_wp2
                go_ret
                exact ⟨rfl, HB.out⟩
              · have hcmp2 : ((x : Int) == 47) = false := by
                  refine beq_eq_false_iff_ne.2 fun e => h47 (UInt8.toNat_inj.1 ?_)
                  rw [← hx]; have e2 : (47 : UInt8).toNat = 47 := rfl
                  omega
                have HA2 := Aside0.mk (show 46 ∉ t.data.toList.take (0 + 1) ∧ (0 < 0 + 1 → t.data.toList.head? ≠ some 47) from ⟨hA1, fun _ => by rw [hhd]; exact fun e => h47 (Option.some.inj e)⟩)
                clear hc hx h46 hk' h47 hhd hA1
                go_wp2
                go_round
                case rel => exact ⟨0 + 1, by omega, by first | rfl | go_num, HA2⟩
                case measure => simp [intOf]; omega
            · have hk0' : ((k : Int) == 0) = false := beq_eq_false_iff_ne.2 (by omega)
              have HA2 := Aside0.mk (show 46 ∉ t.data.toList.take (k + 1) ∧ (0 < k + 1 → t.data.toList.head? ≠ some 47) from ⟨hA1, fun _ => HA.out.2 (by omega)⟩)
              clear hc hx h46 hk' hA1 hk0
              go_wp2
              go_round
              case rel => exact ⟨k + 1, by omega, by go_num, HA2⟩
              case measure => simp [intOf]; omega
        · obtain rfl : k = t.size := by omega
          have h46 : 46 ∉ t.data.toList := by
            have := HA.out.1; rwa [List.take_of_length_le (by rw [HL.out]; exact Nat.le_refl _)] at this
          have h47 : t.data.toList.head? ≠ some 47 := by
            by_cases h0 : 0 < t.size
            · exact HA.out.2 h0
            · rw [List.eq_nil_of_length_eq_zero (l := t.data.toList) (by rw [HL.out]; omega)]; simp
          rcases HG.out with ⟨rfl, he, hr⟩ | hz
          · have U1 := Aside0.mk (show UnderIs s r true from ⟨by omega, hr, by
              have := PathP.down_law h46 h47 (cwd := s.data.toList) (by rw [he]); rwa [he] at this⟩)
            clear h46 h47 he hr
            go_wp2_with (first
              | (go_at_call 10; with_reducible refine (awake' HM.out HB.out).mono ?_; rintro e w9 ⟨rfl, hb⟩; replace HB := Aside0.mk hb; clear hb)
              | (go_at_call 16; with_reducible refine (U1.out.calls HM.out HB.out).mono ?_; rintro e w9 ⟨rfl, hb⟩; replace HB := Aside0.mk hb; clear hb))
            go_ret
            exact ⟨rfl, HB.out⟩
          · have hz' : (z != 0) = true := by rw [bne, hz]; rfl
            clear h46 h47
            go_wp2
            go_ret
            exact ⟨rfl, HB.out⟩
end Go.Proofs.YtipojdjdlnafmaaDoor.Path
