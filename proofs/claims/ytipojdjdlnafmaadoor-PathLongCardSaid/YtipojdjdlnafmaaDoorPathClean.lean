/- The contracts of cmd.Clean and the reference's Clean. -/
import Derived.Test.YtipojdjdlnafmaaDoorByte
import Derived.Test.YtipojdjdlnafmaaDoorPathQ
namespace Go.Proofs.YtipojdjdlnafmaaDoor.Path
open Go Go.RowKit Go.Proofs.YtipojdjdlnafmaaDoorW.PrintWords Go.Proofs.YtipojdjdlnafmaaDoorW.PrintLast Go.Proofs.YtipojdjdlnafmaaDoorW.PrintMore Go.Proofs.YtipojdjdlnafmaaDoor.Quad
set_option linter.unusedVariables false
set_option linter.unusedSimpArgs false

set_option maxHeartbeats 1000000 in
set_option maxRecDepth 100000 in
theorem clean_calls (s : ByteArray) (hs : s.size ≤ 1000000) (w : World) :
    Calls Tryd.prog 19 #[.string s] w fun e w' => e = .returned (.bool (PathP.clean s.data.toList)) ∧ w' = w := by
  obtain ⟨R, hR⟩ : ∃ R, R = PathP.clean s.data.toList := ⟨_, rfl⟩
  rw [← hR]
  have HR := Aside0.mk hR
  clear hR
  have HL := Aside0.mk (data_length s)
  go_enter Tryd.func19, Tryd.ntmps19
  go_wp2
  go_loop [6] (fun i_ => ∃ k : Nat, k ≤ s.size ∧ i_ = .int .i64 k ∧ Aside0 (PathP.clean (s.data.toList.take k) = true)) (fun i_ => s.size - (intOf i_).toNat)
  case atStart => exact ⟨0, Nat.zero_le _, rfl, ⟨rfl⟩⟩
  case round =>
    obtain ⟨k, hk, rfl, HA⟩ := hrel
    by_cases hlt : k < s.size
    · have hk6 : k < 1000000 := by omega
      have hk' : k < s.data.toList.length := by rw [HL.out]; exact hlt
      obtain ⟨c, hc⟩ : ∃ c, c = s.data.toList[k] := ⟨_, rfl⟩
      obtain ⟨x, hx⟩ : ∃ x : Nat, x = c.toNat := ⟨_, rfl⟩
      have hckc : ∀ h : k < s.size, ((s[k]'h).toNat : Int) = (x : Int) := fun h => by rw [hx, hc, ← bt_byte s k hk']; exact bt_at s k h
      have hnext : PathP.clean (s.data.toList.take (k + 1)) = (decide (32 ≤ x) && decide (x ≤ 126)) := by
        rw [List.take_succ_eq_append_getElem hk', PathP.clean_app, HA.out, ← hc, hx]
        simp [PathP.clean]
      have hall : R = true → (decide (32 ≤ x) && decide (x ≤ 126)) = true := fun h => by
        rw [HR.out, PathP.clean, List.all_eq_true] at h
        rw [hx]; exact h c (by rw [hc]; exact List.getElem_mem _)
      have HN := Aside0.mk (And.intro hnext hall)
      clear hc hx hnext hall
      by_cases h1 : x < 32
      · have hlo : decide ((x : Int) < 32) = true := decide_eq_true (by omega)
        have hF : R = false := by
          cases hR : R
          · rfl
          · have := HN.out.2 hR; simp at this; omega
        clear h1
        go_wp2
        go_ret
        exact ⟨by first | (rw [hF]; rfl) | rfl, rfl⟩
      · have hlo : decide ((x : Int) < 32) = false := decide_eq_false (by omega)
        by_cases h2 : 126 < x
        · have hhi : decide (126 < (x : Int)) = true := decide_eq_true (by omega)
          have hF : R = false := by
            cases hR : R
            · rfl
            · have := HN.out.2 hR; simp at this; omega
          clear h1 h2
          go_wp2
          go_ret
          exact ⟨by first | (rw [hF]; rfl) | rfl, rfl⟩
        · have hhi : decide (126 < (x : Int)) = false := decide_eq_false (by omega)
          have HN2 := Aside0.mk (show PathP.clean (s.data.toList.take (k + 1)) = true from by rw [HN.out.1]; simp; omega)
          clear h1 h2
          go_wp2
          go_round
          case rel => exact ⟨k + 1, by omega, by go_num, HN2⟩
          case measure => simp [intOf]; omega
    · obtain rfl : k = s.size := by omega
      have hF : R = true := by
        rw [HR.out, ← HA.out, List.take_of_length_le (by rw [HL.out]; exact Nat.le_refl _)]
      clear HA
      go_wp2
      go_ret
      exact ⟨by first | (rw [hF]; rfl) | rfl, rfl⟩

set_option maxHeartbeats 1000000 in
set_option maxRecDepth 100000 in
theorem ref_clean_calls (s : ByteArray) (hs : s.size ≤ 1000000) (w : World) :
    Calls Tryd.prog 17 #[.string s] w fun e w' => e = .returned (.bool (PathP.clean s.data.toList)) ∧ w' = w := by
  obtain ⟨R, hR⟩ : ∃ R, R = PathP.clean s.data.toList := ⟨_, rfl⟩
  rw [← hR]
  have HR := Aside0.mk hR
  clear hR
  have HL := Aside0.mk (data_length s)
  go_enter Tryd.func17, Tryd.ntmps17
  go_wp2
  go_loop [3] (fun i_ => ∃ k : Nat, k ≤ s.size ∧ i_ = .int .i64 k ∧ Aside0 (PathP.clean (s.data.toList.take k) = true)) (fun i_ => s.size - (intOf i_).toNat)
  case atStart => exact ⟨0, Nat.zero_le _, rfl, ⟨rfl⟩⟩
  case round =>
    obtain ⟨k, hk, rfl, HA⟩ := hrel
    by_cases hlt : k < s.size
    · have hk6 : k < 1000000 := by omega
      have hk' : k < s.data.toList.length := by rw [HL.out]; exact hlt
      obtain ⟨c, hc⟩ : ∃ c, c = s.data.toList[k] := ⟨_, rfl⟩
      obtain ⟨x, hx⟩ : ∃ x : Nat, x = c.toNat := ⟨_, rfl⟩
      have hckc : ∀ h : k < s.size, ((s[k]'h).toNat : Int) = (x : Int) := fun h => by rw [hx, hc, ← bt_byte s k hk']; exact bt_at s k h
      have hnext : PathP.clean (s.data.toList.take (k + 1)) = (decide (32 ≤ x) && decide (x ≤ 126)) := by
        rw [List.take_succ_eq_append_getElem hk', PathP.clean_app, HA.out, ← hc, hx]
        simp [PathP.clean]
      have hall : R = true → (decide (32 ≤ x) && decide (x ≤ 126)) = true := fun h => by
        rw [HR.out, PathP.clean, List.all_eq_true] at h
        rw [hx]; exact h c (by rw [hc]; exact List.getElem_mem _)
      have HN := Aside0.mk (And.intro hnext hall)
      clear hc hx hnext hall
      by_cases h1 : x < 32
      · have hlo : decide ((x : Int) < 32) = true := decide_eq_true (by omega)
        have hF : R = false := by
          cases hR : R
          · rfl
          · have := HN.out.2 hR; simp at this; omega
        clear h1
        go_wp2
        go_ret
        exact ⟨by first | (rw [hF]; rfl) | rfl, rfl⟩
      · have hlo : decide ((x : Int) < 32) = false := decide_eq_false (by omega)
        by_cases h2 : 126 < x
        · have hhi : decide (126 < (x : Int)) = true := decide_eq_true (by omega)
          have hF : R = false := by
            cases hR : R
            · rfl
            · have := HN.out.2 hR; simp at this; omega
          clear h1 h2
          go_wp2
          go_ret
          exact ⟨by first | (rw [hF]; rfl) | rfl, rfl⟩
        · have hhi : decide (126 < (x : Int)) = false := decide_eq_false (by omega)
          have HN2 := Aside0.mk (show PathP.clean (s.data.toList.take (k + 1)) = true from by rw [HN.out.1]; simp; omega)
          clear h1 h2
          go_wp2
          go_round
          case rel => exact ⟨k + 1, by omega, by go_num, HN2⟩
          case measure => simp [intOf]; omega
    · obtain rfl : k = s.size := by omega
      have hF : R = true := by
        rw [HR.out, ← HA.out, List.take_of_length_le (by rw [HL.out]; exact Nat.le_refl _)]
      clear HA
      go_wp2
      go_ret
      exact ⟨by first | (rw [hF]; rfl) | rfl, rfl⟩
end Go.Proofs.YtipojdjdlnafmaaDoor.Path
