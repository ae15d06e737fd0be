/- The contracts of ext.Text, ext.Port and of the reference's Text and Port. -/
import Derived.Test.YtfbjejkmjbknaaaDoorExtW
import Derived.Deep.RegionWith
namespace Go.Proofs.YtfbjejkmjbknaaaDoor.Ext
open Go Go.RowKit Go.Proofs.YtfbjejkmjbknaaaDoorW.PrintWords Go.Proofs.YtfbjejkmjbknaaaDoorW.PrintLast Go.Proofs.YtfbjejkmjbknaaaDoorW.PrintMore Go.Proofs.YtfbjejkmjbknaaaDoor.Dig Go.Proofs.YtfbjejkmjbknaaaDoor.Quad Go.Proofs.YtfbjejkmjbknaaaDoor.ExtP
set_option linter.unusedVariables false
set_option linter.unusedSimpArgs false

theorem num_callsP (p : Nat) (h : p ≤ 65535) (w : World) :
    Calls Tryd.prog 20 #[.int .i64 p] w fun e w' => e = .returned (.string ⟨(digU p).toArray⟩) ∧ Below w.heap.size w w' := by
  have := num_calls (p : Int) (by omega) (by omega) w
  rwa [numU_eq, numU_nat] at this
theorem ref_num_callsP (p : Nat) (h : p ≤ 65535) (w : World) :
    Calls Tryd.prog 22 #[.int .i64 p] w fun e w' => e = .returned (.string ⟨(digU p).toArray⟩) ∧ w' = w := by
  have := ref_num_calls (p : Int) (by omega) (by omega) w
  rwa [numU_nat] at this
theorem dig_short {p : Nat} (h : p ≤ 65535) : (digU p).length ≤ 5 := by rw [digU_len]; exact dig_len 4 p (by omega)
theorem host_short {a b c d : Nat} (h : a < 256 ∧ b < 256 ∧ c < 256 ∧ d < 256) : (hostU a b c d).length ≤ 15 := by
  have hll : ∀ n : Nat, n < 256 → (digU n).length ≤ 3 := fun n hn => by rw [digU_len]; exact dig_len 2 n (by omega)
  have := hll a h.1; have := hll b h.2.1; have := hll c h.2.2.1; have := hll d h.2.2.2
  simp only [hostU, List.length_append, List.length_cons]; omega

set_option maxHeartbeats 1000000 in
set_option maxRecDepth 100000 in
theorem portT_calls (p : Int) (w : World) : Calls Tryd.prog 13 #[.int .i64 p] w fun e w' => e = .returned (portR p) ∧ Below w.heap.size w w' := by
  by_cases h : 0 < p ∧ p ≤ 65535
  · obtain ⟨n, rfl⟩ : ∃ n : Nat, p = n := ⟨p.toNat, by omega⟩
    have HP := Aside0.mk (decide_eq_true h)
    have HN := Aside0.mk (show n ≤ 65535 from by omega)
    obtain ⟨N, hN⟩ : ∃ N : ByteArray, N = ⟨(digU n).toArray⟩ := ⟨_, rfl⟩
    have hNs : N.size ≤ 5 := by rw [hN, ← data_length]; exact dig_short HN.out
    have e1 : (ByteArray.mk #[40, 124, 124, 124]).size = 4 := rfl
    have e2 : (ByteArray.mk #[124, 41]).size = 2 := rfl
    have HE := Aside0.mk (show portR n = .tuple #[.string (⟨#[40, 124, 124, 124]⟩ ++ N ++ ⟨#[124, 41]⟩), .bool true] from by
      rw [portR, if_pos h, hN]
      have : (str (portU n)) = .string (⟨#[40, 124, 124, 124]⟩ ++ (⟨(digU n).toArray⟩ : ByteArray) ++ ⟨#[124, 41]⟩) := by
        refine congrArg Value.string ?_; apply ByteArray.ext; apply Array.ext'; simp [portU]
      rw [← this]; rfl)
    have HV := Aside0.mk hN
    clear h hN
    go_enter Tryd.func13, Tryd.ntmps13
    go_wp2_with (first
      | (go_at_call 17; refine (port_calls _ _).mono ?_; rintro e w1 ⟨rfl, hw⟩; obtain rfl := hw.symm; rw [HP.out])
      | (go_at_call 20; refine (num_callsP n HN.out _).mono ?_; rw [← HV.out]; rintro e w2 ⟨rfl, hb⟩; have HB := Aside0.mk hb; clear hb))
    go_ret2
    exact ⟨by rw [HE.out]; rfl, HB.out⟩
  · have HP := Aside0.mk (decide_eq_false h)
    have HE := Aside0.mk (show portR p = .tuple #[str [], .bool false] from if_neg h)
    clear h
    go_enter Tryd.func13, Tryd.ntmps13
    go_wp2_with (go_at_call 17; refine (port_calls _ _).mono ?_; rintro e w1 ⟨rfl, hw⟩; obtain rfl := hw.symm; rw [HP.out])
    go_ret2
    exact ⟨by rw [HE.out]; rfl, Below.refl _ _⟩

set_option maxHeartbeats 1000000 in
set_option maxRecDepth 100000 in
theorem ref_portT_calls (p : Int) (w : World) : Calls Tryd.prog 14 #[.int .i64 p] w fun e w' => e = .returned (portR p) ∧ Below w.heap.size w w' := by
  by_cases h1 : p < 1
  · have h1' := decide_eq_true h1
    have HE := Aside0.mk (show portR p = .tuple #[str [], .bool false] from if_neg (by omega))
    clear h1
    go_enter Tryd.func14, Tryd.ntmps14
    go_wp2
    go_ret2
    exact ⟨by rw [HE.out]; rfl, Below.refl _ _⟩
  · have h1' := decide_eq_false h1
    by_cases h2 : 65535 < p
    · have h2' := decide_eq_true h2
      have HE := Aside0.mk (show portR p = .tuple #[str [], .bool false] from if_neg (by omega))
      clear h1 h2
      go_enter Tryd.func14, Tryd.ntmps14
      go_wp2
      go_ret2
      exact ⟨by rw [HE.out]; rfl, Below.refl _ _⟩
    · have h2' := decide_eq_false h2
      obtain ⟨n, rfl⟩ : ∃ n : Nat, p = n := ⟨p.toNat, by omega⟩
      have HN := Aside0.mk (show n ≤ 65535 from by omega)
      obtain ⟨N, hN⟩ : ∃ N : ByteArray, N = ⟨(digU n).toArray⟩ := ⟨_, rfl⟩
      have hNs : N.size ≤ 5 := by rw [hN, ← data_length]; exact dig_short HN.out
      have e1 : (ByteArray.mk #[40, 124, 124, 124]).size = 4 := rfl
      have e2 : (ByteArray.mk #[124, 41]).size = 2 := rfl
      have HE := Aside0.mk (show portR n = .tuple #[.string (⟨#[40, 124, 124, 124]⟩ ++ N ++ ⟨#[124, 41]⟩), .bool true] from by
        rw [portR, if_pos (by omega), hN]
        have : (str (portU n)) = .string (⟨#[40, 124, 124, 124]⟩ ++ (⟨(digU n).toArray⟩ : ByteArray) ++ ⟨#[124, 41]⟩) := by
          refine congrArg Value.string ?_; apply ByteArray.ext; apply Array.ext'; simp [portU]
        rw [← this]; rfl)
      have HV := Aside0.mk hN
      clear h1 h2 hN
      go_enter Tryd.func14, Tryd.ntmps14
      go_wp2_with (go_at_call 22; refine (ref_num_callsP n HN.out _).mono ?_; rw [← HV.out]; rintro e w2 ⟨rfl, hw⟩; obtain rfl := hw.symm)
      go_ret2
      exact ⟨by rw [HE.out]; rfl, Below.refl _ _⟩
end Go.Proofs.YtfbjejkmjbknaaaDoor.Ext
