/- The walks of the chapter's laws. -/
import Derived.Test.YtdbbmcbkhjmokaaDoorQuadLaws
namespace Go.Proofs.YtdbbmcbkhjmokaaDoor.Quad
open Go Go.RowKit Go.Proofs.YtdbbmcbkhjmokaaDoorW.PrintWords Go.Proofs.YtdbbmcbkhjmokaaDoorW.PrintLast Go.Proofs.YtdbbmcbkhjmokaaDoorW.PrintMore Go.Proofs.YtdbbmcbkhjmokaaDoor.Dig
set_option linter.unusedVariables false
set_option linter.unusedSimpArgs false


/-- How many digits a number takes, as the law counts. -/
def count : Nat → Nat → Nat
  | 0, _ => 1
  | f + 1, m => if 9 < m then count f (m / 10) + 1 else 1
theorem dig_count : ∀ (f m : Nat), m < 10 ^ (f + 1) → (digU m).length = count f m
  | 0, m, h => by rw [digU_small (by simpa using h)]; rfl
  | f + 1, m, h => by
    unfold count
    split
    · rename_i h9
      rw [digU_big (by omega), List.length_append, dig_count f (m / 10) (by rw [Nat.pow_succ] at h; omega)]; rfl
    · rename_i h9
      rw [digU_small (by omega)]; rfl
theorem count_step (f m : Nat) (h : 9 < m) : count (f + 1) m = count f (m / 10) + 1 := by rw [count, if_pos h]
theorem digU_step (m : Nat) (h : 9 < m) : (digU m).length = (digU (m / 10)).length + 1 := by rw [digU_big (by omega), List.length_append]; rfl

set_option maxHeartbeats 1000000 in
set_option maxRecDepth 100000 in
theorem longs_walk (n : Int) (w : World) (hm : Mx w) :
    Calls Tryd.prog 6 #[.int .i64 n] w fun e w' => e = .returned (.bool true) ∧ Below w.heap.size w w' := by
  have HM := Aside0.mk hm
  clear hm
  have hgoes : decide (n < 0) = true ∨ (decide (n < 0) = false ∧ decide (1000000 < n) = true) ∨ (0 ≤ n ∧ n ≤ 1000000) := by
    simp only [decide_eq_true_eq, decide_eq_false_iff_not]; omega
  rcases hgoes with d1 | ⟨d1, d2⟩ | ⟨h0, h1⟩
  · go_enter Tryd.func6, Tryd.ntmps6
    go_wp2_with (go_at_call 8; refine (awake_calls _ HM.out).mono ?_; rintro e w1 ⟨rfl, hb1⟩; have HB1 := Aside0.mk hb1; clear hb1)
    go_ret
    exact ⟨rfl, HB1.out⟩
  · go_enter Tryd.func6, Tryd.ntmps6
    go_wp2_with (go_at_call 8; refine (awake_calls _ HM.out).mono ?_; rintro e w1 ⟨rfl, hb1⟩; have HB1 := Aside0.mk hb1; clear hb1)
    go_ret
    exact ⟨rfl, HB1.out⟩
  · obtain ⟨N, rfl⟩ : ∃ N : Nat, n = N := ⟨n.toNat, by omega⟩
    have d1 : decide ((N : Int) < 0) = false := decide_eq_false (by omega)
    have d2 : decide (1000000 < (N : Int)) = false := decide_eq_false (by omega)
    have d2' : decide (1000000 < N) = false := decide_eq_false (by omega)
    have HN := Aside0.mk (show N ≤ 1000000 from by omega)
    have HNum : Aside0 (strOfNums (num (N : Int)) = ⟨(digU N).toArray⟩) := ⟨by rw [numU_eq, numU_nat]⟩
    have HLN := Aside0.mk (show (⟨(digU N).toArray⟩ : ByteArray).size = (digU N).length from rfl)
    have HL7 := Aside0.mk (show (digU N).length ≤ 7 from by rw [digU_len]; exact dig_len 6 N (by omega))
    clear h0 h1
    go_enter Tryd.func6, Tryd.ntmps6
    go_wp2_with (go_at_call 8; refine (awake_calls _ HM.out).mono ?_; rintro e w1 ⟨rfl, hb1⟩; have HB1 := Aside0.mk hb1; clear hb1)
    go_loop [4, 5] (fun c_ m_ => ∃ c m : Nat, c_ = .int .i64 c ∧ m_ = .int .i64 m ∧ Aside0 (m ≤ 1000000 ∧ c + (digU m).length = (digU N).length + 1)) (fun _ m_ => (intOf m_).toNat)
    case atStart => exact ⟨1, N, rfl, rfl, ⟨HN.out, by omega⟩⟩
    case round =>
      obtain ⟨c, m, rfl, rfl, HI⟩ := hrel
      have hm6 : m ≤ 1000000 := HI.out.1
      have hc8 : c ≤ 8 := by have := HI.out.2; have := HL7.out; omega
      by_cases h9 : 9 < m
      · have h9' : decide (9 < (m : Int)) = true := decide_eq_true (by omega)
        have h9'' : decide (9 < m) = true := decide_eq_true h9
        obtain ⟨v, hv⟩ : ∃ v : Nat, v = m / 10 := ⟨_, rfl⟩
        have hq : wrap64 (Int.tdiv (m : Int) 10) = (v : Int) := by
          rw [hv, show Int.tdiv (m : Int) 10 = ((m / 10 : Nat) : Int) from rfl]; unfold wrap64; omega
        have HV := Aside0.mk (And.intro hv h9)
        have HI2 : Aside0 (v ≤ 1000000 ∧ (c + 1) + (digU v).length = (digU N).length + 1) := ⟨by omega, by have := HI.out.2; rw [digU_step m h9, ← hv] at this; omega⟩
        clear hv h9
        go_wp2
        go_round
        case rel => exact ⟨c + 1, v, by go_num, congrArg (Value.int .i64) (by have := HV.out; omega), HI2⟩
        case measure => have := HV.out; simp [intOf]; omega
      · have h9' : decide (9 < (m : Int)) = false := decide_eq_false (by omega)
        have h9'' : decide (9 < m) = false := decide_eq_false h9
        have hce : (digU N).length = c := by have := HI.out.2; rw [digU_small (by omega : m < 10)] at this; simp at this; omega
        have hcmp : (((digU N).length : Int) == (c : Int)) = true := by rw [hce]; simp
        clear h9 hce
        go_wp2_with (go_at_call 13; refine (num_calls (N : Int) (by omega) (by have := HN.out; omega) _).mono ?_; rw [HNum.out]; rintro e w2 ⟨rfl, hb2⟩; have HB2 := Aside0.mk (HB1.out.trans (hb2.mono HB1.out.size)); clear hb2)
        go_ret
        exact ⟨rfl, HB2.out⟩
end Go.Proofs.YtdbbmcbkhjmokaaDoor.Quad
