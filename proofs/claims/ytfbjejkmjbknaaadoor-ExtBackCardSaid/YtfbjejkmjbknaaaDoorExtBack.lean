/- The walk of ExtBack. -/
import Derived.Test.YtfbjejkmjbknaaaDoorExtKinds
namespace Go.Proofs.YtfbjejkmjbknaaaDoor.Ext
open Go Go.RowKit Go.Proofs.YtfbjejkmjbknaaaDoorW.PrintWords Go.Proofs.YtfbjejkmjbknaaaDoorW.PrintLast Go.Proofs.YtfbjejkmjbknaaaDoorW.PrintMore Go.Proofs.YtfbjejkmjbknaaaDoor.Dig Go.Proofs.YtfbjejkmjbknaaaDoor.Quad Go.Proofs.YtfbjejkmjbknaaaDoor.ExtP Go.Proofs.YtfbjejkmjbknaaaDoor.SixP
set_option linter.unusedVariables false
set_option linter.unusedSimpArgs false

set_option maxHeartbeats 4000000 in
set_option maxRecDepth 100000 in
theorem back_walk (a b c d : Nat) (p : Int) (u : ByteArray) (h : a < 256 ∧ b < 256 ∧ c < 256 ∧ d < 256) (w : World) (hm : Met w) :
    Calls Tryd.prog 4 #[.agg #[.int .u8 a, .int .u8 b, .int .u8 c, .int .u8 d, .int .i64 p], .string u] w fun e w' => e = .returned (.bool true) ∧ Below w.heap.size w w' := by
  have HM := Aside0.mk hm
  have HB := Aside0.mk (Below.refl w.heap.size w)
  clear hm
  by_cases hu : 100 < (u.size : Int)
  · have hu' := decide_eq_true hu
    clear hu h
    go_enter Tryd.func4, Tryd.ntmps4
    go_wp2_with (first
      | (go_at_call 8; with_reducible refine (awake_calls _ (HM.out.below (HB.out.alloc HB.out.size _))).mono ?_; rintro e v1 ⟨rfl, hb⟩; have KE := Aside0.mk (blk_below (blk_new w (.cells #[.int .u8 a, .int .u8 b, .int .u8 c, .int .u8 d, .int .i64 p] 25)) hb); replace HB := Aside0.mk ((HB.out.alloc HB.out.size _).trans (hb.mono (HB.out.alloc HB.out.size _).size)); clear hb; have kE0 : v1.cell? ⟨w.heap.size, 0, none⟩ = some (.int .u8 a) := (blk_cell KE.out 0).trans rfl; have jE0 : ∀ o, (v1.alloc o).cell? ⟨w.heap.size, 0, none⟩ = some (.int .u8 a) := fun o => (blk_cell (blk_alloc KE.out o) 0).trans rfl; have kE1 : v1.cell? ⟨w.heap.size, 1, none⟩ = some (.int .u8 b) := (blk_cell KE.out 1).trans rfl; have jE1 : ∀ o, (v1.alloc o).cell? ⟨w.heap.size, 1, none⟩ = some (.int .u8 b) := fun o => (blk_cell (blk_alloc KE.out o) 1).trans rfl; have kE2 : v1.cell? ⟨w.heap.size, 2, none⟩ = some (.int .u8 c) := (blk_cell KE.out 2).trans rfl; have jE2 : ∀ o, (v1.alloc o).cell? ⟨w.heap.size, 2, none⟩ = some (.int .u8 c) := fun o => (blk_cell (blk_alloc KE.out o) 2).trans rfl; have kE3 : v1.cell? ⟨w.heap.size, 3, none⟩ = some (.int .u8 d) := (blk_cell KE.out 3).trans rfl; have jE3 : ∀ o, (v1.alloc o).cell? ⟨w.heap.size, 3, none⟩ = some (.int .u8 d) := fun o => (blk_cell (blk_alloc KE.out o) 3).trans rfl; have kE4 : v1.cell? ⟨w.heap.size, 4, none⟩ = some (.int .i64 p) := (blk_cell KE.out 4).trans rfl; have jE4 : ∀ o, (v1.alloc o).cell? ⟨w.heap.size, 4, none⟩ = some (.int .i64 p) := fun o => (blk_cell (blk_alloc KE.out o) 4).trans rfl; have tok1 := trivial))
    go_ret
    exact ⟨rfl, HB.out⟩
  · have hu' := decide_eq_false hu
    have hu1 : u.size ≤ 100 := by omega
    clear hu
    have HL := Aside0.mk (data_length u)
    go_enter Tryd.func4, Tryd.ntmps4
    go_wp2_with (first
      | (go_at_call 8; with_reducible refine (awake_calls _ (HM.out.below (HB.out.alloc HB.out.size _))).mono ?_; rintro e v1 ⟨rfl, hb⟩; have KE := Aside0.mk (blk_below (blk_new w (.cells #[.int .u8 a, .int .u8 b, .int .u8 c, .int .u8 d, .int .i64 p] 25)) hb); replace HB := Aside0.mk ((HB.out.alloc HB.out.size _).trans (hb.mono (HB.out.alloc HB.out.size _).size)); clear hb; have kE0 : v1.cell? ⟨w.heap.size, 0, none⟩ = some (.int .u8 a) := (blk_cell KE.out 0).trans rfl; have jE0 : ∀ o, (v1.alloc o).cell? ⟨w.heap.size, 0, none⟩ = some (.int .u8 a) := fun o => (blk_cell (blk_alloc KE.out o) 0).trans rfl; have kE1 : v1.cell? ⟨w.heap.size, 1, none⟩ = some (.int .u8 b) := (blk_cell KE.out 1).trans rfl; have jE1 : ∀ o, (v1.alloc o).cell? ⟨w.heap.size, 1, none⟩ = some (.int .u8 b) := fun o => (blk_cell (blk_alloc KE.out o) 1).trans rfl; have kE2 : v1.cell? ⟨w.heap.size, 2, none⟩ = some (.int .u8 c) := (blk_cell KE.out 2).trans rfl; have jE2 : ∀ o, (v1.alloc o).cell? ⟨w.heap.size, 2, none⟩ = some (.int .u8 c) := fun o => (blk_cell (blk_alloc KE.out o) 2).trans rfl; have kE3 : v1.cell? ⟨w.heap.size, 3, none⟩ = some (.int .u8 d) := (blk_cell KE.out 3).trans rfl; have jE3 : ∀ o, (v1.alloc o).cell? ⟨w.heap.size, 3, none⟩ = some (.int .u8 d) := fun o => (blk_cell (blk_alloc KE.out o) 3).trans rfl; have kE4 : v1.cell? ⟨w.heap.size, 4, none⟩ = some (.int .i64 p) := (blk_cell KE.out 4).trans rfl; have jE4 : ∀ o, (v1.alloc o).cell? ⟨w.heap.size, 4, none⟩ = some (.int .i64 p) := fun o => (blk_cell (blk_alloc KE.out o) 4).trans rfl; have tok1 := trivial))
    go_loop [6] (fun i_ => ∃ k : Nat, k ≤ u.size ∧ i_ = .int .i64 k ∧ Aside0 (40 ∉ u.data.toList.take k)) (fun i_ => u.size - (intOf i_).toNat)
    case atStart => exact ⟨0, Nat.zero_le _, rfl, ⟨by simp⟩⟩
    case round =>
      obtain ⟨k, hk, rfl, HA⟩ := hrel
      by_cases hlt : k < u.size
      · have hk6 : k < 1000000 := by omega
        have hk' : k < u.data.toList.length := by rw [HL.out]; exact hlt
        obtain ⟨c_, hc⟩ : ∃ c_, c_ = u.data.toList[k] := ⟨_, rfl⟩
        obtain ⟨x, hx⟩ : ∃ x : Nat, x = c_.toNat := ⟨_, rfl⟩
        have hckc : ∀ h : k < u.size, ((u[k]'h).toNat : Int) = (x : Int) := fun h => by rw [hx, hc, ← bt_byte u k hk']; exact bt_at u k h
        by_cases h40 : c_ = 40
        · have hcmp : ((x : Int) == 40) = true := by rw [hx, h40]; rfl
          clear hc hx h40 hk'
          go_wp2
          go_ret
          exact ⟨rfl, HB.out⟩
        · have hcmp : ((x : Int) == 40) = false := by
            refine beq_eq_false_iff_ne.2 fun e => h40 (UInt8.toNat_inj.1 ?_)
            rw [← hx]; have e2 : (40 : UInt8).toNat = 40 := rfl
            omega
          have HA2 := Aside0.mk (show 40 ∉ u.data.toList.take (k + 1) from by
            rw [List.take_succ_eq_append_getElem hk', List.mem_append, List.mem_singleton, ← hc]
            exact fun h => h.elim HA.out (fun e => h40 e.symm))
          clear hc hx h40 hk'
          go_wp2
          go_round
          case rel => exact ⟨k + 1, by omega, by go_num, HA2⟩
          case measure => simp [intOf]; omega
      · obtain rfl : k = u.size := by omega
        have hno : 40 ∉ u.data.toList := by
          have := HA.out; rwa [List.take_of_length_le (by rw [HL.out]; exact Nat.le_refl _)] at this
        have e1 : (ByteArray.mk #[46]).size = 1 := rfl
        rcases text_goes (p := p) h with ⟨n, s, rfl, n0, n1, ht, hts⟩ | ⟨hbad, ht⟩
        · rcases port_goes (n : Int) with ⟨n', t, hnn, _, _, hpt, hpl⟩ | ⟨hbad, _⟩
          rotate_left
          · omega
          obtain rfl : n' = n := by omega
          have HT := Aside0.mk ht
          have HP := Aside0.mk hpt
          have hs60 : s.size ≤ 100 := by
            rw [← data_length s, hts, endU]
            have h1 := host_short ht.1; have h2 := dig_short n1
            simp only [Cut.jn, List.length_append, List.length_cons, List.length_nil]; omega
          have ht60 : t.size ≤ 100 := by
            rw [← data_length t, hpl, portU]
            have h2 := dig_short n1
            simp only [List.length_append, List.length_cons, List.length_nil]; omega
          have HR := Aside0.mk (show EndIs s a b c d n' 0 from ⟨by omega, by rw [hts, read_end (by omega) (by omega) (by omega) (by omega) n0 n1]; rfl⟩)
          have HF := Aside0.mk (show FindIs (u ++ t ++ ⟨#[46]⟩) n' true from ⟨by simp only [ByteArray.size_append, e1]; omega, by
            rw [show (u ++ t ++ ⟨#[46]⟩ : ByteArray).data.toList = u.data.toList ++ (t.data.toList ++ [46]) from by simp, hpl, find_port hno n0 n1]; rfl⟩)
          have hq := eq_same a b c d n'
          clear h ht hts hno hnn hpt hpl n0 n1
          go_wp2_with (first
            | (go_at_call 9; clear kE0 jE0; clear kE1 jE1; clear kE2 jE2; clear kE3 jE3; clear kE4 jE4; with_reducible refine (HT.out.calls _).mono ?_; rintro e u1 ⟨rfl, hb⟩; replace KE := Aside0.mk (blk_below KE.out hb); replace HB := Aside0.mk (HB.out.trans (hb.mono HB.out.size)); clear hb; have kE0 : u1.cell? ⟨w.heap.size, 0, none⟩ = some (.int .u8 a) := (blk_cell KE.out 0).trans rfl; have jE0 : ∀ o, (u1.alloc o).cell? ⟨w.heap.size, 0, none⟩ = some (.int .u8 a) := fun o => (blk_cell (blk_alloc KE.out o) 0).trans rfl; have kE1 : u1.cell? ⟨w.heap.size, 1, none⟩ = some (.int .u8 b) := (blk_cell KE.out 1).trans rfl; have jE1 : ∀ o, (u1.alloc o).cell? ⟨w.heap.size, 1, none⟩ = some (.int .u8 b) := fun o => (blk_cell (blk_alloc KE.out o) 1).trans rfl; have kE2 : u1.cell? ⟨w.heap.size, 2, none⟩ = some (.int .u8 c) := (blk_cell KE.out 2).trans rfl; have jE2 : ∀ o, (u1.alloc o).cell? ⟨w.heap.size, 2, none⟩ = some (.int .u8 c) := fun o => (blk_cell (blk_alloc KE.out o) 2).trans rfl; have kE3 : u1.cell? ⟨w.heap.size, 3, none⟩ = some (.int .u8 d) := (blk_cell KE.out 3).trans rfl; have jE3 : ∀ o, (u1.alloc o).cell? ⟨w.heap.size, 3, none⟩ = some (.int .u8 d) := fun o => (blk_cell (blk_alloc KE.out o) 3).trans rfl; have kE4 : u1.cell? ⟨w.heap.size, 4, none⟩ = some (.int .i64 n') := (blk_cell KE.out 4).trans rfl; have jE4 : ∀ o, (u1.alloc o).cell? ⟨w.heap.size, 4, none⟩ = some (.int .i64 n') := fun o => (blk_cell (blk_alloc KE.out o) 4).trans rfl; have tok2 := trivial)
            | (go_at_call 13; clear kE0 jE0; clear kE1 jE1; clear kE2 jE2; clear kE3 jE3; clear kE4 jE4; with_reducible refine (HP.out.calls _).mono ?_; rintro e u2 ⟨rfl, hb⟩; replace KE := Aside0.mk (blk_below KE.out hb); replace HB := Aside0.mk (HB.out.trans (hb.mono HB.out.size)); clear hb; have kE0 : u2.cell? ⟨w.heap.size, 0, none⟩ = some (.int .u8 a) := (blk_cell KE.out 0).trans rfl; have jE0 : ∀ o, (u2.alloc o).cell? ⟨w.heap.size, 0, none⟩ = some (.int .u8 a) := fun o => (blk_cell (blk_alloc KE.out o) 0).trans rfl; have kE1 : u2.cell? ⟨w.heap.size, 1, none⟩ = some (.int .u8 b) := (blk_cell KE.out 1).trans rfl; have jE1 : ∀ o, (u2.alloc o).cell? ⟨w.heap.size, 1, none⟩ = some (.int .u8 b) := fun o => (blk_cell (blk_alloc KE.out o) 1).trans rfl; have kE2 : u2.cell? ⟨w.heap.size, 2, none⟩ = some (.int .u8 c) := (blk_cell KE.out 2).trans rfl; have jE2 : ∀ o, (u2.alloc o).cell? ⟨w.heap.size, 2, none⟩ = some (.int .u8 c) := fun o => (blk_cell (blk_alloc KE.out o) 2).trans rfl; have kE3 : u2.cell? ⟨w.heap.size, 3, none⟩ = some (.int .u8 d) := (blk_cell KE.out 3).trans rfl; have jE3 : ∀ o, (u2.alloc o).cell? ⟨w.heap.size, 3, none⟩ = some (.int .u8 d) := fun o => (blk_cell (blk_alloc KE.out o) 3).trans rfl; have kE4 : u2.cell? ⟨w.heap.size, 4, none⟩ = some (.int .i64 n') := (blk_cell KE.out 4).trans rfl; have jE4 : ∀ o, (u2.alloc o).cell? ⟨w.heap.size, 4, none⟩ = some (.int .i64 n') := fun o => (blk_cell (blk_alloc KE.out o) 4).trans rfl; have tok3 := trivial)
            | (go_at_call 11; clear kE0 jE0; clear kE1 jE1; clear kE2 jE2; clear kE3 jE3; clear kE4 jE4; with_reducible refine (HR.out.calls (HM.out.below HB.out)).mono ?_; rintro e u3 ⟨rfl, hb⟩; replace KE := Aside0.mk (blk_below KE.out hb); replace HB := Aside0.mk (HB.out.trans (hb.mono HB.out.size)); clear hb; have kE0 : u3.cell? ⟨w.heap.size, 0, none⟩ = some (.int .u8 a) := (blk_cell KE.out 0).trans rfl; have jE0 : ∀ o, (u3.alloc o).cell? ⟨w.heap.size, 0, none⟩ = some (.int .u8 a) := fun o => (blk_cell (blk_alloc KE.out o) 0).trans rfl; have kE1 : u3.cell? ⟨w.heap.size, 1, none⟩ = some (.int .u8 b) := (blk_cell KE.out 1).trans rfl; have jE1 : ∀ o, (u3.alloc o).cell? ⟨w.heap.size, 1, none⟩ = some (.int .u8 b) := fun o => (blk_cell (blk_alloc KE.out o) 1).trans rfl; have kE2 : u3.cell? ⟨w.heap.size, 2, none⟩ = some (.int .u8 c) := (blk_cell KE.out 2).trans rfl; have jE2 : ∀ o, (u3.alloc o).cell? ⟨w.heap.size, 2, none⟩ = some (.int .u8 c) := fun o => (blk_cell (blk_alloc KE.out o) 2).trans rfl; have kE3 : u3.cell? ⟨w.heap.size, 3, none⟩ = some (.int .u8 d) := (blk_cell KE.out 3).trans rfl; have jE3 : ∀ o, (u3.alloc o).cell? ⟨w.heap.size, 3, none⟩ = some (.int .u8 d) := fun o => (blk_cell (blk_alloc KE.out o) 3).trans rfl; have kE4 : u3.cell? ⟨w.heap.size, 4, none⟩ = some (.int .i64 n') := (blk_cell KE.out 4).trans rfl; have jE4 : ∀ o, (u3.alloc o).cell? ⟨w.heap.size, 4, none⟩ = some (.int .i64 n') := fun o => (blk_cell (blk_alloc KE.out o) 4).trans rfl; have tok4 := trivial)
            | (go_at_call 15; clear kE0 jE0; clear kE1 jE1; clear kE2 jE2; clear kE3 jE3; clear kE4 jE4; with_reducible refine (HF.out.calls (HM.out.below (HB.out.alloc HB.out.size _))).mono ?_; rintro e u4 ⟨rfl, hb⟩; replace KE := Aside0.mk (blk_below (blk_alloc KE.out _) hb); have KF := Aside0.mk (blk_below (blk_new u3 (.cells #[.int .u8 a, .int .u8 b, .int .u8 c, .int .u8 d, .int .i64 n'] 25)) hb); replace HB := Aside0.mk ((HB.out.alloc HB.out.size _).trans (hb.mono (HB.out.alloc HB.out.size _).size)); clear hb; have kE0 : u4.cell? ⟨w.heap.size, 0, none⟩ = some (.int .u8 a) := (blk_cell KE.out 0).trans rfl; have jE0 : ∀ o, (u4.alloc o).cell? ⟨w.heap.size, 0, none⟩ = some (.int .u8 a) := fun o => (blk_cell (blk_alloc KE.out o) 0).trans rfl; have kE1 : u4.cell? ⟨w.heap.size, 1, none⟩ = some (.int .u8 b) := (blk_cell KE.out 1).trans rfl; have jE1 : ∀ o, (u4.alloc o).cell? ⟨w.heap.size, 1, none⟩ = some (.int .u8 b) := fun o => (blk_cell (blk_alloc KE.out o) 1).trans rfl; have kE2 : u4.cell? ⟨w.heap.size, 2, none⟩ = some (.int .u8 c) := (blk_cell KE.out 2).trans rfl; have jE2 : ∀ o, (u4.alloc o).cell? ⟨w.heap.size, 2, none⟩ = some (.int .u8 c) := fun o => (blk_cell (blk_alloc KE.out o) 2).trans rfl; have kE3 : u4.cell? ⟨w.heap.size, 3, none⟩ = some (.int .u8 d) := (blk_cell KE.out 3).trans rfl; have jE3 : ∀ o, (u4.alloc o).cell? ⟨w.heap.size, 3, none⟩ = some (.int .u8 d) := fun o => (blk_cell (blk_alloc KE.out o) 3).trans rfl; have kE4 : u4.cell? ⟨w.heap.size, 4, none⟩ = some (.int .i64 n') := (blk_cell KE.out 4).trans rfl; have jE4 : ∀ o, (u4.alloc o).cell? ⟨w.heap.size, 4, none⟩ = some (.int .i64 n') := fun o => (blk_cell (blk_alloc KE.out o) 4).trans rfl; have kF0 : u4.cell? ⟨u3.heap.size, 0, none⟩ = some (.int .u8 a) := (blk_cell KF.out 0).trans rfl; have jF0 : ∀ o, (u4.alloc o).cell? ⟨u3.heap.size, 0, none⟩ = some (.int .u8 a) := fun o => (blk_cell (blk_alloc KF.out o) 0).trans rfl; have kF1 : u4.cell? ⟨u3.heap.size, 1, none⟩ = some (.int .u8 b) := (blk_cell KF.out 1).trans rfl; have jF1 : ∀ o, (u4.alloc o).cell? ⟨u3.heap.size, 1, none⟩ = some (.int .u8 b) := fun o => (blk_cell (blk_alloc KF.out o) 1).trans rfl; have kF2 : u4.cell? ⟨u3.heap.size, 2, none⟩ = some (.int .u8 c) := (blk_cell KF.out 2).trans rfl; have jF2 : ∀ o, (u4.alloc o).cell? ⟨u3.heap.size, 2, none⟩ = some (.int .u8 c) := fun o => (blk_cell (blk_alloc KF.out o) 2).trans rfl; have kF3 : u4.cell? ⟨u3.heap.size, 3, none⟩ = some (.int .u8 d) := (blk_cell KF.out 3).trans rfl; have jF3 : ∀ o, (u4.alloc o).cell? ⟨u3.heap.size, 3, none⟩ = some (.int .u8 d) := fun o => (blk_cell (blk_alloc KF.out o) 3).trans rfl; have kF4 : u4.cell? ⟨u3.heap.size, 4, none⟩ = some (.int .i64 n') := (blk_cell KF.out 4).trans rfl; have jF4 : ∀ o, (u4.alloc o).cell? ⟨u3.heap.size, 4, none⟩ = some (.int .i64 n') := fun o => (blk_cell (blk_alloc KF.out o) 4).trans rfl; have tok5 := trivial))
          go_ret
          exact ⟨rfl, HB.out⟩
        · rcases port_goes p with ⟨n', t, hnn, _, _, hpt, hpl⟩ | ⟨_, hpt⟩
          · omega
          have HT := Aside0.mk ht
          have HP := Aside0.mk hpt
          have hneg : decide (p < 1) = true ∨ (decide (p < 1) = false ∧ decide (65535 < p) = true) := by
            simp only [decide_eq_true_eq, decide_eq_false_iff_not]; omega
          clear h ht hpt hbad hno
          rcases hneg with g1 | ⟨g1, g2⟩
          all_goals
            go_wp2_with (first
              | (go_at_call 9; clear kE0 jE0; clear kE1 jE1; clear kE2 jE2; clear kE3 jE3; clear kE4 jE4; with_reducible refine (HT.out.calls _).mono ?_; rintro e u1 ⟨rfl, hb⟩; replace KE := Aside0.mk (blk_below KE.out hb); replace HB := Aside0.mk (HB.out.trans (hb.mono HB.out.size)); clear hb; have kE0 : u1.cell? ⟨w.heap.size, 0, none⟩ = some (.int .u8 a) := (blk_cell KE.out 0).trans rfl; have jE0 : ∀ o, (u1.alloc o).cell? ⟨w.heap.size, 0, none⟩ = some (.int .u8 a) := fun o => (blk_cell (blk_alloc KE.out o) 0).trans rfl; have kE1 : u1.cell? ⟨w.heap.size, 1, none⟩ = some (.int .u8 b) := (blk_cell KE.out 1).trans rfl; have jE1 : ∀ o, (u1.alloc o).cell? ⟨w.heap.size, 1, none⟩ = some (.int .u8 b) := fun o => (blk_cell (blk_alloc KE.out o) 1).trans rfl; have kE2 : u1.cell? ⟨w.heap.size, 2, none⟩ = some (.int .u8 c) := (blk_cell KE.out 2).trans rfl; have jE2 : ∀ o, (u1.alloc o).cell? ⟨w.heap.size, 2, none⟩ = some (.int .u8 c) := fun o => (blk_cell (blk_alloc KE.out o) 2).trans rfl; have kE3 : u1.cell? ⟨w.heap.size, 3, none⟩ = some (.int .u8 d) := (blk_cell KE.out 3).trans rfl; have jE3 : ∀ o, (u1.alloc o).cell? ⟨w.heap.size, 3, none⟩ = some (.int .u8 d) := fun o => (blk_cell (blk_alloc KE.out o) 3).trans rfl; have kE4 : u1.cell? ⟨w.heap.size, 4, none⟩ = some (.int .i64 p) := (blk_cell KE.out 4).trans rfl; have jE4 : ∀ o, (u1.alloc o).cell? ⟨w.heap.size, 4, none⟩ = some (.int .i64 p) := fun o => (blk_cell (blk_alloc KE.out o) 4).trans rfl; have tok2 := trivial)
              | (go_at_call 13; clear kE0 jE0; clear kE1 jE1; clear kE2 jE2; clear kE3 jE3; clear kE4 jE4; with_reducible refine (HP.out.calls _).mono ?_; rintro e u2 ⟨rfl, hb⟩; replace KE := Aside0.mk (blk_below KE.out hb); replace HB := Aside0.mk (HB.out.trans (hb.mono HB.out.size)); clear hb; have kE0 : u2.cell? ⟨w.heap.size, 0, none⟩ = some (.int .u8 a) := (blk_cell KE.out 0).trans rfl; have jE0 : ∀ o, (u2.alloc o).cell? ⟨w.heap.size, 0, none⟩ = some (.int .u8 a) := fun o => (blk_cell (blk_alloc KE.out o) 0).trans rfl; have kE1 : u2.cell? ⟨w.heap.size, 1, none⟩ = some (.int .u8 b) := (blk_cell KE.out 1).trans rfl; have jE1 : ∀ o, (u2.alloc o).cell? ⟨w.heap.size, 1, none⟩ = some (.int .u8 b) := fun o => (blk_cell (blk_alloc KE.out o) 1).trans rfl; have kE2 : u2.cell? ⟨w.heap.size, 2, none⟩ = some (.int .u8 c) := (blk_cell KE.out 2).trans rfl; have jE2 : ∀ o, (u2.alloc o).cell? ⟨w.heap.size, 2, none⟩ = some (.int .u8 c) := fun o => (blk_cell (blk_alloc KE.out o) 2).trans rfl; have kE3 : u2.cell? ⟨w.heap.size, 3, none⟩ = some (.int .u8 d) := (blk_cell KE.out 3).trans rfl; have jE3 : ∀ o, (u2.alloc o).cell? ⟨w.heap.size, 3, none⟩ = some (.int .u8 d) := fun o => (blk_cell (blk_alloc KE.out o) 3).trans rfl; have kE4 : u2.cell? ⟨w.heap.size, 4, none⟩ = some (.int .i64 p) := (blk_cell KE.out 4).trans rfl; have jE4 : ∀ o, (u2.alloc o).cell? ⟨w.heap.size, 4, none⟩ = some (.int .i64 p) := fun o => (blk_cell (blk_alloc KE.out o) 4).trans rfl; have tok3 := trivial))
            go_ret
            exact ⟨rfl, HB.out⟩
end Go.Proofs.YtfbjejkmjbknaaaDoor.Ext
