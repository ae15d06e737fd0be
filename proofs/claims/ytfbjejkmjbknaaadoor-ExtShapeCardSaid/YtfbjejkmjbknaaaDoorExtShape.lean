/- The walk of ExtShape. -/
import Derived.Test.YtfbjejkmjbknaaaDoorExtKinds
namespace Go.Proofs.YtfbjejkmjbknaaaDoor.Ext
open Go Go.RowKit Go.Proofs.YtfbjejkmjbknaaaDoorW.PrintWords Go.Proofs.YtfbjejkmjbknaaaDoorW.PrintLast Go.Proofs.YtfbjejkmjbknaaaDoorW.PrintMore Go.Proofs.YtfbjejkmjbknaaaDoor.Dig Go.Proofs.YtfbjejkmjbknaaaDoor.Quad Go.Proofs.YtfbjejkmjbknaaaDoor.ExtP Go.Proofs.YtfbjejkmjbknaaaDoor.SixP
set_option linter.unusedVariables false
set_option linter.unusedSimpArgs false

theorem end_tail (a b c d k : Nat) : ∃ l, endU a b c d k = 124 :: 49 :: 124 :: (l ++ [124]) := ⟨hostU a b c d ++ 124 :: digU k, by rw [end_head]; simp⟩
theorem port_tail (k : Nat) (h : k ≤ 65535) : ∃ l, portU k = 40 :: 124 :: 124 :: 124 :: (l ++ [124, 41]) ∧ l.length ≤ 5 := ⟨digU k, rfl, dig_short h⟩
theorem wrap_small (n : Nat) (h : n < 1000000) : wrap64 (n : Int) = (n : Int) := by unfold wrap64; omega
theorem count_next {l : List UInt8} {c : UInt8} {k : Nat} (hk : k < l.length) : (l.take (k + 1)).count c = (l.take k).count c + if l[k] = c then 1 else 0 := by
  rw [List.take_succ_eq_append_getElem hk, List.count_append, List.count_singleton]
  simp

set_option maxHeartbeats 4000000 in
set_option maxRecDepth 100000 in
theorem shape_walk (a b c d : Nat) (p : Int) (h : a < 256 ∧ b < 256 ∧ c < 256 ∧ d < 256) (w : World) (hm : Met w) :
    Calls Tryd.prog 6 #[.agg #[.int .u8 a, .int .u8 b, .int .u8 c, .int .u8 d, .int .i64 p]] w fun e w' => e = .returned (.bool true) ∧ Below w.heap.size w w' := by
  have HM := Aside0.mk hm
  have HB := Aside0.mk (Below.refl w.heap.size w)
  clear hm
  rcases text_goes (p := p) h with ⟨k, s, rfl, k0, k1, ht, htl⟩ | ⟨hp, ht⟩
  · rcases port_goes (k : Int) with ⟨k', t, hkk, _, _, hpt, hpl⟩ | ⟨hbad, _⟩
    rotate_left
    · omega
    obtain rfl : k' = k := by omega
    have HT := Aside0.mk ht
    have HP := Aside0.mk hpt
    obtain ⟨l1, hl1⟩ := end_tail a b c d k'
    obtain ⟨l2, hl2, hl5⟩ := port_tail k' k1
    have hsz := data_length s
    have htz := data_length t
    have hcount := end_count a b c d k'
    have hs60 : s.size ≤ 100 := by
      rw [← hsz, htl, endU]
      have h1 := host_short ht.1; have h2 := dig_short k1
      simp only [Cut.jn, List.length_append, List.length_cons, List.length_nil]; omega
    rw [← htl] at hcount
    rw [hl1] at htl
    rw [hl2] at hpl
    have hsn : s.size = l1.length + 3 + 1 := by rw [← hsz, htl]; simp
    have htn : t.size = l2.length + 4 + 2 := by rw [← htz, hpl]; simp
    obtain ⟨M, hM⟩ : ∃ M, M = l1.length + 3 := ⟨_, rfl⟩
    obtain ⟨Q, hQ⟩ : ∃ Q, Q = l2.length + 4 := ⟨_, rfl⟩
    have h3 : ∀ W, (Instr.slice 9 (.string s) none (some (.int .i64 3)) none).run Tryd.prog W = .ok (.string ⟨#[124, 49, 124]⟩) W := fun W => by
      have := slice_to s 3 (by omega) W
      rw [htl] at this; exact this
    have h4 : ∀ W, (Instr.slice 9 (.string t) none (some (.int .i64 4)) none).run Tryd.prog W = .ok (.string ⟨#[40, 124, 124, 124]⟩) W := fun W => by
      have := slice_to t 4 (by omega) W
      rw [hpl] at this; exact this
    have hdQ : t.data.toList.drop Q = [124, 41] := by
      rw [hpl, hQ, show (40 :: 124 :: 124 :: 124 :: (l2 ++ [124, 41]) : List UInt8) = (40 :: 124 :: 124 :: 124 :: l2) ++ [124, 41] from rfl]
      exact List.drop_left' (by simp)
    have h5 : ∀ W, (Instr.slice 9 (.string t) (some (.int .i64 (Q : Int))) none none).run Tryd.prog W = .ok (.string ⟨#[124, 41]⟩) W := fun W => by
      have := slice_f t Q (by omega) W
      rw [hdQ] at this; exact this
    have h6 : ∀ h : M < s.size, ((s[M]'h).toNat : Int) = 124 := fun h => by
      have e := bt_byte s M (by rw [hsz]; exact h)
      have e2 : s.data.toList[M]'(by rw [hsz]; exact h) = 124 := by
        simp only [htl, hM, show (124 :: 49 :: 124 :: (l1 ++ [124]) : List UInt8) = (124 :: 49 :: 124 :: l1) ++ [124] from rfl]
        rw [List.getElem_append_right (by simp)]
        simp
      rw [e2] at e
      have := bt_at s (M : Int) h
      exact this.trans e
    have hsM : s.size = M + 1 := by omega
    have htQ : t.size = Q + 2 := by omega
    have HC := Aside0.mk (And.intro hcount hsz)
    have hM9 : M < 1000 := by omega
    have hwQ : wrap64 (Q : Int) = (Q : Int) := wrap_small Q (by omega)
    have hex : t.extract Q (Q + 2) = ⟨#[124, 41]⟩ := by
      rw [← htQ, piece_of t Q t.size (Nat.le_refl _), List.take_of_length_le (by rw [htz]; exact Nat.le_refl _), hdQ]
    clear h ht htl k0 k1 hkk hpt hpl hl1 hl2 hl5 hdQ hsz htz hcount hsn htn hM hQ hs60
    have HSZ := Aside0.mk hsM
    clear hsM
    go_enter Tryd.func6, Tryd.ntmps6
    go_wp2_with (first
      | (go_at_call 8; with_reducible refine (awake_calls _ (HM.out.below (HB.out.alloc HB.out.size _))).mono ?_; rintro e v1 ⟨rfl, hb⟩; have KE := Aside0.mk (blk_below (blk_new w (.cells #[.int .u8 a, .int .u8 b, .int .u8 c, .int .u8 d, .int .i64 k'] 25)) hb); replace HB := Aside0.mk ((HB.out.alloc HB.out.size _).trans (hb.mono (HB.out.alloc HB.out.size _).size)); clear hb; have kE0 : v1.cell? ⟨w.heap.size, 0, none⟩ = some (.int .u8 a) := (blk_cell KE.out 0).trans rfl; have jE0 : ∀ o, (v1.alloc o).cell? ⟨w.heap.size, 0, none⟩ = some (.int .u8 a) := fun o => (blk_cell (blk_alloc KE.out o) 0).trans rfl; have kE1 : v1.cell? ⟨w.heap.size, 1, none⟩ = some (.int .u8 b) := (blk_cell KE.out 1).trans rfl; have jE1 : ∀ o, (v1.alloc o).cell? ⟨w.heap.size, 1, none⟩ = some (.int .u8 b) := fun o => (blk_cell (blk_alloc KE.out o) 1).trans rfl; have kE2 : v1.cell? ⟨w.heap.size, 2, none⟩ = some (.int .u8 c) := (blk_cell KE.out 2).trans rfl; have jE2 : ∀ o, (v1.alloc o).cell? ⟨w.heap.size, 2, none⟩ = some (.int .u8 c) := fun o => (blk_cell (blk_alloc KE.out o) 2).trans rfl; have kE3 : v1.cell? ⟨w.heap.size, 3, none⟩ = some (.int .u8 d) := (blk_cell KE.out 3).trans rfl; have jE3 : ∀ o, (v1.alloc o).cell? ⟨w.heap.size, 3, none⟩ = some (.int .u8 d) := fun o => (blk_cell (blk_alloc KE.out o) 3).trans rfl; have kE4 : v1.cell? ⟨w.heap.size, 4, none⟩ = some (.int .i64 k') := (blk_cell KE.out 4).trans rfl; have jE4 : ∀ o, (v1.alloc o).cell? ⟨w.heap.size, 4, none⟩ = some (.int .i64 k') := fun o => (blk_cell (blk_alloc KE.out o) 4).trans rfl; have tok1 := trivial)
      | (go_at_call 9; clear kE0 jE0; clear kE1 jE1; clear kE2 jE2; clear kE3 jE3; clear kE4 jE4; with_reducible refine (HT.out.calls _).mono ?_; rintro e v2 ⟨rfl, hb⟩; replace KE := Aside0.mk (blk_below KE.out hb); replace HB := Aside0.mk (HB.out.trans (hb.mono HB.out.size)); clear hb; have kE0 : v2.cell? ⟨w.heap.size, 0, none⟩ = some (.int .u8 a) := (blk_cell KE.out 0).trans rfl; have jE0 : ∀ o, (v2.alloc o).cell? ⟨w.heap.size, 0, none⟩ = some (.int .u8 a) := fun o => (blk_cell (blk_alloc KE.out o) 0).trans rfl; have kE1 : v2.cell? ⟨w.heap.size, 1, none⟩ = some (.int .u8 b) := (blk_cell KE.out 1).trans rfl; have jE1 : ∀ o, (v2.alloc o).cell? ⟨w.heap.size, 1, none⟩ = some (.int .u8 b) := fun o => (blk_cell (blk_alloc KE.out o) 1).trans rfl; have kE2 : v2.cell? ⟨w.heap.size, 2, none⟩ = some (.int .u8 c) := (blk_cell KE.out 2).trans rfl; have jE2 : ∀ o, (v2.alloc o).cell? ⟨w.heap.size, 2, none⟩ = some (.int .u8 c) := fun o => (blk_cell (blk_alloc KE.out o) 2).trans rfl; have kE3 : v2.cell? ⟨w.heap.size, 3, none⟩ = some (.int .u8 d) := (blk_cell KE.out 3).trans rfl; have jE3 : ∀ o, (v2.alloc o).cell? ⟨w.heap.size, 3, none⟩ = some (.int .u8 d) := fun o => (blk_cell (blk_alloc KE.out o) 3).trans rfl; have kE4 : v2.cell? ⟨w.heap.size, 4, none⟩ = some (.int .i64 k') := (blk_cell KE.out 4).trans rfl; have jE4 : ∀ o, (v2.alloc o).cell? ⟨w.heap.size, 4, none⟩ = some (.int .i64 k') := fun o => (blk_cell (blk_alloc KE.out o) 4).trans rfl; have tok2 := trivial)
      | (go_at_call 13; clear kE0 jE0; clear kE1 jE1; clear kE2 jE2; clear kE3 jE3; clear kE4 jE4; with_reducible refine (HP.out.calls _).mono ?_; rintro e v3 ⟨rfl, hb⟩; replace KE := Aside0.mk (blk_below KE.out hb); replace HB := Aside0.mk (HB.out.trans (hb.mono HB.out.size)); clear hb; have kE0 : v3.cell? ⟨w.heap.size, 0, none⟩ = some (.int .u8 a) := (blk_cell KE.out 0).trans rfl; have jE0 : ∀ o, (v3.alloc o).cell? ⟨w.heap.size, 0, none⟩ = some (.int .u8 a) := fun o => (blk_cell (blk_alloc KE.out o) 0).trans rfl; have kE1 : v3.cell? ⟨w.heap.size, 1, none⟩ = some (.int .u8 b) := (blk_cell KE.out 1).trans rfl; have jE1 : ∀ o, (v3.alloc o).cell? ⟨w.heap.size, 1, none⟩ = some (.int .u8 b) := fun o => (blk_cell (blk_alloc KE.out o) 1).trans rfl; have kE2 : v3.cell? ⟨w.heap.size, 2, none⟩ = some (.int .u8 c) := (blk_cell KE.out 2).trans rfl; have jE2 : ∀ o, (v3.alloc o).cell? ⟨w.heap.size, 2, none⟩ = some (.int .u8 c) := fun o => (blk_cell (blk_alloc KE.out o) 2).trans rfl; have kE3 : v3.cell? ⟨w.heap.size, 3, none⟩ = some (.int .u8 d) := (blk_cell KE.out 3).trans rfl; have jE3 : ∀ o, (v3.alloc o).cell? ⟨w.heap.size, 3, none⟩ = some (.int .u8 d) := fun o => (blk_cell (blk_alloc KE.out o) 3).trans rfl; have kE4 : v3.cell? ⟨w.heap.size, 4, none⟩ = some (.int .i64 k') := (blk_cell KE.out 4).trans rfl; have jE4 : ∀ o, (v3.alloc o).cell? ⟨w.heap.size, 4, none⟩ = some (.int .i64 k') := fun o => (blk_cell (blk_alloc KE.out o) 4).trans rfl; have tok3 := trivial))
    go_loop [8, 9] (fun m_ i_ => ∃ j : Nat, j ≤ s.size ∧ i_ = .int .i64 j ∧ m_ = .int .i64 ((s.data.toList.take j).count 124 : Nat)) (fun _ i_ => s.size - (intOf i_).toNat)
    case atStart => exact ⟨0, Nat.zero_le _, rfl, by simp⟩
    case round =>
      obtain ⟨j, hj, rfl, rfl⟩ := hrel
      obtain ⟨m, hm⟩ : ∃ m, m = (s.data.toList.take j).count 124 := ⟨_, rfl⟩
      rw [← hm]
      have hm9 : m ≤ j := by rw [hm]; exact Nat.le_trans (List.count_le_length) (by rw [List.length_take]; omega)
      have HMM := Aside0.mk hm
      clear hm
      have HJ := Aside0.mk hj
      have hs9 : s.size ≤ 1001 := by have := HSZ.out; omega
      by_cases hlt : j < s.size
      · have hj' : j < s.data.toList.length := by rw [HC.out.2]; exact hlt
        obtain ⟨c', hc⟩ : ∃ c, c = s.data.toList[j] := ⟨_, rfl⟩
        obtain ⟨y, hy⟩ : ∃ y : Nat, y = c'.toNat := ⟨_, rfl⟩
        have hckc : ∀ h : j < s.size, ((s[j]'h).toNat : Int) = (y : Int) := fun h => by rw [hy, hc, ← bt_byte s j hj']; exact bt_at s j h
        have HN := Aside0.mk (count_next (c := 124) hj')
        rw [← hc, ← HMM.out] at HN
        clear h6
        by_cases h24 : c' = 124
        · have hcmp : ((y : Int) == 124) = true := by rw [hy, h24]; rfl
          rw [if_pos h24] at HN
          clear hc hy h24 hj'
          go_wp2
          go_round
          case rel => exact ⟨j + 1, by omega, by go_num, by rw [HN.out]; go_num⟩
          case measure => simp [intOf]; omega
        · have hcmp : ((y : Int) == 124) = false := by
            refine beq_eq_false_iff_ne.2 fun e => h24 (UInt8.toNat_inj.1 ?_)
            rw [← hy]; have e2 : (124 : UInt8).toNat = 124 := rfl
            omega
          rw [if_neg h24] at HN
          clear hc hy h24 hj'
          go_wp2
          go_round
          case rel => exact ⟨j + 1, by omega, by go_num, by rw [HN.out]; rfl⟩
          case measure => simp [intOf]; omega
      · obtain rfl : j = s.size := by omega
        have hm4 : m = 4 := by
          rw [HMM.out, List.take_of_length_le (by rw [HC.out.2]; exact Nat.le_refl _)]; exact HC.out.1
        have hsM := HSZ.out
        clear hs9 hm9 hj
        subst hm4
        go_wp2
        go_ret
        exact ⟨rfl, HB.out⟩
  · have HT := Aside0.mk ht
    rcases port_goes p with ⟨k', t, hkk, _, _, hpt, hpl⟩ | ⟨_, hpt⟩
    · omega
    have HP := Aside0.mk hpt
    clear ht hpt h hp
    go_enter Tryd.func6, Tryd.ntmps6
    go_wp2_with (first
      | (go_at_call 8; with_reducible refine (awake_calls _ (HM.out.below (HB.out.alloc HB.out.size _))).mono ?_; rintro e v1 ⟨rfl, hb⟩; have KE := Aside0.mk (blk_below (blk_new w (.cells #[.int .u8 a, .int .u8 b, .int .u8 c, .int .u8 d, .int .i64 p] 25)) hb); replace HB := Aside0.mk ((HB.out.alloc HB.out.size _).trans (hb.mono (HB.out.alloc HB.out.size _).size)); clear hb; have kE0 : v1.cell? ⟨w.heap.size, 0, none⟩ = some (.int .u8 a) := (blk_cell KE.out 0).trans rfl; have jE0 : ∀ o, (v1.alloc o).cell? ⟨w.heap.size, 0, none⟩ = some (.int .u8 a) := fun o => (blk_cell (blk_alloc KE.out o) 0).trans rfl; have kE1 : v1.cell? ⟨w.heap.size, 1, none⟩ = some (.int .u8 b) := (blk_cell KE.out 1).trans rfl; have jE1 : ∀ o, (v1.alloc o).cell? ⟨w.heap.size, 1, none⟩ = some (.int .u8 b) := fun o => (blk_cell (blk_alloc KE.out o) 1).trans rfl; have kE2 : v1.cell? ⟨w.heap.size, 2, none⟩ = some (.int .u8 c) := (blk_cell KE.out 2).trans rfl; have jE2 : ∀ o, (v1.alloc o).cell? ⟨w.heap.size, 2, none⟩ = some (.int .u8 c) := fun o => (blk_cell (blk_alloc KE.out o) 2).trans rfl; have kE3 : v1.cell? ⟨w.heap.size, 3, none⟩ = some (.int .u8 d) := (blk_cell KE.out 3).trans rfl; have jE3 : ∀ o, (v1.alloc o).cell? ⟨w.heap.size, 3, none⟩ = some (.int .u8 d) := fun o => (blk_cell (blk_alloc KE.out o) 3).trans rfl; have kE4 : v1.cell? ⟨w.heap.size, 4, none⟩ = some (.int .i64 p) := (blk_cell KE.out 4).trans rfl; have jE4 : ∀ o, (v1.alloc o).cell? ⟨w.heap.size, 4, none⟩ = some (.int .i64 p) := fun o => (blk_cell (blk_alloc KE.out o) 4).trans rfl; have tok1 := trivial)
      | (go_at_call 9; clear kE0 jE0; clear kE1 jE1; clear kE2 jE2; clear kE3 jE3; clear kE4 jE4; with_reducible refine (HT.out.calls _).mono ?_; rintro e v2 ⟨rfl, hb⟩; replace KE := Aside0.mk (blk_below KE.out hb); replace HB := Aside0.mk (HB.out.trans (hb.mono HB.out.size)); clear hb; have kE0 : v2.cell? ⟨w.heap.size, 0, none⟩ = some (.int .u8 a) := (blk_cell KE.out 0).trans rfl; have jE0 : ∀ o, (v2.alloc o).cell? ⟨w.heap.size, 0, none⟩ = some (.int .u8 a) := fun o => (blk_cell (blk_alloc KE.out o) 0).trans rfl; have kE1 : v2.cell? ⟨w.heap.size, 1, none⟩ = some (.int .u8 b) := (blk_cell KE.out 1).trans rfl; have jE1 : ∀ o, (v2.alloc o).cell? ⟨w.heap.size, 1, none⟩ = some (.int .u8 b) := fun o => (blk_cell (blk_alloc KE.out o) 1).trans rfl; have kE2 : v2.cell? ⟨w.heap.size, 2, none⟩ = some (.int .u8 c) := (blk_cell KE.out 2).trans rfl; have jE2 : ∀ o, (v2.alloc o).cell? ⟨w.heap.size, 2, none⟩ = some (.int .u8 c) := fun o => (blk_cell (blk_alloc KE.out o) 2).trans rfl; have kE3 : v2.cell? ⟨w.heap.size, 3, none⟩ = some (.int .u8 d) := (blk_cell KE.out 3).trans rfl; have jE3 : ∀ o, (v2.alloc o).cell? ⟨w.heap.size, 3, none⟩ = some (.int .u8 d) := fun o => (blk_cell (blk_alloc KE.out o) 3).trans rfl; have kE4 : v2.cell? ⟨w.heap.size, 4, none⟩ = some (.int .i64 p) := (blk_cell KE.out 4).trans rfl; have jE4 : ∀ o, (v2.alloc o).cell? ⟨w.heap.size, 4, none⟩ = some (.int .i64 p) := fun o => (blk_cell (blk_alloc KE.out o) 4).trans rfl; have tok2 := trivial)
      | (go_at_call 13; clear kE0 jE0; clear kE1 jE1; clear kE2 jE2; clear kE3 jE3; clear kE4 jE4; with_reducible refine (HP.out.calls _).mono ?_; rintro e v3 ⟨rfl, hb⟩; replace KE := Aside0.mk (blk_below KE.out hb); replace HB := Aside0.mk (HB.out.trans (hb.mono HB.out.size)); clear hb; have kE0 : v3.cell? ⟨w.heap.size, 0, none⟩ = some (.int .u8 a) := (blk_cell KE.out 0).trans rfl; have jE0 : ∀ o, (v3.alloc o).cell? ⟨w.heap.size, 0, none⟩ = some (.int .u8 a) := fun o => (blk_cell (blk_alloc KE.out o) 0).trans rfl; have kE1 : v3.cell? ⟨w.heap.size, 1, none⟩ = some (.int .u8 b) := (blk_cell KE.out 1).trans rfl; have jE1 : ∀ o, (v3.alloc o).cell? ⟨w.heap.size, 1, none⟩ = some (.int .u8 b) := fun o => (blk_cell (blk_alloc KE.out o) 1).trans rfl; have kE2 : v3.cell? ⟨w.heap.size, 2, none⟩ = some (.int .u8 c) := (blk_cell KE.out 2).trans rfl; have jE2 : ∀ o, (v3.alloc o).cell? ⟨w.heap.size, 2, none⟩ = some (.int .u8 c) := fun o => (blk_cell (blk_alloc KE.out o) 2).trans rfl; have kE3 : v3.cell? ⟨w.heap.size, 3, none⟩ = some (.int .u8 d) := (blk_cell KE.out 3).trans rfl; have jE3 : ∀ o, (v3.alloc o).cell? ⟨w.heap.size, 3, none⟩ = some (.int .u8 d) := fun o => (blk_cell (blk_alloc KE.out o) 3).trans rfl; have kE4 : v3.cell? ⟨w.heap.size, 4, none⟩ = some (.int .i64 p) := (blk_cell KE.out 4).trans rfl; have jE4 : ∀ o, (v3.alloc o).cell? ⟨w.heap.size, 4, none⟩ = some (.int .i64 p) := fun o => (blk_cell (blk_alloc KE.out o) 4).trans rfl; have tok3 := trivial))
    go_ret
    exact ⟨rfl, HB.out⟩
end Go.Proofs.YtfbjejkmjbknaaaDoor.Ext
