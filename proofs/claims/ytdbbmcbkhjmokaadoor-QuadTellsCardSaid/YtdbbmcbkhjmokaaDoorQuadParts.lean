/- The walk of QuadParts. -/
import Derived.Test.YtdbbmcbkhjmokaaDoorQuadLaws2
namespace Go.Proofs.YtdbbmcbkhjmokaaDoor.Quad
open Go Go.RowKit Go.Proofs.YtdbbmcbkhjmokaaDoorW.PrintWords Go.Proofs.YtdbbmcbkhjmokaaDoorW.PrintLast Go.Proofs.YtdbbmcbkhjmokaaDoorW.PrintMore Go.Proofs.YtdbbmcbkhjmokaaDoor.Dig
set_option linter.unusedVariables false
set_option linter.unusedSimpArgs false

theorem host_count (a b c d : Nat) : (hostU a b c d).count 46 = 3 := by
  have h : ∀ n, (digU n).count 46 = 0 := fun n => List.count_eq_zero.2 (dig_not46 n)
  simp [hostU, List.count_append, h]
theorem host_len (a b c d : Nat) (ha : a < 256) (hb : b < 256) (hc : c < 256) (hd : d < 256) : 7 ≤ (hostU a b c d).length ∧ (hostU a b c d).length ≤ 15 := by
  have h : ∀ n, n < 256 → 1 ≤ (digU n).length ∧ (digU n).length ≤ 3 := fun n hn => ⟨by rw [digU_len]; exact dig_pos n, by rw [digU_len]; exact dig_len 2 n (by omega)⟩
  have := h a ha; have := h b hb; have := h c hc; have := h d hd
  simp [hostU]; omega
theorem host_bytes (a b c d : Nat) : ∀ x ∈ hostU a b c d, x = 46 ∨ isDig x = true := by
  have h : ∀ n, ∀ x ∈ digU n, isDig x = true := fun n x hx => List.all_eq_true.1 (digU_all n).1 x hx
  intro x hx
  simp only [hostU, List.mem_append, List.mem_cons] at hx
  rcases hx with hx | hx | hx | hx | hx | hx | hx
  · exact .inr (h _ _ hx)
  · exact .inl hx
  · exact .inr (h _ _ hx)
  · exact .inl hx
  · exact .inr (h _ _ hx)
  · exact .inl hx
  · exact .inr (h _ _ hx)
theorem numU_len (n : Int) (h0 : -9223372036854775808 ≤ n) (h1 : n ≤ 9223372036854775807) : 1 ≤ (numU n).length ∧ (numU n).length ≤ 20 := by
  have h2 := dig_len 18 n.natAbs (by omega)
  have h3 := dig_pos n.natAbs
  rw [← digU_len] at h2 h3
  unfold numU
  split
  · simp; omega
  · omega
theorem numU_head (n : Int) (h : (numU n).head? = some 48) : n = 0 := by
  unfold numU at h
  split at h
  · simp at h
  · have := (digU_all n.natAbs).2.2 h; omega

set_option maxHeartbeats 1000000 in
set_option maxRecDepth 100000 in
theorem parts_walk (a b c d : Nat) (n : Int) (ha : a < 256) (hb : b < 256) (hc : c < 256) (hd : d < 256) (h0 : -9223372036854775808 ≤ n) (h1 : n ≤ 9223372036854775807) (w : World) (hm : Mx w) :
    Calls Tryd.prog 5 #[.agg #[.int .u8 a, .int .u8 b, .int .u8 c, .int .u8 d], .int .i64 n] w fun e w' => e = .returned (.bool true) ∧ Below w.heap.size w w' := by
  have HM := Aside0.mk hm
  have HAB := Aside0.mk (And.intro ha (And.intro hb (And.intro hc hd)))
  have HNB := Aside0.mk (And.intro h0 h1)
  clear hm
  obtain ⟨l, hl⟩ : ∃ l, l = hostU a b c d := ⟨_, rfl⟩
  obtain ⟨s, hs⟩ : ∃ s : ByteArray, s = ⟨l.toArray⟩ := ⟨_, rfl⟩
  have HL := Aside0.mk (show l.count 46 = 3 ∧ 7 ≤ l.length ∧ l.length ≤ 15 ∧ ∀ x ∈ l, x = 46 ∨ isDig x = true from by
    rw [hl]; have h := host_len a b c d ha hb hc hd; exact ⟨host_count _ _ _ _, h.1, h.2, host_bytes a b c d⟩)
  have HS := Aside0.mk (show (⟨(hostU a b c d).toArray⟩ : ByteArray) = s from by rw [hs, hl])
  have HSL := Aside0.mk (show s.data.toList = l ∧ s.size = l.length from by rw [hs]; exact ⟨rfl, rfl⟩)
  obtain ⟨t, ht⟩ : ∃ t : ByteArray, t = ⟨(numU n).toArray⟩ := ⟨_, rfl⟩
  have HT := Aside0.mk (show strOfNums (num n) = t ∧ t.size = (numU n).length ∧ t.data.toList = numU n from by rw [ht, numU_eq]; exact ⟨rfl, rfl, rfl⟩)
  clear hl hs ht ha hb hc hd h0 h1
  go_enter Tryd.func5, Tryd.ntmps5
  have c0 : (w.alloc (.cells #[.int .u8 a, .int .u8 b, .int .u8 c, .int .u8 d] 23)).heap[w.heap.size]? = _ := blk_new w _
  have C0 := Aside0.mk c0
  clear c0
  go_wp2_with (first
    | (go_at_call 8; refine (awake_calls _ (HM.out.below ((Below.refl _ _).alloc (Nat.le_refl _) _))).mono ?_; rintro e w1 ⟨rfl, hb1⟩; have G1 := Aside0.mk (blk_below C0.out hb1); have HB1 := Aside0.mk (((Below.refl w.heap.size w).alloc (Nat.le_refl _) _).trans (hb1.mono (by simp))); have k0 : w1.cell? ⟨w.heap.size, 0, none⟩ = some (.int .u8 a) := (blk_cell G1.out 0).trans rfl; have k1 : w1.cell? ⟨w.heap.size, 1, none⟩ = some (.int .u8 b) := (blk_cell G1.out 1).trans rfl; have k2 : w1.cell? ⟨w.heap.size, 2, none⟩ = some (.int .u8 c) := (blk_cell G1.out 2).trans rfl; have k3 : w1.cell? ⟨w.heap.size, 3, none⟩ = some (.int .u8 d) := (blk_cell G1.out 3).trans rfl; clear hb1)
    | (go_at_call 15; refine (text_calls a b c d HAB.out.1 HAB.out.2.1 HAB.out.2.2.1 HAB.out.2.2.2 _).mono ?_; rw [HS.out]; rintro e w2 ⟨rfl, hb2⟩; have HB2 := Aside0.mk (HB1.out.trans (hb2.mono HB1.out.size)); clear hb2))
  clear k0 k1 k2 k3
  go_loop [7, 8] (fun c_ i_ => ∃ k : Nat, k ≤ s.size ∧ i_ = .int .i64 k ∧ c_ = .int .i64 ((l.take k).count 46 : Nat)) (fun _ i_ => s.size - (intOf i_).toNat)
  case atStart => exact ⟨0, Nat.zero_le _, rfl, rfl⟩
  case round =>
    obtain ⟨k, hk, rfl, rfl⟩ := hrel
    have hsz : s.size ≤ 15 := by rw [HSL.out.2]; exact HL.out.2.2.1
    by_cases hlt : k < s.size
    · have hk' : k < l.length := by rw [← HSL.out.2]; exact hlt
      obtain ⟨x, hx⟩ : ∃ x, x = l[k] := ⟨_, rfl⟩
      obtain ⟨y, hy⟩ : ∃ y : Nat, y = x.toNat := ⟨_, rfl⟩
      have hck : ∀ h : k < s.size, ((s[k]'h).toNat : Int) = (y : Int) := fun h => by
        have h2 : k < s.data.toList.length := by rw [data_length]; exact h
        have e := bt_byte s k h2
        have e2 : s.data.toList[k] = l[k] := by congr 1; exact HSL.out.1
        rw [hy, hx, ← e2, ← e]; exact bt_at s k h
      obtain ⟨m, hm⟩ : ∃ m : Nat, m = (l.take k).count 46 := ⟨_, rfl⟩
      have hm15 : m ≤ 15 := by rw [hm]; exact Nat.le_trans List.count_le_length (by rw [List.length_take]; omega)
      have hnext : (l.take (k + 1)).count 46 = m + (if x = 46 then 1 else 0) := by
        rw [List.take_succ_eq_append_getElem hk', List.count_append, ← hm, ← hx, List.count_singleton]
        by_cases h : x = 46 <;> simp [h]
      have hmem : x = 46 ∨ isDig x = true := HL.out.2.2.2 x (by rw [hx]; exact List.getElem_mem _)
      have HNX := Aside0.mk hnext
      rw [← hm]
      clear hm hnext hx
      by_cases h46 : x = 46
      · have hcmp : ((y : Int) == 46) = true := by rw [hy, h46]; rfl
        have HC := Aside0.mk h46
        clear hy h46 hmem
        go_wp2
        go_round
        case rel => exact ⟨k + 1, by omega, by go_num, by rw [HNX.out, if_pos HC.out]; go_num⟩
        case measure => simp [intOf]; omega
      · have hd : isDig x = true := by rcases hmem with h | h; · exact absurd h h46
                                       · exact h
        have hr48 : 48 ≤ x.toNat ∧ x.toNat ≤ 57 := by simpa [isDig] using hd
        have hcmp : ((y : Int) == 46) = false := beq_eq_false_iff_ne.2 (by omega)
        have hlo : decide ((y : Int) < 48) = false := decide_eq_false (by omega)
        have hhi : decide (57 < (y : Int)) = false := decide_eq_false (by omega)
        have HC := Aside0.mk h46
        clear hy h46 hmem hr48 hd
        go_wp2
        go_round
        case rel => exact ⟨k + 1, by omega, by go_num, by rw [HNX.out, if_neg HC.out]; rfl⟩
        case measure => simp [intOf]; omega
    · obtain rfl : k = s.size := by omega
      rw [show (l.take s.size).count 46 = 3 from by rw [List.take_of_length_le (by rw [HSL.out.2]; exact Nat.le_refl _)]; exact HL.out.1]
      have hs7 : decide ((s.size : Int) < 7) = false := decide_eq_false (by have := HL.out.2.1; rw [← HSL.out.2] at this; omega)
      have hs15 : decide (15 < (s.size : Int)) = false := decide_eq_false (by omega)
      have hl20 := numU_len n HNB.out.1 HNB.out.2
      rw [← HT.out.2.1] at hl20
      have ht0 : ((t.size : Int) == 0) = false := beq_eq_false_iff_ne.2 (by omega)
      have ht20 : decide (20 < (t.size : Int)) = false := decide_eq_false (by omega)
      have htp : 0 < t.size := by omega
      obtain ⟨x0, hx0⟩ : ∃ x0 : Int, x0 = bt t 0 := ⟨_, rfl⟩
      have hc0 : ∀ h : 0 < t.size, ((t[0]'h).toNat : Int) = x0 := fun h => by rw [hx0]; exact bt_at t 0 h
      have hgoes : (x0 != 48) = true ∨ ((x0 != 48) = false ∧ (n == 0) = true ∧ ((t.size : Int) == 1) = true) := by
        by_cases h48 : x0 = 48
        · refine .inr ⟨by simp [h48], ?_⟩
          have hp : 0 < t.data.toList.length := by rw [data_length]; exact htp
          have hb := bt_byte t 0 hp
          have hn0 : n = 0 := numU_head n (by
            rw [← HT.out.2.2, List.head?_eq_getElem?, List.getElem?_eq_getElem hp]
            congr 1
            apply UInt8.toNat_inj.1
            rw [show ((0 : Nat) : Int) = 0 from rfl, ← hx0, h48] at hb
            have e : (48 : UInt8).toNat = 48 := rfl
            omega)
          refine ⟨by rw [hn0]; rfl, ?_⟩
          rw [HT.out.2.1, hn0]
          simp [numU, digU_small]
        · exact .inl (by simpa using h48)
      clear hx0 hl20
      rcases hgoes with hz | ⟨hz, hn0, ht1⟩
      all_goals
        go_wp2_with (go_at_call 13; refine (num_calls n HNB.out.1 HNB.out.2 _).mono ?_; rw [HT.out.1]; rintro e w3 ⟨rfl, hb3⟩; have HB3 := Aside0.mk (HB2.out.trans (hb3.mono HB2.out.size)); clear hb3)
        go_ret
        exact ⟨rfl, HB3.out⟩
end Go.Proofs.YtdbbmcbkhjmokaaDoor.Quad
