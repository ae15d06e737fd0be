/- The contract of the reference's Get. -/
import Derived.Test.YtfbjejkmjbknaaaDoorRefNum
namespace Go.Proofs.YtfbjejkmjbknaaaDoor.Quad
open Go Go.RowKit Go.Proofs.YtfbjejkmjbknaaaDoorW.PrintWords Go.Proofs.YtfbjejkmjbknaaaDoorW.PrintLast Go.Proofs.YtfbjejkmjbknaaaDoorW.PrintMore Go.Proofs.YtfbjejkmjbknaaaDoor.Dig
set_option linter.unusedVariables false
set_option linter.unusedSimpArgs false

theorem getN_of_digits (l : List UInt8) (hne : l ≠ []) (hl : l.length ≤ 18) (ha : l.all isDig = true) : getN l = if digU (val l) = l then some (val l) else none := by
  split
  · rename_i h
    refine (getN_iff l _).2 ⟨h.symm, ?_⟩
    exact Nat.lt_of_lt_of_le (val_lt l.length l rfl ha) (Nat.le_trans (Nat.pow_le_pow_right (by decide) hl) (by decide))
  · rename_i h
    cases hg : getN l with
    | none => rfl
    | some n =>
      have h1 := ((getN_iff l n).1 hg).1
      exact absurd (by rw [h1, (digU_all n).2.1]) h
theorem isDig_int (c : UInt8) : isDig c = false ↔ ((c.toNat : Int) < 48 ∨ 57 < (c.toNat : Int)) := by
  simp only [isDig, Bool.and_eq_false_iff, decide_eq_false_iff_not]; omega

set_option maxHeartbeats 1000000 in
set_option maxRecDepth 100000 in
theorem ref_get_calls (s : ByteArray) (most : Int) (w : World) :
    Calls Tryd.prog 27 #[.string s, .int .i64 most] w fun e w' => e = .returned (.tuple #[.int .i64 (get s.data.toList most).1, .bool (get s.data.toList most).2]) ∧ w' = w := by
  obtain ⟨R, hR⟩ : ∃ R, R = get s.data.toList most := ⟨_, rfl⟩
  have HR := Aside0.mk hR
  rw [← hR]
  clear hR
  have HL := Aside0.mk (data_length s)
  have hnone : getN s.data.toList = none → R = (0, false) := fun h => by rw [HR.out, Dig.get, h]
  have HN := Aside0.mk hnone
  clear hnone
  have hgoes : ((s.size : Int) == 0) = true ∨ (((s.size : Int) == 0) = false ∧ decide (18 < (s.size : Int)) = true) ∨ (((s.size : Int) == 0) = false ∧ decide (18 < (s.size : Int)) = false) := by
    by_cases h1 : s.size = 0
    · exact .inl (by simp [h1])
    · refine .inr ?_
      have h1' : ((s.size : Int) == 0) = false := beq_eq_false_iff_ne.2 (by omega)
      by_cases h3 : 18 < (s.size : Int)
      · exact .inl ⟨h1', decide_eq_true h3⟩
      · exact .inr ⟨h1', decide_eq_false h3⟩
  rcases hgoes with hE | ⟨hE, h18⟩ | ⟨hE, h18⟩
  · have hF : R = (0, false) := HN.out (by
      rw [getN, if_neg]; rintro ⟨h, _⟩
      exact h (List.length_eq_zero_iff.1 (by rw [HL.out]; have := beq_iff_eq.1 hE; omega)))
    go_enter Tryd.func27, Tryd.ntmps27
    go_wp2
    go_ret2
    exact ⟨by first | (rw [hF]; rfl) | rfl, rfl⟩
  · have hF : R = (0, false) := HN.out (by rw [getN, if_neg]; rintro ⟨_, h, _⟩; have := of_decide_eq_true h18; rw [HL.out] at h; omega)
    go_enter Tryd.func27, Tryd.ntmps27
    go_wp2
    go_ret2
    exact ⟨by first | (rw [hF]; rfl) | rfl, rfl⟩
  · have HZ : Aside0 (s.data.toList ≠ [] ∧ s.data.toList.length ≤ 18) := by
      have := beq_eq_false_iff_ne.1 hE
      have hp : 0 < s.data.toList.length := by rw [HL.out]; omega
      exact ⟨List.length_pos_iff.1 hp, by have := of_decide_eq_false h18; rw [HL.out]; omega⟩
    go_enter Tryd.func27, Tryd.ntmps27
    go_wp2
    go_loop [6, 7] (fun n_ i_ => ∃ k : Nat, k ≤ s.size ∧ i_ = .int .i64 k ∧ n_ = .int .i64 (val (s.data.toList.take k) : Nat) ∧ Aside0 ((s.data.toList.take k).all isDig = true)) (fun _ i_ => s.size - (intOf i_).toNat)
    case atStart => exact ⟨0, Nat.zero_le _, rfl, rfl, ⟨rfl⟩⟩
    case round =>
      obtain ⟨k, hk, rfl, rfl, HA⟩ := hrel
      clear hE
      by_cases hlt : k < s.size
      · have hk18 : k < 18 := by have := HZ.out.2; rw [HL.out] at this; omega
        have hk' : k < s.data.toList.length := by rw [HL.out]; exact hlt
        obtain ⟨c, hc⟩ : ∃ c, c = s.data.toList[k] := ⟨_, rfl⟩
        have hckc : ∀ h : k < s.size, ((s[k]'h).toNat : Int) = (c.toNat : Int) := fun h => by rw [hc, ← bt_byte s k hk']; exact bt_at s k h
        obtain ⟨x, hx⟩ : ∃ x : Nat, x = c.toNat := ⟨_, rfl⟩
        rw [← hx] at hckc
        obtain ⟨n, hn⟩ : ∃ n, n = val (s.data.toList.take k) := ⟨_, rfl⟩
        have hnb : n < 100000000000000000 := by
          rw [hn]
          refine Nat.lt_of_lt_of_le (val_lt _ _ rfl HA.out) (Nat.le_trans (Nat.pow_le_pow_right (n := 10) (by decide) (show _ ≤ 17 from ?_)) (by decide))
          rw [List.length_take]; omega
        have hsn : val (s.data.toList.take (k + 1)) = 10 * n + (c.toNat - 48) ∧ (isDig c = true → (s.data.toList.take (k + 1)).all isDig = true) := by
          rw [List.take_succ_eq_append_getElem hk', ← hc, val_snoc, ← hn, List.all_append, HA.out]
          exact ⟨rfl, fun h => by simpa using h⟩
        have HSN := Aside0.mk hsn
        rw [← hn]
        have HCM := Aside0.mk (show c ∈ s.data.toList from by rw [hc]; exact List.getElem_mem _)
        clear hc hn hsn
        by_cases hd : isDig c = true
        · obtain ⟨d, hdd⟩ : ∃ d : Nat, d = c.toNat - 48 := ⟨_, rfl⟩
          have hdn : d < 256 := by have := c.toNat_lt; omega
          have hr48 : 48 ≤ c.toNat ∧ c.toNat ≤ 57 := by simpa [isDig] using hd
          have hlo : decide ((x : Int) < 48) = false := decide_eq_false (by omega)
          have hhi : decide (57 < (x : Int)) = false := decide_eq_false (by omega)
          have hsub : IntKind.u8.wrap ((x : Int) - 48) = (d : Int) := by simp [IntKind.wrap, IntKind.bits, IntKind.signed]; omega
          have hcv : IntKind.i64.wrap (d : Int) = (d : Int) := by simp [IntKind.wrap, IntKind.bits, IntKind.signed]; omega
          have hw1 : wrap64 (10 * (n : Int)) = ((10 * n : Nat) : Int) := by unfold wrap64; omega
          obtain ⟨m, hm⟩ : ∃ m : Nat, m = 10 * n := ⟨_, rfl⟩
          rw [← hm] at hw1
          obtain ⟨r, hr⟩ : ∃ r : Nat, r = m + d := ⟨_, rfl⟩
          have hw2 : wrap64 ((m : Int) + (d : Int)) = (r : Int) := by unfold wrap64; omega
          have HREL : Aside0 (val (s.data.toList.take (k + 1)) = r ∧ (s.data.toList.take (k + 1)).all isDig = true) := ⟨by rw [HSN.out.1, hr, hm, hdd], HSN.out.2 hd⟩
          clear hdd hm hr hdn hnb hd hr48 hx
          go_wp2
          go_round
          case rel => exact ⟨k + 1, by omega, by go_num, by rw [HREL.out.1]; exact congrArg (Value.int .i64) hw2, ⟨HREL.out.2⟩⟩
          case measure => simp [intOf]; omega
        · have hF : R = (0, false) := HN.out (by rw [getN, if_neg]; rintro ⟨_, _, _, h⟩; exact hd (List.all_eq_true.1 h c HCM.out))
          have hd' : isDig c = false := by simpa using hd
          rcases (isDig_int c).1 hd' with hlo | hhi
          · have hlo : decide ((x : Int) < 48) = true := decide_eq_true (by omega)
            clear hnb hd hd' hx
            go_wp2
            go_ret2
            exact ⟨by first | (rw [hF]; rfl) | rfl, rfl⟩
          · have hlo : decide ((x : Int) < 48) = false := decide_eq_false (by omega)
            have hhi : decide (57 < (x : Int)) = true := decide_eq_true (by omega)
            clear hnb hd hd' hx
            go_wp2
            go_ret2
            exact ⟨by first | (rw [hF]; rfl) | rfl, rfl⟩
      · obtain rfl : k = s.size := by omega
        rw [show s.data.toList.take s.size = s.data.toList from List.take_of_length_le (by rw [HL.out]; exact Nat.le_refl _)] at *
        have hgd := getN_of_digits _ HZ.out.1 HZ.out.2 HA.out
        have hlist : s.toList = s.data.toList := ByteArray.toList_eq s
        obtain ⟨n, hn⟩ : ∃ n, n = val s.data.toList := ⟨_, rfl⟩
        have hnb : n < 10 ^ 18 := by
          rw [hn]
          exact Nat.lt_of_lt_of_le (val_lt _ _ rfl HA.out) (Nat.pow_le_pow_right (by decide) HZ.out.2)
        have hRR := HR.out
        rw [Dig.get, hgd] at hRR
        rw [← hn] at hRR ⊢
        have HNB := Aside0.mk (show (-9223372036854775808 ≤ (n : Int) ∧ (n : Int) ≤ 9223372036854775807) from by omega)
        have hnum := numU_nat n
        have HNUM := Aside0.mk hnum
        clear hgd hn hnb hnum
        by_cases hm : most < (n : Int)
        · have hF : R = (0, false) := by
            rw [hRR]; split
            · rename_i x h
              split at h
              · cases h; rw [if_pos hm]
              · cases h
            · rfl
          have hm' := decide_eq_true hm
          clear hRR hm hlist
          go_wp2
          go_ret2
          exact ⟨by first | (rw [hF]; rfl) | rfl, rfl⟩
        · have hm' := decide_eq_false hm
          by_cases he : digU n = s.data.toList
          · have hF : R = ((n : Int), true) := by rw [hRR, if_pos he]; simp only; rw [if_neg hm]
            have hne : (digU n == s.toList) = true := by rw [hlist]; exact beq_iff_eq.2 he
            clear hRR hm he hlist
            go_wp2_with (go_at_call 22; refine (ref_num_calls _ HNB.out.1 HNB.out.2 _).mono ?_; rintro e w1 ⟨rfl, rfl⟩; rw [HNUM.out])
            go_ret2
            exact ⟨by first | (rw [hF]; rfl) | rfl, rfl⟩
          · have hF : R = (0, false) := by rw [hRR, if_neg he]
            have hne : (digU n == s.toList) = false := by rw [hlist]; exact beq_eq_false_iff_ne.2 he
            clear hRR hm he hlist
            go_wp2_with (go_at_call 22; refine (ref_num_calls _ HNB.out.1 HNB.out.2 _).mono ?_; rintro e w1 ⟨rfl, rfl⟩; rw [HNUM.out])
            go_ret2
            exact ⟨by first | (rw [hF]; rfl) | rfl, rfl⟩
end Go.Proofs.YtfbjejkmjbknaaaDoor.Quad
