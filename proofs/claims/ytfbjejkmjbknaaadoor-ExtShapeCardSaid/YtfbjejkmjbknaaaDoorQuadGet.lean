/- The contract of quad.Get. -/
import Derived.Test.YtfbjejkmjbknaaaDoorQuad
import Derived.Test.YtfbjejkmjbknaaaDoorByte
import Derived.Test.YtfbjejkmjbknaaaDoorShelf
namespace Go.Proofs.YtfbjejkmjbknaaaDoor.Quad
open Go Go.RowKit Go.Proofs.YtfbjejkmjbknaaaDoorW.PrintWords Go.Proofs.YtfbjejkmjbknaaaDoorW.PrintLast Go.Proofs.YtfbjejkmjbknaaaDoorW.PrintMore Go.Proofs.YtfbjejkmjbknaaaDoor.Dig
set_option linter.unusedVariables false
set_option linter.unusedSimpArgs false

set_option maxHeartbeats 1000000 in
set_option maxRecDepth 100000 in
theorem get_calls (s : ByteArray) (most : Int) (w : World) :
    Calls Tryd.prog 33 #[.string s, .int .i64 most] w fun e w' => e = .returned (.tuple #[.int .i64 (get s.data.toList most).1, .bool (get s.data.toList most).2]) ∧ w' = w := by
  obtain ⟨R, hR⟩ : ∃ R, R = get s.data.toList most := ⟨_, rfl⟩
  have HR := Aside0.mk hR
  rw [← hR]
  clear hR
  have HL := Aside0.mk (data_length s)
  obtain ⟨c0, hc0⟩ : ∃ c, c = bt s 0 := ⟨_, rfl⟩
  have HC0 := Aside0.mk hc0
  have hx0 : ∀ h : 0 < s.size, ((s[0]'h).toNat : Int) = c0 := fun h => by rw [hc0]; exact bt_at s 0 h
  clear hc0
  have hnone : getN s.data.toList = none → R = (0, false) := fun h => by rw [HR.out, Dig.get, h]
  have HN := Aside0.mk hnone
  clear hnone
  have hgoes : s.toList = [] ∨ (s.toList.isEmpty = false ∧ decide (18 < (s.size : Int)) = true) ∨ (s.toList.isEmpty = false ∧ decide (18 < (s.size : Int)) = false ∧ 0 < s.size ∧ (c0 == 48) = true ∧ decide (1 < (s.size : Int)) = true) ∨ (s.toList.isEmpty = false ∧ decide (18 < (s.size : Int)) = false ∧ 0 < s.size ∧ ((c0 == 48) = false ∨ (c0 == 48) = true ∧ decide (1 < (s.size : Int)) = false)) := by
    have e : s.toList = s.data.toList := ByteArray.toList_eq s
    rw [e]
    by_cases h1 : s.data.toList = []
    · exact .inl h1
    · have h1' : s.data.toList.isEmpty = false := by simpa using h1
      have h2 : 0 < s.size := by rw [← HL.out]; exact List.length_pos_iff.2 h1
      refine .inr ?_
      by_cases h3 : 18 < (s.size : Int)
      · exact .inl ⟨h1', decide_eq_true h3⟩
      · refine .inr ?_
        by_cases h4 : c0 = 48 <;> by_cases h5 : 1 < (s.size : Int) <;> simp [h1', h2, h3, h4, h5] <;> omega
  have hlist : s.toList = s.data.toList := ByteArray.toList_eq s
  have HX := Aside0.mk hlist
  clear hlist
  have h48n : (c0 == 48) = true → decide (1 < (s.size : Int)) = true → getN s.data.toList = none := fun h1 h2 => by
    have h2' : 1 < (s.size : Int) := of_decide_eq_true h2
    have h1' : c0 = 48 := beq_iff_eq.1 h1
    rw [getN, if_neg]
    rintro ⟨_, _, h3, _⟩
    have hp : 0 < s.data.toList.length := by rw [HL.out]; omega
    have := h3 (by
      rw [List.head?_eq_getElem?, List.getElem?_eq_getElem hp]
      have h4 := bt_byte s 0 hp
      rw [show ((0 : Nat) : Int) = 0 from rfl, ← HC0.out, h1'] at h4
      congr 1
      apply UInt8.toNat_inj.1
      have e : (48 : UInt8).toNat = 48 := rfl
      omega)
    rw [HL.out] at this; omega
  have H48 := Aside0.mk h48n
  clear h48n
  rcases hgoes with hE | ⟨hE, h18⟩ | ⟨hE, h18, hs0, h48, hs1⟩ | ⟨hE, h18, hs0, hz⟩
  · have hF : R = (0, false) := HN.out (by rw [getN, if_neg]; rintro ⟨h, _⟩; exact h (HX.out.symm.trans hE))
    clear hx0
    go_enter Tryd.func33, Tryd.ntmps33
    go_wp2
    go_ret2
    exact ⟨by first | (rw [hF]; rfl) | rfl, rfl⟩
  · have hF : R = (0, false) := HN.out (by rw [getN, if_neg]; rintro ⟨_, h, _⟩; have := of_decide_eq_true h18; rw [HL.out] at h; omega)
    go_enter Tryd.func33, Tryd.ntmps33
    go_wp2
    go_ret2
    exact ⟨by first | (rw [hF]; rfl) | rfl, rfl⟩
  · have hF : R = (0, false) := HN.out (H48.out h48 hs1)
    go_enter Tryd.func33, Tryd.ntmps33
    go_wp2
    go_ret2
    exact ⟨by first | (rw [hF]; rfl) | rfl, rfl⟩
  · have HZ : Aside0 (s.data.toList ≠ [] ∧ s.data.toList.length ≤ 18 ∧ (s.data.toList.head? = some 48 → s.data.toList.length = 1)) := by
      have hp : 0 < s.data.toList.length := by rw [HL.out]; exact hs0
      refine ⟨List.length_pos_iff.1 hp, by have := of_decide_eq_false h18; rw [HL.out]; omega, fun h => ?_⟩
      rw [HL.out]
      rcases hz with hz | ⟨_, hz⟩
      · exfalso
        rw [List.head?_eq_getElem?, List.getElem?_eq_getElem hp] at h
        have h4 := bt_byte s 0 hp
        rw [Option.some.inj h, show ((0 : Nat) : Int) = 0 from rfl, ← HC0.out] at h4
        exact beq_eq_false_iff_ne.1 hz h4
      · have := of_decide_eq_false hz; omega
    rcases hz with hz | ⟨hz, hs1⟩
    all_goals
      go_enter Tryd.func33, Tryd.ntmps33
      go_wp2
      go_loop [6, 28] (fun n_ i_ => ∃ k : Nat, k ≤ s.size ∧ i_ = .int .i64 k ∧ n_ = .int .i64 (val (s.data.toList.take k) : Nat) ∧ Aside0 ((s.data.toList.take k).all isDig = true)) (fun _ i_ => s.size - (intOf i_).toNat)
      case atStart => exact ⟨0, Nat.zero_le _, rfl, rfl, ⟨rfl⟩⟩
      case round =>
        obtain ⟨k, hk, rfl, rfl, HA⟩ := hrel
        clear hz hE
        try clear hs1
        clear hx0 hs0
        by_cases hlt : k < s.size
        · have hk18 : k < 18 := by have := HZ.out.2.1; rw [HL.out] at this; omega
          have hk' : k < s.data.toList.length := by rw [HL.out]; exact hlt
          obtain ⟨c, hc⟩ : ∃ c, c = s.data.toList[k] := ⟨_, rfl⟩
          have hck : ∀ h : k < s.size, ((s[k]'h).toNat : Int) = (c.toNat : Int) := fun h => by rw [hc, ← bt_byte s k hk']; exact bt_at s k h
          have hidx : Lib.indexByte [48, 49, 50, 51, 52, 53, 54, 55, 56, 57] c = if isDig c = true then ((c.toNat - 48 : Nat) : Int) else -1 := index_dig c
          obtain ⟨n, hn⟩ : ∃ n, n = val (s.data.toList.take k) := ⟨_, rfl⟩
          have hnb : n < 100000000000000000 := by
            rw [hn]
            refine Nat.lt_of_lt_of_le (val_lt _ _ rfl HA.out) (Nat.le_trans (Nat.pow_le_pow_right (n := 10) (by decide) (show _ ≤ 17 from ?_)) (by decide))
            rw [List.length_take]; have := HZ.out.2.1; omega
          have hsn : val (s.data.toList.take (k + 1)) = 10 * n + (c.toNat - 48) ∧ (isDig c = true → (s.data.toList.take (k + 1)).all isDig = true) := by
            rw [List.take_succ_eq_append_getElem hk', ← hc, val_snoc, ← hn, List.all_append, HA.out]
            exact ⟨rfl, fun h => by simpa using h⟩
          have HSN := Aside0.mk hsn
          rw [← hn]
          have HCM := Aside0.mk (show c ∈ s.data.toList from by rw [hc]; exact List.getElem_mem _)
          clear hc hn hsn
          by_cases hd : isDig c = true
          · rw [if_pos hd] at hidx
            obtain ⟨d, hdd⟩ : ∃ d : Nat, d = c.toNat - 48 := ⟨_, rfl⟩
            rw [← hdd] at hidx
            have hdn : d < 256 := by have := c.toNat_lt; omega
            have hw1 : wrap64 (10 * (n : Int)) = ((10 * n : Nat) : Int) := by unfold wrap64; omega
            obtain ⟨m, hm⟩ : ∃ m : Nat, m = 10 * n := ⟨_, rfl⟩
            rw [← hm] at hw1
            obtain ⟨r, hr⟩ : ∃ r : Nat, r = m + d := ⟨_, rfl⟩
            have hw2 : wrap64 ((m : Int) + (d : Int)) = (r : Int) := by unfold wrap64; omega
            have HREL : Aside0 (val (s.data.toList.take (k + 1)) = r ∧ (s.data.toList.take (k + 1)).all isDig = true) := ⟨by rw [HSN.out.1, hr, hm, hdd], HSN.out.2 hd⟩
            clear hdd hm hr hdn hnb hd
            go_wp2_with (go_at_call 46; refine (Tryd.strings_IndexByte _ _ _).mono ?_; rintro e w1 ⟨rfl, rfl⟩; simp only [Int.toNat_natCast, Nat.toUInt8_eq, UInt8.ofNat_toNat]; rw [hidx])
            go_round
            case rel => exact ⟨k + 1, by omega, by go_num, by rw [HREL.out.1]; exact congrArg (Value.int .i64) hw2, ⟨HREL.out.2⟩⟩
            case measure => simp [intOf]; omega
          · rw [if_neg hd] at hidx
            have hF : R = (0, false) := HN.out (by rw [getN, if_neg]; rintro ⟨_, _, _, h⟩; exact hd (List.all_eq_true.1 h c HCM.out))
            clear hnb hd
            go_wp2_with (go_at_call 46; refine (Tryd.strings_IndexByte _ _ _).mono ?_; rintro e w1 ⟨rfl, rfl⟩; simp only [Int.toNat_natCast, Nat.toUInt8_eq, UInt8.ofNat_toNat]; rw [hidx])
            go_ret2
            exact ⟨by first | (rw [hF]; rfl) | rfl, rfl⟩
        · obtain rfl : k = s.size := by omega
          rw [show s.data.toList.take s.size = s.data.toList from List.take_of_length_le (by rw [HL.out]; exact Nat.le_refl _)] at *
          have hN : getN s.data.toList = some (val s.data.toList) := by rw [getN, if_pos ⟨HZ.out.1, HZ.out.2.1, HZ.out.2.2, HA.out⟩]
          obtain ⟨n, hn⟩ : ∃ n, n = val s.data.toList := ⟨_, rfl⟩
          have hRR := HR.out
          rw [Dig.get, hN] at hRR
          simp only at hRR
          rw [← hn] at hRR ⊢
          clear hN hn
          by_cases hm : most < (n : Int)
          · have hF : R = (0, false) := by rw [hRR, if_pos hm]
            have hm' := decide_eq_true hm
            clear hRR hm
            go_wp2
            go_ret2
            exact ⟨by first | (rw [hF]; rfl) | rfl, rfl⟩
          · have hF : R = ((n : Int), true) := by rw [hRR, if_neg hm]
            have hm' := decide_eq_false hm
            clear hRR hm
            go_wp2
            go_ret2
            exact ⟨by first | (rw [hF]; rfl) | rfl, rfl⟩
end Go.Proofs.YtfbjejkmjbknaaaDoor.Quad
