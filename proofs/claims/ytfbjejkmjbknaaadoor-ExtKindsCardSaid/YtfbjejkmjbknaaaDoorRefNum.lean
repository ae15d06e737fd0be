/- The contracts of wharfingerref02's functions: Num, Get. -/
import Derived.Test.YtfbjejkmjbknaaaDoorHost
namespace Go.Proofs.YtfbjejkmjbknaaaDoor.Quad
open Go Go.RowKit Go.Proofs.YtfbjejkmjbknaaaDoorW.PrintWords Go.Proofs.YtfbjejkmjbknaaaDoorW.PrintLast Go.Proofs.YtfbjejkmjbknaaaDoorW.PrintMore Go.Proofs.YtfbjejkmjbknaaaDoor.Dig
set_option linter.unusedVariables false
set_option linter.unusedSimpArgs false

/-- What the loop of the reference's Num holds. -/
def RInv (U u : Nat) (tl : List UInt8) : Prop := u ≤ U ∧ digU U = digU u ++ tl
theorem RInv.next {U u : Nat} {tl : List UInt8} (h : RInv U u tl) (h10 : 10 ≤ u) : RInv U (u / 10) (UInt8.ofNat (48 + u % 10) :: tl) :=
  ⟨by have := h.1; omega, by rw [h.2, digU_big h10, List.append_assoc]; rfl⟩
theorem RInv.done {U u : Nat} {tl : List UInt8} (h : RInv U u tl) (h10 : u < 10) : digU U = UInt8.ofNat (48 + u % 10) :: tl := by
  rw [h.2, digU_small h10, Nat.mod_eq_of_lt h10]; rfl
theorem RInv.len {U u : Nat} {tl : List UInt8} (h : RInv U u tl) (hU : U < 10 ^ 20) : tl.length ≤ 20 := by
  have := dig_len 19 U hU
  rw [← digU_len, h.2, List.length_append] at this; omega
theorem digit_cut (d : Nat) (h : d < 10) : (⟨#[48, 49, 50, 51, 52, 53, 54, 55, 56, 57]⟩ : ByteArray).extract d (d + 1) = ⟨#[UInt8.ofNat (48 + d)]⟩ := by
  have key : ∀ d : Fin 10, ((⟨#[48, 49, 50, 51, 52, 53, 54, 55, 56, 57]⟩ : ByteArray).extract d.1 (d.1 + 1)).data.toList = [UInt8.ofNat (48 + d.1)] := by decide +kernel
  have := key ⟨d, h⟩
  apply ByteArray.ext
  apply Array.ext'
  exact this

theorem natAbs_lt {m m' x : Int} {u v d : Nat} (sg : Int) (hsg : sg = 1 ∨ sg = -1) (h1 : m' = sg * (v : Int)) (h2 : v = u / 10) (h3 : m = sg * (u : Int)) (h4 : 10 ≤ u) (hx : x = m') : (intOf (.int .i64 x)).natAbs < (intOf (.int .i64 m)).natAbs := by
  subst hx
  show x.natAbs < m.natAbs
  rcases hsg with rfl | rfl <;> omega
theorem slice_digit (d : Nat) (h : d < 10) (W : World) : (Instr.slice 9 (.string ⟨#[48, 49, 50, 51, 52, 53, 54, 55, 56, 57]⟩) (some (.int .i64 d)) (some (.int .i64 ((d : Int) + 1))) none).run Tryd.prog W = .ok (.string ⟨#[UInt8.ofNat (48 + d)]⟩) W := by
  rw [run_slice_string W 9 _ .i64 .i64 (d : Int) ((d : Int) + 1) Tryd.underlying9 (by omega) (by omega) (by simp [ByteArray.size]; omega)]
  rw [show ((d : Int)).toNat = d from by omega, show ((d : Int) + 1).toNat = d + 1 from by omega, digit_cut d h]

set_option maxHeartbeats 1000000 in
set_option maxRecDepth 100000 in
theorem ref_num_calls (n : Int) (h0 : -9223372036854775808 ≤ n) (h1 : n ≤ 9223372036854775807) (w : World) :
    Calls Tryd.prog 22 #[.int .i64 n] w fun e w' => e = .returned (.string ⟨(numU n).toArray⟩) ∧ w' = w := by
  obtain ⟨R, hR⟩ : ∃ R : ByteArray, R = ⟨(numU n).toArray⟩ := ⟨_, rfl⟩
  rw [← hR]
  obtain ⟨U, hU⟩ : ∃ U : Nat, U = n.natAbs := ⟨_, rfl⟩
  have hUlt : U < 10 ^ 20 := by omega
  have hU64 : U ≤ 9223372036854775808 := by omega
  have HU := Aside0.mk (And.intro hU (And.intro hUlt hU64))
  have HR := Aside0.mk hR
  clear hR hU hUlt hU64
  by_cases hs : n < 0
  · have hs' := decide_eq_true hs
    have HE := Aside0.mk (show n = -(U : Int) ∧ ∀ tl : List UInt8, digU U = tl → (⟨#[45]⟩ : ByteArray) ++ ⟨tl.toArray⟩ = R from ⟨by have := HU.out.1; omega, fun tl h => by
      rw [HR.out, numU, if_pos hs, ← HU.out.1, h]
      apply ByteArray.ext; apply Array.ext'; simp⟩)
    clear hs
    go_enter Tryd.func22, Tryd.ntmps22
    go_wp2
    go_loop [0, 4] (fun n_ o_ => ∃ (m : Int) (u : Nat) (o : ByteArray) (tl : List UInt8), n_ = .int .i64 m ∧ o_ = .string o ∧ Aside0 (m = -(u : Int)) ∧ Aside0 (o = ⟨tl.toArray⟩) ∧ Aside0 (RInv U u tl)) (fun n_ _ => (intOf n_).natAbs)
    case atStart => exact ⟨n, U, ⟨#[]⟩, [], rfl, rfl, ⟨HE.out.1⟩, ⟨rfl⟩, ⟨Nat.le_refl _, by simp⟩⟩
    case round =>
      obtain ⟨m, u, o, tl, rfl, rfl, HM, HO, HI⟩ := hrel
      obtain ⟨d, hd⟩ : ∃ d : Nat, d = u % 10 := ⟨_, rfl⟩
      obtain ⟨v, hv⟩ : ∃ v : Nat, v = u / 10 := ⟨_, rfl⟩
      have hu64 : u ≤ 9223372036854775808 := Nat.le_trans HI.out.1 HU.out.2.2
      obtain ⟨m', hm'⟩ : ∃ m' : Int, m' = -(v : Int) := ⟨_, rfl⟩
      have hq : wrap64 (Int.tdiv m 10) = m' := by
        rw [HM.out, hm', hv, Int.neg_tdiv, show Int.tdiv (u : Int) 10 = ((u / 10 : Nat) : Int) from rfl]; unfold wrap64; omega
      have hb : d < 10 := by omega
      obtain ⟨ch, hch⟩ : ∃ ch : ByteArray, ch = ⟨#[UInt8.ofNat (48 + d)]⟩ := ⟨_, rfl⟩
      have hsl := slice_digit d hb w
      rw [← hch] at hsl
      obtain ⟨o', ho'⟩ : ∃ o' : ByteArray, ch ++ o = o' := ⟨_, rfl⟩
      have HO' := Aside0.mk (show o' = ⟨(UInt8.ofNat (48 + u % 10) :: tl).toArray⟩ from by
        rw [← ho', hch, HO.out, hd]; apply ByteArray.ext; apply Array.ext'; simp)
      have hsz : ch.size + o.size ≤ 9223372036854775807 := by
        have := HI.out.len HU.out.2.1
        rw [hch, HO.out]; simp [ByteArray.size]; omega
      have hsz2 : o'.size < 1000 := by
        have := HI.out.len HU.out.2.1
        rw [HO'.out]; simp [ByteArray.size]; omega
      have HV := Aside0.mk (And.intro hd (And.intro hv hm'))
      clear hch hu64
      obtain ⟨e, he⟩ : ∃ e : Int, e = -(d : Int) := ⟨_, rfl⟩
      have hneg : (Int.tmod m 10 = (d : Int) ∧ decide ((d : Int) < 0) = false) ∨ (Int.tmod m 10 = e ∧ decide (e < 0) = true) := by
        have ht : Int.tmod m 10 = -(d : Int) := by rw [HM.out, hd, Int.neg_tmod]; rfl
        by_cases h : d = 0
        · exact .inl ⟨by rw [ht, h]; rfl, decide_eq_false (by omega)⟩
        · exact .inr ⟨by rw [ht, he], decide_eq_true (by omega)⟩
      have hwn : wrap64 (-e) = (d : Int) := by rw [he]; unfold wrap64; omega
      clear he
      clear hd hv hm'
      by_cases h10 : 10 ≤ u
      · have hne : (m' == 0) = false := by have := HV.out; simp; omega
        have HN := Aside0.mk (HI.out.next h10)
        have HT := Aside0.mk h10
        clear h10
        rcases hneg with ⟨ht, hneg⟩ | ⟨ht, hneg⟩
        all_goals
          go_wp2
          go_round
          case rel => exact ⟨m', v, o', _, by first | rfl | exact congrArg _ hq, by first | rfl | exact congrArg _ ho', ⟨HV.out.2.2⟩, HO', ⟨by rw [HV.out.2.1]; exact HN.out⟩⟩
          case measure => exact natAbs_lt (m' := m') (d := 0) (-1) (.inr rfl) (by rw [HV.out.2.2]; omega) HV.out.2.1 (by rw [HM.out]; omega) HT.out (by first | rfl | exact hq)
      · have hm0 : m' = 0 := by have := HV.out; omega
        have HF := Aside0.mk (show (⟨#[45]⟩ : ByteArray) ++ o' = R from by rw [HO'.out]; exact HE.out.2 _ (HI.out.done (by omega)))
        have hsz3 : 1 + o'.size ≤ 9223372036854775807 := by omega
        clear h10
        rcases hneg with ⟨ht, hneg⟩ | ⟨ht, hneg⟩
        all_goals
          go_wp2
          go_ret
          exact ⟨by rw [← HF.out]; rfl, rfl⟩
  · have hs' := decide_eq_false hs
    have HE := Aside0.mk (show n = (U : Int) ∧ ∀ tl : List UInt8, digU U = tl → (⟨tl.toArray⟩ : ByteArray) = R from ⟨by have := HU.out.1; omega, fun tl h => by
      rw [HR.out, numU, if_neg hs, ← HU.out.1, h]⟩)
    clear hs
    go_enter Tryd.func22, Tryd.ntmps22
    go_wp2
    go_loop [0, 4] (fun n_ o_ => ∃ (m : Int) (u : Nat) (o : ByteArray) (tl : List UInt8), n_ = .int .i64 m ∧ o_ = .string o ∧ Aside0 (m = (u : Int)) ∧ Aside0 (o = ⟨tl.toArray⟩) ∧ Aside0 (RInv U u tl)) (fun n_ _ => (intOf n_).natAbs)
    case atStart => exact ⟨n, U, ⟨#[]⟩, [], rfl, rfl, ⟨HE.out.1⟩, ⟨rfl⟩, ⟨Nat.le_refl _, by simp⟩⟩
    case round =>
      obtain ⟨m, u, o, tl, rfl, rfl, HM, HO, HI⟩ := hrel
      obtain ⟨d, hd⟩ : ∃ d : Nat, d = u % 10 := ⟨_, rfl⟩
      obtain ⟨v, hv⟩ : ∃ v : Nat, v = u / 10 := ⟨_, rfl⟩
      have hu64 : u ≤ 9223372036854775808 := Nat.le_trans HI.out.1 HU.out.2.2
      obtain ⟨m', hm'⟩ : ∃ m' : Int, m' = (v : Int) := ⟨_, rfl⟩
      have ht : Int.tmod m 10 = (d : Int) := by rw [HM.out, hd]; rfl
      have hq : wrap64 (Int.tdiv m 10) = m' := by
        rw [HM.out, hm', hv, show Int.tdiv (u : Int) 10 = ((u / 10 : Nat) : Int) from rfl]; unfold wrap64; omega
      have hb : d < 10 := by omega
      obtain ⟨ch, hch⟩ : ∃ ch : ByteArray, ch = ⟨#[UInt8.ofNat (48 + d)]⟩ := ⟨_, rfl⟩
      have hsl := slice_digit d hb w
      rw [← hch] at hsl
      obtain ⟨o', ho'⟩ : ∃ o' : ByteArray, ch ++ o = o' := ⟨_, rfl⟩
      have HO' := Aside0.mk (show o' = ⟨(UInt8.ofNat (48 + u % 10) :: tl).toArray⟩ from by
        rw [← ho', hch, HO.out, hd]; apply ByteArray.ext; apply Array.ext'; simp)
      have hsz : ch.size + o.size ≤ 9223372036854775807 := by
        have := HI.out.len HU.out.2.1
        rw [hch, HO.out]; simp [ByteArray.size]; omega
      have HV := Aside0.mk (And.intro hd (And.intro hv hm'))
      clear hch hu64
      have hneg : decide ((d : Int) < 0) = false := decide_eq_false (by omega)
      clear hd hv hm'
      by_cases h10 : 10 ≤ u
      · have hne : (m' == 0) = false := by have := HV.out; simp; omega
        have HN := Aside0.mk (HI.out.next h10)
        have HT := Aside0.mk h10
        clear h10
        go_wp2
        go_round
        case rel => exact ⟨m', v, o', _, by first | rfl | exact congrArg _ hq, by first | rfl | exact congrArg _ ho', ⟨HV.out.2.2⟩, HO', ⟨by rw [HV.out.2.1]; exact HN.out⟩⟩
        case measure => exact natAbs_lt (m' := m') (d := 0) 1 (.inl rfl) (by rw [HV.out.2.2]; omega) HV.out.2.1 (by rw [HM.out]; omega) HT.out (by first | rfl | exact hq)
      · have hm0 : m' = 0 := by have := HV.out; omega
        have HF := Aside0.mk (show o' = R from by rw [HO'.out]; exact HE.out.2 _ (HI.out.done (by omega)))
        clear h10
        go_wp2
        go_ret
        exact ⟨by rw [← HF.out]; rfl, rfl⟩
end Go.Proofs.YtfbjejkmjbknaaaDoor.Quad
