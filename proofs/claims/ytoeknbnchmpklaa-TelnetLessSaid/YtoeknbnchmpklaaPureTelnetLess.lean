/- What is left of bytes is no more than there was, of the same bytes, in order; what is counted, and what is left, are together no more, too: for at most 500 bytes. -/
import Derived.Test.YtoeknbnchmpklaaQx3
import Derived.Test.YtoeknbnchmpklaaPureTelnetRef
set_option linter.unusedVariables false
namespace Go.Proofs.Ytoeknbnchmpklaa.Pure
open Go Go.RowKit Go.Proofs.Ytoeknbnchmpklaa.TelnetExt Go.Proofs.Ytoeknbnchmpklaa.Q Go.Proofs.YtoeknbnchmpklaaW.PrintWords Go.Proofs.YtoeknbnchmpklaaW.PrintLast

theorem less_l (b x : List Int) (n : Int) (hb : b.length ≤ 500) (hx : x.length ≤ 500) (hn : 0 ≤ n) (h : (x.length : Int) + n ≤ b.length) : ∀ (d k a i : Nat), a + d = b.length → 2 * d + 1 < k → (x.drop i).Sublist (b.drop a) →
    wharfingerlaw05_TelnetLess.l0 k b x n a i = some true ∧ (i < x.length → ∀ k, 2 * d < k → wharfingerlaw05_TelnetLess.l1 k b x n a i = some true)
  | 0, k, a, i, hd, hk, hs => by
    have hi : x.length ≤ i := by
      have := hs.length_le
      rw [List.length_drop, List.length_drop] at this; omega
    refine ⟨?_, fun h => by omega⟩
    obtain ⟨k, rfl⟩ : ∃ m, k = m + 1 := ⟨k - 1, by omega⟩
    simp only [wharfingerlaw05_TelnetLess.l0]
    rw [if_neg (by omega), if_pos (by omega), wrap_in (by omega) (by omega), decide_eq_true (by omega)]
  | d + 1, k, a, i, hd, hk, hs => by
    have h1 : i < x.length → ∀ k, 2 * (d + 1) < k → wharfingerlaw05_TelnetLess.l1 k b x n a i = some true := by
      intro hi k hk
      obtain ⟨k, rfl⟩ : ∃ m, k = m + 1 := ⟨k - 1, by omega⟩
      have ha : a < b.length := by omega
      rw [List.drop_eq_getElem_cons hi, List.drop_eq_getElem_cons ha] at hs
      simp only [wharfingerlaw05_TelnetLess.l1]
      rw [if_pos (by omega), if_pos (by omega), if_pos (by omega), if_pos (by omega), rd_at _ _ ha, rd_at _ _ hi, wrap_in (i := (a : Int) + 1) (by omega) (by omega), wrap_in (i := (i : Int) + 1) (by omega) (by omega),
        show (a : Int) + 1 = ((a + 1 : Nat) : Int) from by omega, show (i : Int) + 1 = ((i + 1 : Nat) : Int) from by omega]
      by_cases e : b[a] = x[i]
      · rw [if_pos e, if_neg (by omega)]
        rw [e] at hs
        exact (less_l b x n hb hx hn h d k (a + 1) (i + 1) (by omega) (by omega) (List.cons_sublist_cons.1 hs)).1
      · rw [if_neg e]
        have hs' : (x.drop i).Sublist (b.drop (a + 1)) := by
          rw [List.drop_eq_getElem_cons hi]
          generalize b[a] = p at hs e
          generalize x[i] = q at hs e ⊢
          cases hs with
          | cons _ h => exact h
          | cons_cons _ h => exact absurd rfl e
        exact (less_l b x n hb hx hn h d (2 * d + 2) (a + 1) i (by omega) (by omega) hs').2 hi k (by omega)
    refine ⟨?_, h1⟩
    obtain ⟨k, rfl⟩ : ∃ m, k = m + 1 := ⟨k - 1, by omega⟩
    simp only [wharfingerlaw05_TelnetLess.l0]
    by_cases hi : i < x.length
    · rw [if_pos (by omega)]
      exact h1 hi k (by omega)
    · rw [if_neg (by omega), if_pos (by omega), wrap_in (by omega) (by omega), decide_eq_true (by omega)]

theorem TelnetLess : wharfingerlaw05_TelnetLess.Pure := by
  intro st l w0 hm hs hw
  obtain ⟨k, hk⟩ : ∃ k, k = 1099 := ⟨_, rfl⟩
  refine ⟨k + 1, ?_⟩
  unfold wharfingerlaw05_TelnetLess.f
  have aw : wharfingerlaw05_awake.f (k + 1) = some true := by
    unfold wharfingerlaw05_awake.f
    rw [escape [255] (by decide) (k + 1) (by simp; omega)]
    decide +kernel
  rw [aw]
  simp only [Option.bind_some, if_true]
  by_cases hgt : (l.length : Int) > 500
  · rw [decide_eq_true hgt]
    simp only [wharfingerlaw05_TelnetLess.j0]; rfl
  · rw [decide_eq_false hgt]
    simp only [wharfingerlaw05_TelnetLess.j0]
    rw [if_neg (by decide)]
    unfold telnet_Strip.f
    rw [if_pos (by omega)]
    simp only [Option.bind_some]
    obtain ⟨h1, h2, h3⟩ := Telnet.strip_less st l
    have hl := h1.length_le
    have hf := (less_l l (Telnet.strip st l).2.2 (Telnet.strip st l).2.1 (by omega) (by omega) h2 h3 l.length k 0 0 (by omega) (by omega) (by simpa using h1)).1
    rw [show ((0 : Nat) : Int) = 0 from rfl] at hf
    exact hf

end Go.Proofs.Ytoeknbnchmpklaa.Pure
