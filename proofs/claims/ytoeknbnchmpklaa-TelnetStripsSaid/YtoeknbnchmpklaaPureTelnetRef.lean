/- The document's answers for bytes, as plain functions: what is left, and what is escaped, is the same. -/
import Derived.Test.YtoeknbnchmpklaaQx1
import Derived.Test.YtoeknbnchmpklaaQx2
import Derived.Test.YtoeknbnchmpklaaTelnetFacts
set_option linter.unusedVariables false
namespace Go.Proofs.Ytoeknbnchmpklaa.Pure
open Go Go.RowKit Go.Proofs.Ytoeknbnchmpklaa.TelnetExt Go.Proofs.Ytoeknbnchmpklaa.Q Go.Proofs.YtoeknbnchmpklaaW.PrintWords Go.Proofs.YtoeknbnchmpklaaW.PrintLast

theorem wrap_in {i : Int} (h0 : -9223372036854775808 ≤ i) (h1 : i ≤ 9223372036854775807) : wrap64 i = i := by unfold wrap64; omega
theorem rd_at (l : List Int) (i : Nat) (h : i < l.length) : rd l i = l[i] := by simp [rd, List.getD, h]

theorem esc_l (l : List Int) (hl : l.length ≤ 1000000) : ∀ (d k i : Nat), i + d = l.length → d < k → telnet_Escape.l0 k (Telnet.esc (l.take i)) l (l.length : Int) i = some (Telnet.esc l)
  | 0, k, i, h, hk => by
    obtain ⟨k, rfl⟩ : ∃ m, k = m + 1 := ⟨k - 1, by omega⟩
    simp only [telnet_Escape.l0]
    rw [if_neg (by omega), List.take_of_length_le (by omega)]
  | d + 1, k, i, h, hk => by
    obtain ⟨k, rfl⟩ : ∃ m, k = m + 1 := ⟨k - 1, by omega⟩
    have ih := esc_l l hl d k (i + 1) (by omega) (by omega)
    rw [Telnet.esc_snoc l i (by omega)] at ih
    have hb := Telnet.esc_length (l.take i)
    rw [List.length_take] at hb
    simp only [telnet_Escape.l0]
    rw [if_pos (by omega), if_pos (by omega), if_pos (by omega), wrap_in (by omega) (by omega)]
    rw [show (i : Int) + 1 = ((i + 1 : Nat) : Int) from by omega]
    by_cases e : rd l i = 255
    · rw [if_pos e, if_pos (by omega)]
      simp only [Option.bind_some]
      rw [if_pos (by simp; omega), e]
      rw [if_pos e] at ih
      simpa using ih
    · rw [if_neg e, if_pos (by omega)]
      rw [if_neg e] at ih
      exact ih
theorem escape (l : List Int) (hl : l.length ≤ 1000000) (k : Nat) (hk : l.length < k) : telnet_Escape.f k l = some (Telnet.esc l) := by
  have := esc_l l hl l.length k 0 (by omega) hk
  simpa [telnet_Escape.f, Telnet.esc] using this

theorem awake : wharfingerlaw05_awake.f 1000 = some true := by
  unfold wharfingerlaw05_awake.f
  rw [escape [255] (by decide) 1000 (by decide)]
  decide +kernel

theorem resc_l (l : List Int) (hl : l.length ≤ 1000000) : ∀ (d k i : Nat), i + d = l.length → d < k → wharfingerref05_Escape.l0 k l (Telnet.esc (l.take i)) i = some (Telnet.esc l)
  | 0, k, i, h, hk => by
    obtain ⟨k, rfl⟩ : ∃ m, k = m + 1 := ⟨k - 1, by omega⟩
    simp only [wharfingerref05_Escape.l0]
    rw [if_neg (by omega), List.take_of_length_le (by omega)]
  | d + 1, k, i, h, hk => by
    obtain ⟨k, rfl⟩ : ∃ m, k = m + 1 := ⟨k - 1, by omega⟩
    have ih := resc_l l hl d k (i + 1) (by omega) (by omega)
    rw [Telnet.esc_snoc l i (by omega)] at ih
    have hb := Telnet.esc_length (l.take i)
    rw [List.length_take] at hb
    simp only [wharfingerref05_Escape.l0]
    rw [if_pos (by omega), if_pos (by omega), if_pos (by omega), wrap_in (by omega) (by omega)]
    rw [show (i : Int) + 1 = ((i + 1 : Nat) : Int) from by omega]
    simp only [Option.bind_some]
    by_cases e : rd l i = 255
    · rw [if_pos e, if_pos (by simp; omega), e]
      rw [if_pos e] at ih
      simpa using ih
    · rw [if_neg e]
      rw [if_neg e] at ih
      exact ih
theorem rescape (l : List Int) (hl : l.length ≤ 1000000) (k : Nat) (hk : l.length < k) : wharfingerref05_Escape.f k l = some (Telnet.esc l) := by
  have := resc_l l hl l.length k 0 (by omega) hk
  simpa [wharfingerref05_Escape.f, Telnet.esc] using this

theorem rstrip_l (st0 : Int) (l : List Int) (hl : l.length ≤ 1000000) : ∀ (d k i : Nat), i + d = l.length → 3 * d < k →
    wharfingerref05_Strip.l0 k (Telnet.strip st0 (l.take i)).1 l (Telnet.strip st0 (l.take i)).2.2 (Telnet.strip st0 (l.take i)).2.1 i = some ((Telnet.strip st0 l).1, (Telnet.strip st0 l).2.2, (Telnet.strip st0 l).2.1)
  | 0, k, i, h, hk => by
    obtain ⟨k, rfl⟩ : ∃ m, k = m + 1 := ⟨k - 1, by omega⟩
    simp only [wharfingerref05_Strip.l0]
    rw [if_neg (by omega), List.take_of_length_le (by omega)]
  | d + 1, k, i, h, hk => by
    have ih := fun k hk => rstrip_l st0 l hl d k (i + 1) (by omega) hk
    rw [Telnet.strip_snoc st0 l i (by omega)] at ih
    have hb := Telnet.strip_bounds st0 l i (by omega)
    have hs := Telnet.strip_state st0 (l.take i)
    generalize Telnet.strip st0 (l.take i) = q at *
    obtain ⟨st, cnt, out⟩ := q
    simp only at *
    obtain ⟨k, rfl⟩ : ∃ m, k = m + 1 := ⟨k - 1, by omega⟩
    simp only [wharfingerref05_Strip.l0]
    rw [if_pos (by omega), if_pos (by omega), wrap_in (by omega) (by omega), show (i : Int) + 1 = ((i + 1 : Nat) : Int) from by omega]
    unfold Telnet.step at ih
    by_cases h2 : st = 2
    · simp only [h2, if_true] at ih ⊢
      exact ih k (by omega)
    · rw [if_neg h2]
      simp only [if_neg h2] at ih
      by_cases h0 : st = 0
      · subst h0
        simp only [show ¬ ((0 : Int) = 1) from by decide, false_and, if_false, true_and] at ih
        simp only [if_true]
        by_cases hc : rd l i = 255
        · rw [if_pos hc]
          simp only [if_pos hc] at ih
          exact ih k (by omega)
        · rw [if_neg hc, if_pos (by omega)]
          simp only [if_neg hc] at ih
          exact ih k (by omega)
      · have h1 : st = 1 := by omega
        subst h1
        simp only [show ¬ ((1 : Int) = 0) from by decide, false_and, if_false, true_and] at ih
        rw [if_neg (by decide)]
        obtain ⟨k, rfl⟩ : ∃ m, k = m + 1 := ⟨k - 1, by omega⟩
        obtain ⟨k, rfl⟩ : ∃ m, k = m + 1 := ⟨k - 1, by omega⟩
        simp only [wharfingerref05_Strip.j3, wharfingerref05_Strip.j4]
        rw [wrap_in (i := cnt + 1) (by omega) (by omega), wrap_in (i := (i : Int) + 1) (by omega) (by omega), show (i : Int) + 1 = ((i + 1 : Nat) : Int) from by omega]
        have ihk := ih k (by omega)
        by_cases hc : rd l i = 255
        · simp only [hc] at ihk ⊢
          rw [if_pos trivial, if_pos (by omega)]
          simpa using ihk
        · rw [if_neg hc]
          by_cases h3 : 251 ≤ rd l i ∧ rd l i < 255
          · rw [if_pos h3] at ihk
            rw [if_pos (show rd l i ≥ 251 from h3.1), if_pos (by simp; omega), if_neg (by omega)]
            exact ihk
          · rw [if_neg h3] at ihk
            by_cases h4 : rd l i = 242
            · rw [if_pos h4] at ihk
              rw [if_neg (by omega), if_neg (by decide), if_pos h4]
              exact ihk
            · rw [if_neg h4, if_pos hc] at ihk
              rw [if_neg h4, if_neg h4]
              split
              · rw [if_neg (by simp; omega)]; exact ihk
              · rw [if_neg (by decide)]; exact ihk

theorem rstrip (st : Int) (l : List Int) (hl : l.length ≤ 1000000) (k : Nat) (hk : 3 * l.length + 3 < k) : wharfingerref05_Strip.f k st l = some ((Telnet.strip st l).1, (Telnet.strip st l).2.2, (Telnet.strip st l).2.1) := by
  obtain ⟨k, rfl⟩ : ∃ m, k = m + 1 := ⟨k - 1, by omega⟩
  obtain ⟨k, rfl⟩ : ∃ m, k = m + 1 := ⟨k - 1, by omega⟩
  have := rstrip_l st l hl l.length k 0 (by omega) (by omega)
  have e : Telnet.strip st (l.take 0) = (Telnet.norm st, 0, []) := rfl
  rw [e] at this
  simp only [wharfingerref05_Strip.f, wharfingerref05_Strip.j0, wharfingerref05_Strip.j1]
  unfold Telnet.norm at this
  by_cases h1 : st < 0
  · rw [if_pos (.inl h1)] at this
    rw [if_pos h1]; exact this
  · rw [if_neg h1]
    by_cases h2 : st > 2
    · rw [if_pos (.inr (by omega))] at this
      rw [if_pos (by simpa using h2)]; exact this
    · rw [if_neg (by omega)] at this
      rw [if_neg (by simpa using h2)]; exact this
end Go.Proofs.Ytoeknbnchmpklaa.Pure
