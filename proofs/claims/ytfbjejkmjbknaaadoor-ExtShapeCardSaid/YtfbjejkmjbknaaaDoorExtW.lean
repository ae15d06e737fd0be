/- The contracts of package ext's functions that take no error, and of the reference's. -/
import Derived.Test.YtfbjejkmjbknaaaDoorQuadRead
import Derived.Test.YtfbjejkmjbknaaaDoorRefRead
import Derived.Test.YtfbjejkmjbknaaaDoorRefText
import Derived.Test.YtfbjejkmjbknaaaDoorJoin
import Derived.Test.YtfbjejkmjbknaaaDoorExtP
namespace Go.Proofs.YtfbjejkmjbknaaaDoor.Ext
open Go Go.RowKit Go.Proofs.YtfbjejkmjbknaaaDoorW.PrintWords Go.Proofs.YtfbjejkmjbknaaaDoorW.PrintLast Go.Proofs.YtfbjejkmjbknaaaDoorW.PrintMore Go.Proofs.YtfbjejkmjbknaaaDoor.Dig Go.Proofs.YtfbjejkmjbknaaaDoor.Quad Go.Proofs.YtfbjejkmjbknaaaDoor.ExtP
set_option linter.unusedVariables false
set_option linter.unusedSimpArgs false

def endV (a b c d : Nat) (p : Int) : Value := .agg #[.int .u8 a, .int .u8 b, .int .u8 c, .int .u8 d, .int .i64 p]
/-- What Text hands back. -/
def textR (a b c d : Nat) (p : Int) : Value := if 0 < p ∧ p ≤ 65535 then .tuple #[str (endU a b c d p.toNat), .bool true] else .tuple #[str [], .bool false]
/-- What Port hands back. -/
def portR (p : Int) : Value := if 0 < p ∧ p ≤ 65535 then .tuple #[str (portU p.toNat), .bool true] else .tuple #[str [], .bool false]

set_option maxHeartbeats 1000000 in
theorem port_calls (n : Int) (w : World) : Calls Tryd.prog 17 #[.int .i64 n] w fun e w' => e = .returned (.bool (decide (0 < n ∧ n ≤ 65535))) ∧ w' = w := by
  by_cases h0 : 0 < n
  · by_cases h1 : n ≤ 65535
    · have h0' := decide_eq_true h0
      have h1' := decide_eq_true h1
      rw [decide_eq_true (And.intro h0 h1)]
      clear h0 h1
      go_enter Tryd.func17, Tryd.ntmps17
      go_wp2
      go_ret
      exact ⟨rfl, rfl⟩
    · have h0' := decide_eq_true h0
      have h1' := decide_eq_false h1
      rw [decide_eq_false (fun h => h1 h.2)]
      clear h0 h1
      go_enter Tryd.func17, Tryd.ntmps17
      go_wp2
      go_ret
      exact ⟨rfl, rfl⟩
  · have h0' := decide_eq_false h0
    rw [decide_eq_false (fun h => h0 h.1)]
    clear h0
    go_enter Tryd.func17, Tryd.ntmps17
    go_wp2
    go_ret
    exact ⟨rfl, rfl⟩
theorem mark_goes (c : UInt8) : (decide (32 < (c.toNat : Int)) = false ∧ isMark c = false) ∨ (decide (32 < (c.toNat : Int)) = true ∧ decide ((c.toNat : Int) < 127) = false ∧ isMark c = false) ∨
    (decide (32 < (c.toNat : Int)) = true ∧ decide ((c.toNat : Int) < 127) = true ∧ decide ((c.toNat : Int) < 48) = true ∧ isMark c = true) ∨
    (decide (32 < (c.toNat : Int)) = true ∧ decide ((c.toNat : Int) < 127) = true ∧ decide ((c.toNat : Int) < 48) = false ∧ decide (57 < (c.toNat : Int)) = true ∧ isMark c = true) ∨
    (decide (32 < (c.toNat : Int)) = true ∧ decide ((c.toNat : Int) < 127) = true ∧ decide ((c.toNat : Int) < 48) = false ∧ decide (57 < (c.toNat : Int)) = false ∧ isMark c = false) := by
  obtain ⟨n, hn⟩ : ∃ n, n = c.toNat := ⟨_, rfl⟩
  simp only [isMark, isDig, ← hn]
  by_cases h1 : 32 < n <;> by_cases h2 : n < 127 <;> by_cases h3 : n < 48 <;> by_cases h4 : 57 < n <;> simp <;> omega

set_option maxHeartbeats 1000000 in
theorem mark_calls (c : UInt8) (w : World) : Calls Tryd.prog 30 #[.int .u8 (c.toNat : Int)] w fun e w' => e = .returned (.bool (isMark c)) ∧ w' = w := by
  have hg := mark_goes c
  obtain ⟨n, hn⟩ : ∃ n : Nat, n = c.toNat := ⟨_, rfl⟩
  rw [← hn] at hg ⊢
  rcases hg with ⟨h1, hm⟩ | ⟨h1, h2, hm⟩ | ⟨h1, h2, h3, hm⟩ | ⟨h1, h2, h3, h4, hm⟩ | ⟨h1, h2, h3, h4, hm⟩
  all_goals
    rw [hm]
    clear hm hn
    go_enter Tryd.func30, Tryd.ntmps30
    go_wp2
    go_ret
    exact ⟨rfl, rfl⟩
theorem rmark_goes (c : UInt8) : (decide (33 ≤ (c.toNat : Int)) = false ∧ isMark c = false) ∨ (decide (33 ≤ (c.toNat : Int)) = true ∧ decide ((c.toNat : Int) ≤ 126) = false ∧ isMark c = false) ∨
    (decide (33 ≤ (c.toNat : Int)) = true ∧ decide ((c.toNat : Int) ≤ 126) = true ∧ decide (48 ≤ (c.toNat : Int)) = false ∧ isMark c = true) ∨
    (decide (33 ≤ (c.toNat : Int)) = true ∧ decide ((c.toNat : Int) ≤ 126) = true ∧ decide (48 ≤ (c.toNat : Int)) = true ∧ decide ((c.toNat : Int) ≤ 57) = false ∧ isMark c = true) ∨
    (decide (33 ≤ (c.toNat : Int)) = true ∧ decide ((c.toNat : Int) ≤ 126) = true ∧ decide (48 ≤ (c.toNat : Int)) = true ∧ decide ((c.toNat : Int) ≤ 57) = true ∧ isMark c = false) := by
  obtain ⟨n, hn⟩ : ∃ n, n = c.toNat := ⟨_, rfl⟩
  simp only [isMark, isDig, ← hn]
  by_cases h1 : 33 ≤ n <;> by_cases h2 : n ≤ 126 <;> by_cases h3 : 48 ≤ n <;> by_cases h4 : n ≤ 57 <;> simp <;> omega

set_option maxHeartbeats 1000000 in
theorem ref_mark_calls (c : UInt8) (w : World) : Calls Tryd.prog 25 #[.int .u8 (c.toNat : Int)] w fun e w' => e = .returned (.bool (isMark c)) ∧ w' = w := by
  have hg := rmark_goes c
  obtain ⟨n, hn⟩ : ∃ n : Nat, n = c.toNat := ⟨_, rfl⟩
  rw [← hn] at hg ⊢
  rcases hg with ⟨h1, hm⟩ | ⟨h1, h2, hm⟩ | ⟨h1, h2, h3, hm⟩ | ⟨h1, h2, h3, h4, hm⟩ | ⟨h1, h2, h3, h4, hm⟩
  all_goals
    rw [hm]
    clear hm hn
    go_enter Tryd.func25, Tryd.ntmps25
    go_wp2
    go_ret
    exact ⟨rfl, rfl⟩
end Go.Proofs.YtfbjejkmjbknaaaDoor.Ext
