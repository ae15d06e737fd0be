/- The port between marks, as both Finds come to it. -/
import Derived.Test.YtfbjejkmjbknaaaDoorExtIn
namespace Go.Proofs.YtfbjejkmjbknaaaDoor.Ext
open Go Go.Proofs.YtfbjejkmjbknaaaDoor.Dig Go.Proofs.YtfbjejkmjbknaaaDoor.Cut Go.Proofs.YtfbjejkmjbknaaaDoor.ExtP Go.Proofs.YtfbjejkmjbknaaaDoor.SixP
set_option linter.unusedVariables false
set_option linter.unusedSimpArgs false

theorem getMost_nil (k : Nat) : getMost k [] = none := rfl
theorem inner_nil : inner [] = none := rfl
theorem inner_short {l : List UInt8} (h : l.length < 5) : inner l = none := by
  match l, h with
  | [], _ => rfl
  | [a], _ => show (if isMark a = false then none else none) = none; split <;> rfl
  | [a, b], _ => show (if isMark a = false then none else none) = none; split <;> rfl
  | [a, b, c], _ =>
    show (if isMark a = false then none else if b = a ∧ c = a ∧ ([] : List UInt8).getLast? = some a then _ else none) = none
    split
    · rfl
    · rw [if_neg (by simp)]
  | [a, b, c, d], _ =>
    show (if isMark a = false then none else if b = a ∧ c = a ∧ [d].getLast? = some a then (getMost 65535 ([d].dropLast)).bind (fun n => if n = 0 then none else some n) else none) = none
    split
    · rfl
    · split
      · rfl
      · rfl
theorem inner_eq (m x y : UInt8) (z : List UInt8) : inner (m :: x :: y :: z) = if isMark m = false then none else if x = m ∧ y = m ∧ z.getLast? = some m then (getMost 65535 z.dropLast).bind (fun n => if n = 0 then none else some n) else none := rfl
/-- How the reference comes to it. -/
theorem inner_goes (m x y v : UInt8) (z : List UInt8) (hv : z.getLast? = some v) : (isMark m = false ∧ inner (m :: x :: y :: z) = none) ∨ (isMark m = true ∧ x ≠ m ∧ inner (m :: x :: y :: z) = none) ∨
    (isMark m = true ∧ x = m ∧ y ≠ m ∧ inner (m :: x :: y :: z) = none) ∨ (isMark m = true ∧ x = m ∧ y = m ∧ v ≠ m ∧ inner (m :: x :: y :: z) = none) ∨
    (isMark m = true ∧ x = m ∧ y = m ∧ v = m ∧ Dig.get z.dropLast 65535 = (0, false) ∧ inner (m :: x :: y :: z) = none) ∨
    (isMark m = true ∧ x = m ∧ y = m ∧ v = m ∧ Dig.get z.dropLast 65535 = (0, true) ∧ inner (m :: x :: y :: z) = none) ∨
    (∃ n : Nat, isMark m = true ∧ x = m ∧ y = m ∧ v = m ∧ 0 < n ∧ n ≤ 65535 ∧ Dig.get z.dropLast 65535 = ((n : Int), true) ∧ inner (m :: x :: y :: z) = some n) := by
  rw [inner_eq]
  have hg := getMost_get 65535 z.dropLast
  cases hm : isMark m
  · exact .inl ⟨rfl, rfl⟩
  · refine .inr ?_
    rw [if_neg (by decide)]
    by_cases hx : x = m
    · refine .inr ?_
      by_cases hy : y = m
      · refine .inr ?_
        by_cases hv' : v = m
        · refine .inr ?_
          rw [if_pos ⟨hx, hy, by rw [hv, hv']⟩]
          cases hg2 : getMost 65535 z.dropLast with
          | none => rw [hg2] at hg; exact .inl ⟨rfl, hx, hy, hv', hg, rfl⟩
          | some n =>
            rw [hg2] at hg
            have hn := ((getMost_iff 65535 (by decide) _ _).1 hg2).2
            by_cases h0 : n = 0
            · subst h0; exact .inr (.inl ⟨rfl, hx, hy, hv', hg, rfl⟩)
            · exact .inr (.inr ⟨n, rfl, hx, hy, hv', by omega, hn, hg, by simp [h0]⟩)
        · exact .inl ⟨rfl, hx, hy, hv', if_neg (fun h => hv' (by rw [hv] at h; exact Option.some.inj h.2.2))⟩
      · exact .inl ⟨rfl, hx, hy, if_neg (fun h => hy h.2.1)⟩
    · exact .inl ⟨rfl, hx, if_neg (fun h => hx h.1)⟩
/-- How ext comes to it. -/
def rest1 (l : List UInt8) (m : UInt8) : List UInt8 := Lib.trimPrefix l [m, m, m]
def rest2 (l : List UInt8) (m : UInt8) : List UInt8 := Lib.trimSuffix (rest1 l m) [m]
theorem suffix_last (z : List UInt8) (m : UInt8) : Lib.hasSuffix z [m] = true ↔ z.getLast? = some m := by
  rw [Lib.hasSuffix, List.isSuffixOf_iff_suffix, List.getLast?_eq_some_iff]
  constructor
  · rintro ⟨t, ht⟩; exact ⟨t, ht.symm⟩
  · rintro ⟨t, ht⟩; exact ⟨t, ht.symm⟩
theorem inner_ext (m : UInt8) (r : List UInt8) : isMark m = true → inner (m :: r) = if Lib.hasPrefix (m :: r) [m, m, m] = true ∧ Lib.hasSuffix (rest1 (m :: r) m) [m] = true then (getMost 65535 (rest2 (m :: r) m)).bind (fun n => if n = 0 then none else some n) else none := by
  intro hm
  match r with
  | [] =>
    rw [inner_short (by simp), if_neg]
    intro h; simp [Lib.hasPrefix, List.isPrefixOf] at h
  | [x] =>
    rw [inner_short (by simp), if_neg]
    intro h; simp [Lib.hasPrefix, List.isPrefixOf] at h
  | x :: y :: z =>
    have hp : Lib.hasPrefix (m :: x :: y :: z) [m, m, m] = true ↔ x = m ∧ y = m := by
      simp [Lib.hasPrefix, List.isPrefixOf]
      constructor
      · rintro ⟨h1, h2⟩; exact ⟨h1.symm, h2.symm⟩
      · rintro ⟨h1, h2⟩; exact ⟨h1.symm, h2.symm⟩
    rw [inner_eq, if_neg (by rw [hm]; decide)]
    by_cases hxy : x = m ∧ y = m
    · have h1 := hp.2 hxy
      have hr1 : rest1 (m :: x :: y :: z) m = z := by rw [rest1, Lib.trimPrefix, if_pos h1]; rfl
      rw [hr1]
      by_cases hz : z.getLast? = some m
      · have hr2 : rest2 (m :: x :: y :: z) m = z.dropLast := by
          rw [rest2, hr1, Lib.trimSuffix, if_pos ((suffix_last z m).2 hz), List.dropLast_eq_take]; rfl
        rw [if_pos ⟨hxy.1, hxy.2, hz⟩, if_pos ⟨h1, (suffix_last z m).2 hz⟩, hr2]
      · rw [if_neg (fun h => hz h.2.2), if_neg (fun h => hz ((suffix_last z m).1 h.2))]
    · rw [if_neg (fun h => hxy ⟨h.1, h.2.1⟩), if_neg (fun h => hxy (hp.1 h.1))]
/-- What Find hands back. -/
def findR (o : Option Nat) : Value := match o with
  | some n => .tuple #[.int .i64 n, .bool true]
  | none => .tuple #[.int .i64 0, .bool false]
end Go.Proofs.YtfbjejkmjbknaaaDoor.Ext
