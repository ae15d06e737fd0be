/- Ends of six numbers, plain. -/
import Derived.Test.YtfbjejkmjbknaaaDoorDig
namespace Go.Proofs.YtfbjejkmjbknaaaDoor.SixP
open Go Go.Proofs.YtfbjejkmjbknaaaDoor.Dig Go.Proofs.YtfbjejkmjbknaaaDoor.Cut

/-- An end as it is written. -/
def sixU (a b c d p : Nat) : List UInt8 := jn 44 [digU a, digU b, digU c, digU d, digU (p / 256), digU (p % 256)]
def six (p0 p1 p2 p3 p4 p5 : List UInt8) : Option (Nat × Nat × Nat × Nat × Nat) :=
  (get255 p0).bind fun a => (get255 p1).bind fun b => (get255 p2).bind fun c => (get255 p3).bind fun d => (get255 p4).bind fun e => (get255 p5).bind fun f => some (a, b, c, d, 256 * e + f)
def readSix (l : List UInt8) : Option (Nat × Nat × Nat × Nat × Nat) := match cut 44 l with
  | [p0, p1, p2, p3, p4, p5] => six p0 p1 p2 p3 p4 p5
  | _ => none
theorem dig_not44 (n : Nat) : (44 : UInt8) ∉ digU n := by
  intro h
  exact absurd (List.all_eq_true.1 (digU_all n).1 _ h) (by decide)
theorem cut_six (a b c d p : Nat) : cut 44 (sixU a b c d p) = [digU a, digU b, digU c, digU d, digU (p / 256), digU (p % 256)] := by
  refine cut_jn 44 _ (by simp) ?_
  intro x hx
  simp only [List.mem_cons, List.not_mem_nil, or_false] at hx
  rcases hx with rfl | rfl | rfl | rfl | rfl | rfl <;> exact dig_not44 _
theorem six_iff (p0 p1 p2 p3 p4 p5 : List UInt8) (a b c d p : Nat) : six p0 p1 p2 p3 p4 p5 = some (a, b, c, d, p) ↔
    (p0 = digU a ∧ a ≤ 255) ∧ (p1 = digU b ∧ b ≤ 255) ∧ (p2 = digU c ∧ c ≤ 255) ∧ (p3 = digU d ∧ d ≤ 255) ∧ p4 = digU (p / 256) ∧ p5 = digU (p % 256) ∧ p ≤ 65535 := by
  simp only [six, Option.bind_eq_some_iff, Option.some.injEq, Prod.mk.injEq]
  constructor
  · rintro ⟨a', ha, b', hb, c', hc, d', hd, e', he, f', hf, rfl, rfl, rfl, rfl, rfl⟩
    have he := (get255_iff _ _).1 he
    have hf := (get255_iff _ _).1 hf
    refine ⟨(get255_iff _ _).1 ha, (get255_iff _ _).1 hb, (get255_iff _ _).1 hc, (get255_iff _ _).1 hd, ?_, ?_, by omega⟩
    · rw [he.1, show (256 * e' + f') / 256 = e' from by omega]
    · rw [hf.1, show (256 * e' + f') % 256 = f' from by omega]
  · rintro ⟨ha, hb, hc, hd, he, hf, hp⟩
    exact ⟨a, (get255_iff _ _).2 ha, b, (get255_iff _ _).2 hb, c, (get255_iff _ _).2 hc, d, (get255_iff _ _).2 hd, p / 256, (get255_iff _ _).2 ⟨he, by omega⟩, p % 256, (get255_iff _ _).2 ⟨hf, by omega⟩, rfl, rfl, rfl, rfl, by omega⟩
/-- A text is an end just where it is that end as it is written. -/
theorem readSix_iff (l : List UInt8) (a b c d p : Nat) : readSix l = some (a, b, c, d, p) ↔ l = sixU a b c d p ∧ a ≤ 255 ∧ b ≤ 255 ∧ c ≤ 255 ∧ d ≤ 255 ∧ p ≤ 65535 := by
  constructor
  · intro h
    unfold readSix at h
    split at h
    · rename_i p0 p1 p2 p3 p4 p5 hc
      have hj := jn_cut 44 l
      rw [hc] at hj
      obtain ⟨⟨rfl, ha⟩, ⟨rfl, hb⟩, ⟨rfl, hc'⟩, ⟨rfl, hd⟩, rfl, rfl, hp⟩ := (six_iff p0 p1 p2 p3 p4 p5 a b c d p).1 h
      exact ⟨hj.symm, ha, hb, hc', hd, hp⟩
    · cases h
  · rintro ⟨rfl, ha, hb, hc, hd, hp⟩
    rw [readSix, cut_six]
    exact (six_iff _ _ _ _ _ _ a b c d p).2 ⟨⟨rfl, ha⟩, ⟨rfl, hb⟩, ⟨rfl, hc⟩, ⟨rfl, hd⟩, rfl, rfl, hp⟩
theorem sixU_inj {a b c d p a' b' c' d' p' : Nat} (h : sixU a b c d p = sixU a' b' c' d' p') : a = a' ∧ b = b' ∧ c = c' ∧ d = d' ∧ p = p' := by
  have h1 := cut_six a b c d p
  rw [h, cut_six] at h1
  simp only [List.cons.injEq, and_true] at h1
  have h5 := digU_inj h1.2.2.2.2.1
  have h6 := digU_inj h1.2.2.2.2.2
  exact ⟨(digU_inj h1.1).symm, (digU_inj h1.2.1).symm, (digU_inj h1.2.2.1).symm, (digU_inj h1.2.2.2.1).symm, by omega⟩
end Go.Proofs.YtfbjejkmjbknaaaDoor.SixP
