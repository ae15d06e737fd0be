/- What the rows of this seat share, more: an end that came in, by value. -/
import Derived.Test.YtfhfldpdkmankaaDoorDoorHost
namespace Go.Proofs.YtfhfldpdkmankaaDoor.Door
open Go Go.ChangeShapes Go.WideShapes Go.ChangeAt Go.RowKit
set_option linter.unusedVariables false

theorem list5 {α : Type} (l : List α) (h : (⟨l⟩ : Array α).size = 5) : ∃ a b c d e, l = [a, b, c, d, e] := by
  match l, h with
  | [a, b, c, d, e], _ => exact ⟨a, b, c, d, e, rfl⟩
theorem cells3 : Tryd.prog.cellsOf 3 = 1 := by kernel_rfl
theorem cells25 : Tryd.prog.cellsOf 25 = 5 := by kernel_rfl
theorem end_struct : ∃ f0 f1, Tryd.prog.underlying 25 = some (.struct #[f0, f1]) ∧ f0.type = 23 ∧ f0.offset = 0 ∧ f1.type = 3 ∧ f1.offset = 4 := ⟨_, _, Tryd.underlying25, rfl, rfl, rfl, rfl⟩
theorem open_end {H : Type} {enc : TypeId × Value → H} {W : World} {base b0 : Nat} {sp : Nat → Bool} {held : Bool} {v : Value} {d : DataW H} {p : List MemPlace} (hv : Value.okWide Tryd.prog W .any base 25 v) (h : DataW.Trod enc Tryd.prog W b0 sp held 25 v d p) :
    ∃ (a b c e : Nat) (q : Int), a < 256 ∧ b < 256 ∧ c < 256 ∧ e < 256 ∧ (-9223372036854775808 ≤ q ∧ q ≤ 9223372036854775807) ∧ v = .agg #[.int .u8 a, .int .u8 b, .int .u8 c, .int .u8 e, .int .i64 q] := by
  obtain ⟨f0, f1, hst, ht0, ho0, ht1, ho1⟩ := end_struct
  obtain ⟨cs, rfl, hsz, _⟩ : ∃ cs, v = .agg cs ∧ cs.size = Tryd.prog.cellsOf 25 ∧ Row.okWide Tryd.prog W .any base 25 cs := by
    simpa [Value.okWide, hst] using hv
  rw [cells25] at hsz
  obtain ⟨l⟩ := cs
  obtain ⟨c0, c1, c2, c3, c4, rfl⟩ := list5 l hsz
  obtain ⟨fuel, hf⟩ := h
  obtain ⟨z0, z1, n, hx, _, g0, g1⟩ := trod_struct2 hst hf
  rw [ht0, ho0, cells23] at g0
  rw [ht1, ho1, cells3] at g1
  replace g0 : DataW.trod enc Tryd.prog W b0 sp held n 23 [c0, c1, c2, c3] = some z0 := g0
  replace g1 : DataW.trod enc Tryd.prog W b0 sp held n 3 [c4] = some z1 := g1
  obtain ⟨y0, y1, y2, y3, m, hx0, hy0, hy1, hy2, hy3⟩ := trod_array4 host_array cells5 g0
  obtain ⟨x0, e0, rfl, w0⟩ := DataW.trod_int Tryd.underlying5 hy0
  obtain ⟨x1, e1, rfl, w1⟩ := DataW.trod_int Tryd.underlying5 hy1
  obtain ⟨x2, e2, rfl, w2⟩ := DataW.trod_int Tryd.underlying5 hy2
  obtain ⟨x3, e3, rfl, w3⟩ := DataW.trod_int Tryd.underlying5 hy3
  obtain ⟨x4, e4, rfl, w4⟩ := DataW.trod_int Tryd.underlying3 g1
  simp at e0 e1 e2 e3 e4
  subst e0 e1 e2 e3 e4
  obtain ⟨a, rfl, ha⟩ := u8_nat w0
  obtain ⟨b, rfl, hb⟩ := u8_nat w1
  obtain ⟨c, rfl, hc⟩ := u8_nat w2
  obtain ⟨e, rfl, he⟩ := u8_nat w3
  exact ⟨a, b, c, e, x4, ha, hb, hc, he, int_bounds w4, rfl⟩
end Go.Proofs.YtfhfldpdkmankaaDoor.Door
