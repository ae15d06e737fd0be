/- Addresses as values of the model: '==', and quad.Num at a byte. -/
import Derived.Test.YtfbjejkmjbknaaaDoorQuadGet
namespace Go.Proofs.YtfbjejkmjbknaaaDoor.Quad
open Go Go.RowKit Go.Proofs.YtfbjejkmjbknaaaDoorW.PrintWords Go.Proofs.YtfbjejkmjbknaaaDoorW.PrintLast Go.Proofs.YtfbjejkmjbknaaaDoorW.PrintMore Go.Proofs.YtfbjejkmjbknaaaDoor.Dig
set_option linter.unusedVariables false
set_option linter.unusedSimpArgs false

/-- quad.Num in terms of bytes. -/
theorem num_calls' (n : Nat) (h : n < 256) (w : World) :
    Calls Tryd.prog 20 #[.int .i64 n] w fun e w' => e = .returned (.string ⟨(digU n).toArray⟩) ∧ Below w.heap.size w w' := by
  have := num_calls (n : Int) (by omega) (by omega) w
  rwa [numU_eq, numU_nat] at this

set_option maxRecDepth 100000 in
theorem part4 (a b c d : Int) (W : World) (i : Nat) (h : i < 4) : (part 5 #[.int .u8 a, .int .u8 b, .int .u8 c, .int .u8 d] i).run Tryd.prog W = .ok (.int .u8 ([a, b, c, d].getD i 0)) W := by
  obtain rfl | rfl | rfl | rfl : i = 0 ∨ i = 1 ∨ i = 2 ∨ i = 3 := by omega
  all_goals rfl
theorem eq_host' (n : Nat) (a b c d a' b' c' d' : Int) (W : World) : (Op.equalIn (n + 2) 23 (.agg #[.int .u8 a, .int .u8 b, .int .u8 c, .int .u8 d]) (.agg #[.int .u8 a', .int .u8 b', .int .u8 c', .int .u8 d'])).run Tryd.prog W = .ok (a == a' && (b == b' && (c == c' && d == d'))) W := by
  have hu : Tryd.prog.underlying 23 = some (.array 4 5) := by kernel_rfl
  have h5 : Tryd.prog.underlying 5 = some (.int .u8) := by kernel_rfl
  have hz : ∀ W, (sizeOf 5).run Tryd.prog W = .ok 1 W := Tryd.sizeOf5
  have he : ∀ x y W, (Op.equalIn (n + 1) 5 (.int .u8 x) (.int .u8 y)).run Tryd.prog W = .ok (x == y) W := fun x y W => run_equalIn_int W n 5 .u8 .u8 x y h5
  have p0 := part4 a b c d W 0 (by decide)
  have p1 := part4 a b c d W 1 (by decide)
  have p2 := part4 a b c d W 2 (by decide)
  have p3 := part4 a b c d W 3 (by decide)
  have q0 := part4 a' b' c' d' W 0 (by decide)
  have q1 := part4 a' b' c' d' W 1 (by decide)
  have q2 := part4 a' b' c' d' W 2 (by decide)
  have q3 := part4 a' b' c' d' W 3 (by decide)
  simp only [List.getD_cons_zero, List.getD_cons_succ] at p0 p1 p2 p3 q0 q1 q2 q3
  rw [Op.equalIn]
  simp only [Sem.run_bind, run_underlying hu, Result.andThen_ok, hz, Std.Legacy.Range.forIn_eq_forIn_range', Std.Legacy.Range.size, Nat.sub_zero, Nat.add_sub_cancel, Nat.div_one, List.range'_succ, List.range'_zero, List.forIn_cons, List.forIn_nil, Nat.mul_one, Nat.zero_add, Nat.reduceAdd, Nat.reduceMul, p0, p1, p2, p3, q0, q1, q2, q3, he]
  cases h0 : (a == a') <;> simp only [Bool.not_true, Bool.not_false, Bool.false_eq_true, if_true, if_false, Sem.run_pure, Result.andThen_ok, Sem.run_bind, p1, q1, he, Bool.false_and, Bool.true_and]
  cases h1 : (b == b') <;> simp only [Bool.not_true, Bool.not_false, Bool.false_eq_true, if_true, if_false, Sem.run_pure, Result.andThen_ok, Sem.run_bind, p2, q2, he, Bool.false_and, Bool.true_and]
  cases h2 : (c == c') <;> simp only [Bool.not_true, Bool.not_false, Bool.false_eq_true, if_true, if_false, Sem.run_pure, Result.andThen_ok, Sem.run_bind, p3, q3, he, Bool.false_and, Bool.true_and]
  cases h3 : (d == d') <;> simp only [Bool.not_true, Bool.not_false, Bool.false_eq_true, if_true, if_false, Sem.run_pure, Result.andThen_ok, Sem.run_bind]
theorem eq_host (a b c d a' b' c' d' : Int) (W : World) : (Op.equalIn 10000 23 (.agg #[.int .u8 a, .int .u8 b, .int .u8 c, .int .u8 d]) (.agg #[.int .u8 a', .int .u8 b', .int .u8 c', .int .u8 d'])).run Tryd.prog W = .ok (a == a' && (b == b' && (c == c' && d == d'))) W := eq_host' 9998 a b c d a' b' c' d' W
end Go.Proofs.YtfbjejkmjbknaaaDoor.Quad
