/- What is left of bytes: plain facts on numbers and lists. -/
import Derived.Test.YtoeknbnchmpklaaTelnet
set_option linter.unusedVariables false
namespace Go.Proofs.Ytoeknbnchmpklaa.Telnet
open Go Go.RowKit Go.Proofs.YtoeknbnchmpklaaW.PrintWords

theorem step_state (st cnt : Int) (out : List Int) (c : Int) : 0 ≤ (step st cnt out c).1 ∧ (step st cnt out c).1 ≤ 2 := by
  unfold step
  repeat' split
  all_goals simp

theorem step_shift (st cnt : Int) (out : List Int) (c : Int) : step st cnt out c = ((step st 0 [] c).1, cnt + (step st 0 [] c).2.1, out ++ (step st 0 [] c).2.2) := by
  unfold step
  repeat' split
  all_goals simp

theorem fold_shift : ∀ (b : List Int) (st cnt : Int) (out : List Int),
    b.foldl (fun a c => step a.1 a.2.1 a.2.2 c) (st, cnt, out) = ((b.foldl (fun a c => step a.1 a.2.1 a.2.2 c) (st, 0, [])).1, cnt + (b.foldl (fun a c => step a.1 a.2.1 a.2.2 c) (st, 0, [])).2.1, out ++ (b.foldl (fun a c => step a.1 a.2.1 a.2.2 c) (st, 0, [])).2.2)
  | [], st, cnt, out => by simp
  | c :: b, st, cnt, out => by
    rw [List.foldl_cons, List.foldl_cons, fold_shift b (step st cnt out c).1, fold_shift b (step st 0 [] c).1]
    rw [step_shift st cnt out c]
    simp [Int.add_assoc]

theorem norm_in {st : Int} (h : 0 ≤ st ∧ st ≤ 2) : norm st = st := by unfold norm; rw [if_neg (by omega)]
theorem norm_state (st : Int) : 0 ≤ norm st ∧ norm st ≤ 2 := by unfold norm; split <;> omega

theorem strip_state (st : Int) (l : List Int) : 0 ≤ (strip st l).1 ∧ (strip st l).1 ≤ 2 := by
  have h : ∀ (l : List Int) (a : Int × Int × List Int), 0 ≤ a.1 ∧ a.1 ≤ 2 → 0 ≤ (l.foldl (fun a c => step a.1 a.2.1 a.2.2 c) a).1 ∧ (l.foldl (fun a c => step a.1 a.2.1 a.2.2 c) a).1 ≤ 2 := by
    intro l
    induction l with
    | nil => intro a h; exact h
    | cons c l ih => intro a h; exact ih _ (step_state _ _ _ _)
  exact h l _ (norm_state st)

theorem strip_append (st : Int) (a b : List Int) : strip st (a ++ b) = ((strip (strip st a).1 b).1, (strip st a).2.1 + (strip (strip st a).1 b).2.1, (strip st a).2.2 ++ (strip (strip st a).1 b).2.2) := by
  have h := fold_shift b (strip st a).1 (strip st a).2.1 (strip st a).2.2
  unfold strip at h ⊢
  rw [List.foldl_append]
  rw [norm_in (st := (a.foldl (fun a c => step a.1 a.2.1 a.2.2 c) (norm st, 0, [])).1) (strip_state st a)]
  exact h

theorem strip_less (st : Int) (l : List Int) : (strip st l).2.2.Sublist l ∧ 0 ≤ (strip st l).2.1 ∧ ((strip st l).2.2.length : Int) + (strip st l).2.1 ≤ l.length := by
  have h : ∀ (l : List Int) (st : Int), (l.foldl (fun a c => step a.1 a.2.1 a.2.2 c) (st, 0, [])).2.2.Sublist l ∧ 0 ≤ (l.foldl (fun a c => step a.1 a.2.1 a.2.2 c) (st, 0, [])).2.1 ∧
      ((l.foldl (fun a c => step a.1 a.2.1 a.2.2 c) (st, 0, [])).2.2.length : Int) + (l.foldl (fun a c => step a.1 a.2.1 a.2.2 c) (st, 0, [])).2.1 ≤ l.length := by
    intro l
    induction l with
    | nil => intro st; simp
    | cons c l ih =>
      intro st
      obtain ⟨h1, h2, h3⟩ := ih (step st 0 [] c).1
      rw [List.foldl_cons, fold_shift l (step st 0 [] c).1]
      have hs : ((step st 0 [] c).2.2 = [] ∧ 0 ≤ (step st 0 [] c).2.1 ∧ (step st 0 [] c).2.1 ≤ 1) ∨ ((step st 0 [] c).2.2 = [c] ∧ (step st 0 [] c).2.1 = 0) := by
        unfold step
        repeat' split
        all_goals simp
      generalize step st 0 [] c = q at *
      obtain ⟨q0, q1, q2⟩ := q
      generalize List.foldl (fun (a : Int × Int × List Int) c => step a.1 a.2.1 a.2.2 c) (q0, 0, []) l = p at *
      obtain ⟨p0, p1, p2⟩ := p
      simp only at *
      rcases hs with ⟨e1, e2, e3⟩ | ⟨e1, e2⟩
      · simp only [e1, List.nil_append, List.length_cons]
        exact ⟨h1.cons c, by omega, by push_cast; omega⟩
      · simp only [e1, e2, List.cons_append, List.nil_append, List.length_cons]
        exact ⟨h1.cons_cons c, by omega, by push_cast; omega⟩
  exact h l (norm st)

theorem strip_plain : ∀ (b : List Int), (∀ x ∈ b, x ≠ 255) → strip 0 b = (0, 0, b) := by
  intro b
  have h : ∀ (b : List Int), (∀ x ∈ b, x ≠ 255) → b.foldl (fun a c => step a.1 a.2.1 a.2.2 c) (0, 0, []) = (0, 0, b) := by
    intro b
    induction b with
    | nil => intro _; rfl
    | cons c b ih =>
      intro hb
      have hc : c ≠ 255 := hb c (by simp)
      have e : step 0 0 [] c = (0, 0, [c]) := by unfold step; simp [hc]
      rw [List.foldl_cons, e, fold_shift b 0 0 [c], ih (fun x hx => hb x (by simp [hx]))]
      simp
  intro hb
  exact h b hb

theorem str_append (x y : List Int) : strOfNums (x ++ y) = strOfNums x ++ strOfNums y := by
  apply ByteArray.ext
  simp [strOfNums]

/-- A text as it is sent. -/
def esc (l : List Int) : List Int := l.flatMap (fun c => if c = 255 then [255, 255] else [c])
theorem esc_length (l : List Int) : (esc l).length ≤ 2 * l.length := by
  induction l with
  | nil => simp [esc]
  | cons c l ih =>
    unfold esc at ih ⊢
    rw [List.flatMap_cons, List.length_append, List.length_cons]
    have e : (if c = 255 then [255, 255] else [c] : List Int).length ≤ 2 := by split <;> simp
    omega
theorem esc_snoc (l : List Int) (k : Nat) (h : k < l.length) : esc (l.take (k + 1)) = esc (l.take k) ++ (if rd l k = 255 then [255, 255] else [rd l k]) := by
  unfold esc
  have : rd l k = l[k] := by simp [rd, List.getD, h]
  rw [List.take_succ_eq_append_getElem h, List.flatMap_append, this]
  simp
end Go.Proofs.Ytoeknbnchmpklaa.Telnet
