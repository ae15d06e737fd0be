/- Ends of six numbers, plain: the laws. -/
import Derived.Test.YtfhfldpdkmankaaDoorSixQ
namespace Go.Proofs.YtfhfldpdkmankaaDoor.SixP
open Go Go.Proofs.YtfhfldpdkmankaaDoor.Dig Go.Proofs.YtfhfldpdkmankaaDoor.Cut

theorem cut1_app {c : UInt8} {l a b : List UInt8} (h : cut1 c l = some (a, b)) (m : List UInt8) : cut1 c (l ++ m) = some (a, b ++ m) := by
  obtain ⟨h1, h2⟩ := cut1_is h
  rw [h1, List.append_assoc, List.cons_append]
  exact cut1_some _ h2
/-- What stands behind does not matter. -/
theorem find_app {l : List UInt8} {x : Nat × Nat × Nat × Nat × Nat} (h : find l = some x) (m : List UInt8) : find (l ++ m) = some x := by
  simp only [find, Option.bind_eq_some_iff] at h ⊢
  obtain ⟨⟨a, b⟩, h1, ⟨c, d⟩, h2, h3⟩ := h
  exact ⟨_, cut1_app h1 m, _, cut1_app h2 m, h3⟩
theorem six_bytes (a b c d p : Nat) : ∀ x ∈ sixU a b c d p, x = 44 ∨ isDig x = true := by
  have h : ∀ n, ∀ x ∈ digU n, isDig x = true := fun n x hx => List.all_eq_true.1 (digU_all n).1 x hx
  intro x hx
  simp only [sixU, jn, List.mem_append, List.mem_cons] at hx
  rcases hx with hx | hx | hx | hx | hx | hx | hx | hx | hx | hx | hx
  all_goals first | exact .inr (h _ _ hx) | exact .inl hx
theorem find_text {ahead : List UInt8} (h : 40 ∉ ahead) (a b c d p : Nat) (behind : List UInt8) (ha : a ≤ 255) (hb : b ≤ 255) (hc : c ≤ 255) (hd : d ≤ 255) (hp : p ≤ 65535) :
    find (ahead ++ 40 :: (sixU a b c d p ++ 41 :: behind)) = some (a, b, c, d, p) := by
  have h41 : 41 ∉ sixU a b c d p := fun hm => by
    rcases six_bytes a b c d p 41 hm with e | e
    · exact absurd e (by decide)
    · exact absurd e (by decide)
  simp only [find, Option.bind_eq_some_iff]
  exact ⟨_, cut1_some _ h, _, cut1_some _ h41, (readSix_iff _ _ _ _ _ _).2 ⟨rfl, ha, hb, hc, hd, hp⟩⟩

/-- Whether a bracket is open, and whether one was shut behind it. -/
def brk (st : Bool × Bool) (c : UInt8) : Bool × Bool := (st.1 || decide (c = 40), st.2 || (st.1 && decide (c = 41)))
theorem brk_keep : ∀ (l : List UInt8) (st : Bool × Bool), st.2 = true → (l.foldl brk st).2 = true
  | [], st, h => h
  | c :: l, st, h => brk_keep l (brk st c) (by simp [brk, h])
theorem brk_open : ∀ (l : List UInt8) (st : Bool × Bool), st.1 = true → (l.foldl brk st).1 = true
  | [], st, h => h
  | c :: l, st, h => brk_open l (brk st c) (by simp [brk, h])
theorem find_shut {l : List UInt8} (h : find l ≠ none) : (l.foldl brk (false, false)).2 = true := by
  cases h1 : cut1 40 l with
  | none => exact absurd (by rw [find, h1]; rfl) h
  | some x =>
    cases h2 : cut1 41 x.2 with
    | none => exact absurd (by rw [find, h1]; show (cut1 41 x.2).bind _ = none; rw [h2]; rfl) h
    | some y =>
      obtain ⟨e1, _⟩ := cut1_is (a := x.1) (b := x.2) h1
      obtain ⟨e2, _⟩ := cut1_is (a := y.1) (b := y.2) h2
      rw [e1, e2, List.foldl_append, List.foldl_cons, List.foldl_append, List.foldl_cons]
      refine brk_keep _ _ ?_
      have ho : (y.1.foldl brk (brk (x.1.foldl brk (false, false)) 40)).1 = true := brk_open _ _ (by simp [brk])
      simp only [brk] at ho ⊢
      rw [ho]; simp

/-- Commas, the port so far, the number so far. -/
def pst (st : Nat × Nat × Nat) (c : UInt8) : Nat × Nat × Nat := if c = 44 then (st.1 + 1, if st.1 + 1 = 5 then 256 * st.2.2 else st.2.1, 0) else (st.1, st.2.1, 10 * st.2.2 + (c.toNat - 48))
theorem pst_digits : ∀ (l : List UInt8), (∀ c ∈ l, isDig c = true) → ∀ k q n, l.foldl pst (k, q, n) = (k, q, l.foldl (fun n c => 10 * n + (c.toNat - 48)) n)
  | [], _, k, q, n => rfl
  | c :: l, h, k, q, n => by
    have hc := h c (List.mem_cons_self ..)
    have h44 : c ≠ 44 := by rintro rfl; exact absurd hc (by decide)
    rw [List.foldl_cons, List.foldl_cons, pst, if_neg h44]
    exact pst_digits l (fun x hx => h x (List.mem_cons_of_mem _ hx)) k q _
theorem val_fold (l : List UInt8) : l.foldl (fun n c => 10 * n + (c.toNat - 48)) 0 = val l := by
  first | rfl | simp [val]
theorem pst_dig (x k q : Nat) : (digU x).foldl pst (k, q, 0) = (k, q, x) := by
  rw [pst_digits _ (fun c hc => List.all_eq_true.1 (digU_all x).1 c hc), val_fold, (digU_all x).2.1]
theorem pst_six (a b c d p : Nat) : (sixU a b c d p).foldl pst (0, 0, 0) = (5, 256 * (p / 256), p % 256) := by
  simp only [sixU, jn, List.foldl_append, List.foldl_cons, pst_dig]
  simp [pst, pst_dig]
/-- No more than three digits one behind the other. -/
def okRun : Nat → List UInt8 → Bool
  | _, [] => true
  | r, c :: l => if c = 44 then okRun 0 l else decide (r < 3) && okRun (r + 1) l
theorem okRun_digits : ∀ (l : List UInt8) (r : Nat) (t : List UInt8), (∀ c ∈ l, isDig c = true) → l.length + r ≤ 3 → (∀ r', r' ≤ 3 → okRun r' t = true) → okRun r (l ++ t) = true
  | [], r, t, _, h, ht => ht r (by simpa using h)
  | c :: l, r, t, hd, h, ht => by
    have hc := hd c (List.mem_cons_self ..)
    have h44 : c ≠ 44 := by rintro rfl; exact absurd hc (by decide)
    simp only [List.length_cons] at h
    rw [List.cons_append, okRun, if_neg h44, okRun_digits l (r + 1) t (fun x hx => hd x (List.mem_cons_of_mem _ hx)) (by omega) ht]
    simp; omega
theorem okRun_dig (x r : Nat) (hx : x < 256) (t : List UInt8) (hr : r = 0) (ht : ∀ r', r' ≤ 3 → okRun r' t = true) : okRun r (digU x ++ t) = true := by
  subst hr
  have hl : (digU x).length ≤ 3 := by rw [digU_len]; exact dig_len 2 x (by omega)
  exact okRun_digits _ 0 t (fun c hc => List.all_eq_true.1 (digU_all x).1 c hc) (by omega) ht
theorem okRun_six (a b c d p : Nat) (ha : a < 256) (hb : b < 256) (hc : c < 256) (hd : d < 256) (hp : p ≤ 65535) : okRun 0 (sixU a b c d p) = true := by
  have hstep : ∀ (x : Nat) (t : List UInt8), x < 256 → (∀ r', r' ≤ 3 → okRun r' t = true) → ∀ r', r' ≤ 3 → okRun r' (44 :: (digU x ++ t)) = true := fun x t hx ht r' _ => by
    rw [okRun, if_pos rfl]; exact okRun_dig x 0 hx t rfl ht
  have h0 : ∀ r', r' ≤ 3 → okRun r' ([] : List UInt8) = true := fun _ _ => rfl
  have e : sixU a b c d p = digU a ++ 44 :: (digU b ++ 44 :: (digU c ++ 44 :: (digU d ++ 44 :: (digU (p / 256) ++ 44 :: (digU (p % 256) ++ []))))) := by simp [sixU, jn]
  rw [e]
  exact okRun_dig a 0 ha _ rfl (hstep b _ hb (hstep c _ hc (hstep d _ hd (hstep (p / 256) _ (by omega) (hstep (p % 256) [] (by omega) h0)))))
theorem six_len (a b c d p : Nat) (ha : a < 256) (hb : b < 256) (hc : c < 256) (hd : d < 256) (hp : p ≤ 65535) : (sixU a b c d p).length ≤ 23 := by
  have hll : ∀ n : Nat, n < 256 → (digU n).length ≤ 3 := fun n hn => by rw [digU_len]; exact dig_len 2 n (by omega)
  have := hll a ha; have := hll b hb; have := hll c hc; have := hll d hd; have := hll (p / 256) (by omega); have := hll (p % 256) (by omega)
  simp only [sixU, jn, List.length_append, List.length_cons]; omega
end Go.Proofs.YtfhfldpdkmankaaDoor.SixP
