/- Paths, plain: what is told may be. -/
import Derived.Test.YtipojdjdlnafmaaDoorPathP
namespace Go.Proofs.YtipojdjdlnafmaaDoor.PathP
open Go Go.Proofs.YtipojdjdlnafmaaDoor.Cut

def good (x : List UInt8) : Prop := x ≠ [] ∧ 47 ∉ x ∧ x ≠ [46] ∧ x ≠ [46, 46] ∧ clean x = true
theorem clean_app (a b : List UInt8) : clean (a ++ b) = (clean a && clean b) := by simp [clean]
theorem clean_cons (c : UInt8) (b : List UInt8) : clean (c :: b) = (clean [c] && clean b) := by simp [clean]
theorem clean47 : clean [47] = true := by decide
theorem clean_jn : ∀ l : List (List UInt8), clean (jn 47 l) = true ↔ ∀ x ∈ l, clean x = true
  | [] => by simp [jn, clean]
  | [p] => by simp [jn]
  | p :: q :: r => by
    have ih := clean_jn (q :: r)
    rw [jn, clean_app, clean_cons, clean47, Bool.true_and, Bool.and_eq_true, ih]; simp
theorem clean_cut {l : List UInt8} (h : clean l = true) : ∀ x ∈ cut 47 l, clean x = true := by
  rw [← clean_jn, jn_cut]; exact h
theorem may_good {s : List UInt8} (h : may s = true) : (∀ x ∈ parts s, good x) ∧ whole (parts s) = s ∧ s.length ≤ 200 := by
  obtain ⟨h1, h2⟩ := may_parts h
  simp only [may, Bool.and_eq_true, decide_eq_true_eq] at h
  have hc : clean (jn 47 (parts s)) = true := by
    have := h.1.2
    rw [← h2, whole, clean_cons, clean47, Bool.true_and] at this
    exact this
  exact ⟨fun x hx => ⟨(h1 x hx).1, (h1 x hx).2.1, (h1 x hx).2.2.1, (h1 x hx).2.2.2, (clean_jn _).1 hc x hx⟩, h2, h.1.1.2⟩
theorem good_may {l : List (List UInt8)} (h : ∀ x ∈ l, good x) (hl : (whole l).length ≤ 200) : may (whole l) = true ∧ parts (whole l) = l := by
  have hp := parts_whole (fun x hx => ⟨(h x hx).1, (h x hx).2.1⟩)
  refine ⟨?_, hp⟩
  simp only [may, Bool.and_eq_true, decide_eq_true_eq, List.all_eq_true, hp]
  refine ⟨⟨⟨rfl, hl⟩, ?_⟩, fun x hx => ?_⟩
  · rw [whole, clean_cons, clean47, Bool.true_and]
    exact (clean_jn l).2 fun x hx => (h x hx).2.2.2.2
  · obtain ⟨a, b, c, d, e⟩ := h x hx
    simp [badPart, a, c, d]
theorem step_good {l : List (List UInt8)} {x : List UInt8} (h : ∀ y ∈ l, good y) (h47 : 47 ∉ x) (hc : clean x = true) : ∀ y ∈ step l x, good y := by
  unfold step
  split
  · exact h
  · split
    · intro y hy; exact h y (List.dropLast_subset _ hy)
    · rename_i h1 h2
      intro y hy
      rcases List.mem_append.1 hy with hy | hy
      · exact h y hy
      · rw [List.mem_singleton] at hy; subst hy
        exact ⟨fun e => h1 (.inl e), h47, fun e => h1 (.inr e), h2, hc⟩
theorem fold_good : ∀ (xs l : List (List UInt8)), (∀ y ∈ l, good y) → (∀ x ∈ xs, 47 ∉ x ∧ clean x = true) → ∀ y ∈ xs.foldl step l, good y
  | [], _, h, _ => h
  | x :: xs, l, h, hx => fold_good xs (step l x) (step_good h (hx x (List.mem_cons_self ..)).1 (hx x (List.mem_cons_self ..)).2) (fun z hz => hx z (List.mem_cons_of_mem _ hz))
/-- Of good parts nothing is dropped. -/
theorem fold_plain : ∀ (xs l : List (List UInt8)), (∀ x ∈ xs, good x) → xs.foldl step l = l ++ xs
  | [], l, _ => by simp
  | x :: xs, l, h => by
    have hx := h x (List.mem_cons_self ..)
    rw [List.foldl_cons, step, if_neg (fun e => e.elim hx.1 hx.2.2.1), if_neg hx.2.2.2.1, fold_plain xs _ (fun z hz => h z (List.mem_cons_of_mem _ hz)), List.append_assoc]
    rfl
/-- Where an argument leads may be. -/
theorem join_may {cwd arg : List UInt8} (h : (join cwd arg).2 = .ok) : may (join cwd arg).1 = true ∧ parts (join cwd arg).1 = (cut 47 arg).foldl step (if arg.head? = some 47 then [] else parts cwd) ∧ may cwd = true ∧ clean arg = true ∧ (join cwd arg).1 = lead cwd arg := by
  unfold join at h ⊢
  split at h
  · cases h
  · rename_i h1
    split at h
    · cases h
    · rename_i h2
      split at h
      · cases h
      · rename_i h3
        rw [if_neg h1, if_neg h2, if_neg h3]
        have hm : may cwd = true := by simpa using h1
        have hc : clean arg = true := by simpa using h2
        have hg := fold_good (cut 47 arg) (if arg.head? = some 47 then [] else parts cwd) (by split; · simp
                                                                                              · exact (may_good hm).1) (fun x hx => ⟨cut_mem 47 _ x hx, clean_cut hc x hx⟩)
        have := good_may hg (by simp only [lead] at h3; omega)
        exact ⟨this.1, this.2, hm, hc, rfl⟩
end Go.Proofs.YtipojdjdlnafmaaDoor.PathP
