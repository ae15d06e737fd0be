/- Paths, plain: the laws of where arguments lead. -/
import Derived.Test.YtipojdjdlnafmaaDoorPathQ
namespace Go.Proofs.YtipojdjdlnafmaaDoor.PathP
open Go Go.Proofs.YtipojdjdlnafmaaDoor.Cut

theorem cut_split (c : UInt8) (b : List UInt8) : ∀ a : List UInt8, cut c (a ++ c :: b) = cut c a ++ cut c b
  | [] => by simp [cut]
  | x :: a => by
    have ih := cut_split c b a
    rw [List.cons_append, cut]
    conv => rhs; rw [cut]
    split
    · rw [ih]; rfl
    · rw [ih]
      have hn := cut_ne c a
      match h : cut c a with
      | [] => exact absurd h hn
      | p :: r => rfl
theorem step_empty (l : List (List UInt8)) : step l [] = l := by simp [step]
theorem step_dot (l : List (List UInt8)) : step l [46] = l := by simp [step]
theorem step_up (l : List (List UInt8)) : step l [46, 46] = l.dropLast := by simp [step]
theorem step_good_eq {l : List (List UInt8)} {x : List UInt8} (h : good x) : step l x = l ++ [x] := by
  rw [step, if_neg (fun e => e.elim h.1 h.2.2.1), if_neg h.2.2.2.1]
/-- A path that may be, cut by strokes, leads from nothing to its parts. -/
theorem fold_self {s : List UInt8} (h : may s = true) : (cut 47 s).foldl step [] = parts s ∧ s.head? = some 47 := by
  have h0 := (may_good h).1
  have hh : s.head? = some 47 := by simp only [may, Bool.and_eq_true, decide_eq_true_eq] at h; exact h.1.1.1
  refine ⟨?_, hh⟩
  cases s with
  | nil => cases hh
  | cons c r =>
    obtain rfl : c = 47 := by simpa using hh
    rw [cut, if_pos rfl, List.foldl_cons, step_empty]
    cases r with
    | nil => rfl
    | cons x r =>
      have hp : parts (47 :: x :: r) = cut 47 (x :: r) := by
        unfold parts; rw [if_neg (by simp only [List.length_cons]; omega)]; rfl
      rw [hp] at h0 ⊢
      rw [fold_plain _ _ h0]; rfl
theorem may_clean {s : List UInt8} (h : may s = true) : clean s = true ∧ s.length ≤ 200 ∧ s.head? = some 47 := by
  simp only [may, Bool.and_eq_true, decide_eq_true_eq] at h
  exact ⟨h.1.2, h.1.1.2, h.1.1.1⟩
theorem may_root : may [47] = true := by decide
theorem join_eq {cwd arg : List UInt8} (h1 : may cwd = true) (h2 : clean arg = true) (h3 : (lead cwd arg).length ≤ 200) : join cwd arg = (lead cwd arg, .ok) := by
  rw [join, if_neg (by simp [h1]), if_neg (by simp [h2]), if_neg (by omega)]
theorem join_fail {cwd arg : List UInt8} (h : (join cwd arg).2 ≠ .ok) : (join cwd arg).1 = [] := by
  unfold join at h ⊢
  split
  · rfl
  · split
    · rfl
    · split
      · rfl
      · rename_i h1 h2 h3
        rw [if_neg h1, if_neg h2, if_neg h3] at h
        exact absurd rfl h
/-- An argument that is a path leads there, from wherever. -/
theorem join_abs {cwd s : List UInt8} (hc : may cwd = true) (h : may s = true) : join cwd s = (s, .ok) := by
  obtain ⟨f1, f2⟩ := fold_self h
  have hl : lead cwd s = s := by rw [lead, if_pos f2, f1, (may_good h).2.1]
  rw [join_eq hc (may_clean h).1 (by rw [hl]; exact (may_clean h).2.1), hl]
theorem join_stay {s x : List UInt8} (h : may s = true) (hx : x = [] ∨ x = [46]) : join s x = (s, .ok) := by
  have hl : lead s x = s := by
    rcases hx with rfl | rfl
    · rw [lead, if_neg (by simp), cut, List.foldl_cons, step_empty, List.foldl_nil, (may_good h).2.1]
    · rw [lead, if_neg (by simp), show cut 47 [46] = [[46]] from by decide, List.foldl_cons, step_dot, List.foldl_nil, (may_good h).2.1]
  rw [join_eq h (by rcases hx with rfl | rfl <;> decide) (by rw [hl]; exact (may_clean h).2.1), hl]
theorem join_abs_dot {cwd s : List UInt8} (hc : may cwd = true) (h : may s = true) : join cwd (s ++ [47, 46]) = (s, .ok) := by
  obtain ⟨f1, f2⟩ := fold_self h
  have hl : lead cwd (s ++ [47, 46]) = s := by
    rw [lead, if_pos (by cases s with | nil => cases f2 | cons c r => exact f2), cut_split, List.foldl_append, f1, show cut 47 [46] = [[46]] from by decide, List.foldl_cons, step_dot, List.foldl_nil, (may_good h).2.1]
  rw [join_eq hc (by rw [clean_app, (may_clean h).1]; decide) (by rw [hl]; exact (may_clean h).2.1), hl]

/-- One part more. -/
theorem may_part {part : List UInt8} (h : may (47 :: part) = true) (h0 : part ≠ []) (h47 : 47 ∉ part) : good part ∧ part.length ≤ 199 := by
  have h1 := (may_good h).1
  have hp : parts (47 :: part) = [part] := by
    unfold parts; rw [if_neg (by have := List.length_pos_iff.2 h0; simp only [List.length_cons]; omega)]
    exact cut_plain 47 part h47
  rw [hp] at h1
  exact ⟨h1 part (List.mem_cons_self ..), by have := (may_clean h).2.1; simp only [List.length_cons] at this; omega⟩
theorem head_part {part : List UInt8} (h47 : 47 ∉ part) : part.head? ≠ some 47 := by
  cases part with
  | nil => simp
  | cons c r => simp only [List.head?_cons, ne_eq, Option.some.injEq]; intro e; exact h47 (by rw [e]; exact List.mem_cons_self ..)
theorem lead_part {cwd part : List UInt8} (h : good part) : lead cwd part = whole (parts cwd ++ [part]) := by
  rw [lead, if_neg (head_part h.2.1), cut_plain 47 part h.2.1, List.foldl_cons, step_good_eq h, List.foldl_nil]
theorem jn_snoc (c : UInt8) (p : List UInt8) : ∀ l : List (List UInt8), l ≠ [] → jn c (l ++ [p]) = jn c l ++ c :: p
  | [], h => absurd rfl h
  | [q], _ => rfl
  | q :: r :: t, _ => by
    have ih := jn_snoc c p (r :: t) (by simp)
    rw [List.cons_append, jn_cons c q (by simp), jn_cons c q (r := r :: t) (by simp), ih, List.append_assoc]; rfl
theorem whole_snoc {cwd part : List UInt8} (h : may cwd = true) : (whole (parts cwd ++ [part])).length ≤ cwd.length + part.length + 1 := by
  have h2 := (may_good h).2.1
  by_cases h0 : parts cwd = []
  · rw [h0] at h2 ⊢
    rw [← h2]; simp [whole, jn]
  · conv => rhs; rw [← h2]
    rw [whole, whole, jn_snoc 47 part _ h0]
    simp only [List.length_cons, List.length_append]; omega
theorem join_up {s : List UInt8} (h : may s = true) : (join s [46, 46]).2 = .ok ∧ (join s [46, 46]).1 = whole (parts s).dropLast := by
  have hl : lead s [46, 46] = whole (parts s).dropLast := by
    rw [lead, if_neg (by simp), show cut 47 [46, 46] = [[46, 46]] from by decide, List.foldl_cons, step_up, List.foldl_nil]
  have hg := (may_good h)
  have hlen : (whole (parts s).dropLast).length ≤ 200 := by
    rcases List.eq_nil_or_concat (parts s) with h0 | ⟨l, x, h0⟩
    · rw [h0]; simp [whole, jn]
    · rw [List.concat_eq_append] at h0
      have h2 := hg.2.2
      rw [← hg.2.1, h0] at h2
      rw [h0, List.dropLast_concat]
      cases l with
      | nil => simp [whole, jn]
      | cons q r =>
        rw [whole, jn_snoc 47 x _ (by simp)] at h2
        rw [whole]
        simp only [List.length_cons, List.length_append] at h2 ⊢; omega
  rw [join_eq h (by decide) (by rw [hl]; exact hlen), hl]
  exact ⟨rfl, rfl⟩
theorem join_part_up {cwd part : List UInt8} (h : may cwd = true) (hp : good part) : join cwd (part ++ [47, 46, 46]) = (cwd, .ok) := by
  have hh : (part ++ [47, 46, 46]).head? ≠ some 47 := by
    have := head_part hp.2.1
    cases part with
    | nil => exact absurd rfl hp.1
    | cons c r => exact this
  have hl : lead cwd (part ++ [47, 46, 46]) = cwd := by
    rw [lead, if_neg hh, cut_split, cut_plain 47 part hp.2.1, show cut 47 [46, 46] = [[46, 46]] from by decide]
    simp only [List.foldl_append, List.foldl_cons, List.foldl_nil, step_good_eq hp, step_up, List.dropLast_concat, (may_good h).2.1]
  rw [join_eq h (by rw [clean_app, hp.2.2.2.2]; decide) (by rw [hl]; exact (may_clean h).2.1), hl]
/-- What PathUp says. -/
theorem up_law {cwd part : List UInt8} (h : may cwd = true) (hp : good part) :
    ((join cwd part).2 ≠ .ok → (join cwd part).2 = .over ∧ 200 ≤ cwd.length + part.length) ∧
    ((join cwd part).2 = .ok → join (join cwd part).1 [46, 46] = (cwd, .ok) ∧ under cwd (join cwd part).1 = true ∧ (join cwd part).1 ≠ cwd) := by
  have hl := lead_part (cwd := cwd) hp
  have hw := whole_snoc (part := part) h
  by_cases h3 : (lead cwd part).length ≤ 200
  · have hj := join_eq h hp.2.2.2.2 h3
    rw [hj]
    refine ⟨fun e => absurd rfl e, fun _ => ?_⟩
    have hgood : ∀ x ∈ parts cwd ++ [part], good x := by
      intro x hx
      rcases List.mem_append.1 hx with hx | hx
      · exact (may_good h).1 x hx
      · rw [List.mem_singleton] at hx; subst hx; exact hp
    obtain ⟨m1, m2⟩ := good_may hgood (by rw [← hl]; exact h3)
    rw [hl]
    obtain ⟨u1, u2⟩ := join_up m1
    refine ⟨?_, ?_, ?_⟩
    · rw [Prod.ext_iff]
      refine ⟨?_, u1⟩
      rw [u2, m2, List.dropLast_concat, (may_good h).2.1]
    · simp only [under, h, m1, m2, Bool.and_self, Bool.true_and, decide_eq_true_eq]
      exact ⟨[part], rfl⟩
    · intro e
      have := congrArg parts e
      rw [m2] at this
      have := congrArg List.length this
      simp at this
  · have hj : join cwd part = ([], .over) := by
      rw [join, if_neg (by simp [h]), if_neg (by simp [hp.2.2.2.2]), if_pos (by omega)]
    rw [hj]
    refine ⟨fun _ => ⟨rfl, ?_⟩, fun e => by cases e⟩
    rw [hl] at h3; omega

/-- Below. -/
theorem under_root {a : List UInt8} (h : may a = true) : under [47] a = true := by
  simp only [under, may_root, h, Bool.and_self, Bool.true_and, decide_eq_true_eq]
  exact ⟨parts a, rfl⟩
theorem under_self {a : List UInt8} (h : may a = true) : under a a = true := by
  simp [under, h]
theorem under_none {a b : List UInt8} (h : may a = false) : under a b = false ∧ under b a = false := by
  simp [under, h]
theorem under_trans {a b c : List UInt8} (h1 : under a b = true) (h2 : under b c = true) : under a c = true := by
  simp only [under, Bool.and_eq_true, decide_eq_true_eq] at h1 h2 ⊢
  exact ⟨⟨h1.1.1, h2.1.2⟩, h1.2.trans h2.2⟩
theorem under_anti {a b : List UInt8} (h1 : under a b = true) (h2 : under b a = true) : a = b := by
  simp only [under, Bool.and_eq_true, decide_eq_true_eq] at h1 h2
  have hp : parts a = parts b := h1.2.eq_of_length_le h2.2.length_le
  rw [← (may_good h1.1.1).2.1, ← (may_good h1.1.2).2.1, hp]

/-- Two arguments, one behind the other. -/
theorem twice_law {cwd a b : List UInt8} (h1 : (join cwd a).2 = .ok) (h2 : (join (join cwd a).1 b).2 = .ok) :
    (b.head? = some 47 → join [47] b = join (join cwd a).1 b) ∧
    (b.head? ≠ some 47 → join cwd (if a = [] then b else a ++ 47 :: b) = join (join cwd a).1 b) := by
  obtain ⟨m1, p1, c1, k1, l1⟩ := join_may h1
  obtain ⟨m2, p2, c2, k2, l2⟩ := join_may h2
  have e2 : join (join cwd a).1 b = (lead (join cwd a).1 b, .ok) := by rw [← l2, ← h2]
  have g2 : (lead (join cwd a).1 b).length ≤ 200 := by rw [← l2]; exact (may_clean m2).2.1
  rw [e2]
  constructor
  · intro hb
    have hl : lead [47] b = lead (join cwd a).1 b := by rw [lead, lead, if_pos hb, if_pos hb]
    rw [join_eq may_root k2 (by rw [hl]; exact g2), hl]
  · intro hb
    by_cases ha : a = []
    · rw [if_pos ha]
      have hs : (join cwd a).1 = cwd := by rw [ha, join_stay c1 (.inl rfl)]
      rw [hs] at e2 g2 ⊢
      exact join_eq c1 k2 g2
    · rw [if_neg ha]
      have hh : (a ++ 47 :: b).head? = a.head? := by cases a with | nil => exact absurd rfl ha | cons => rfl
      have hl : lead cwd (a ++ 47 :: b) = lead (join cwd a).1 b := by
        rw [lead, lead, if_neg hb, p1, hh, cut_split, List.foldl_append]
      rw [join_eq c1 (by rw [clean_app, k1, clean_cons, clean47, k2]; rfl) (by rw [hl]; exact g2), hl]

/-- A stroke at the end. -/
theorem down_stroke {cwd arg : List UInt8} (h : arg ≠ []) : join cwd (arg ++ [47]) = join cwd arg := by
  have hh : (arg ++ [47]).head? = arg.head? := by cases arg with | nil => exact absurd rfl h | cons => rfl
  have hl : lead cwd (arg ++ [47]) = lead cwd arg := by
    rw [lead, lead, hh, cut_split, List.foldl_append, cut, List.foldl_cons, step_empty, List.foldl_nil]
  have hc : clean (arg ++ [47]) = clean arg := by rw [clean_app, clean47, Bool.and_true]
  rw [join, join, hl, hc]
theorem cut_sub (c : UInt8) : ∀ l : List UInt8, ∀ p ∈ cut c l, ∀ x ∈ p, x ∈ l
  | [], p, hp, x, hx => by simp [cut] at hp; subst hp; cases hx
  | b :: l, p, hp, x, hx => by
    have ih := cut_sub c l
    unfold cut at hp
    split at hp
    · rcases List.mem_cons.1 hp with h | h
      · subst h; cases hx
      · exact List.mem_cons_of_mem _ (ih p h x hx)
    · match h : cut c l with
      | [] => exact absurd h (cut_ne c l)
      | q :: r =>
        rw [h] at hp ih
        rcases List.mem_cons.1 hp with h | h
        · subst h
          rcases List.mem_cons.1 hx with hx | hx
          · subst hx; exact List.mem_cons_self ..
          · exact List.mem_cons_of_mem _ (ih q (List.mem_cons_self ..) x hx)
        · exact List.mem_cons_of_mem _ (ih p (List.mem_cons_of_mem _ h) x hx)
theorem fold_down : ∀ (xs l : List (List UInt8)), (∀ x ∈ xs, 46 ∉ x) → l <+: xs.foldl step l
  | [], l, _ => List.prefix_rfl
  | x :: xs, l, h => by
    rw [List.foldl_cons]
    refine List.IsPrefix.trans ?_ (fold_down xs (step l x) fun y hy => h y (List.mem_cons_of_mem _ hy))
    have hx := h x (List.mem_cons_self ..)
    unfold step
    split
    · exact List.prefix_rfl
    · rw [if_neg (fun e => hx (by rw [e]; simp))]
      exact List.prefix_append _ _
theorem down_law {cwd arg : List UInt8} (h46 : 46 ∉ arg) (hh : arg.head? ≠ some 47) (h : (join cwd arg).2 = .ok) : under cwd (join cwd arg).1 = true := by
  obtain ⟨m1, p1, c1, k1, l1⟩ := join_may h
  simp only [under, c1, m1, Bool.and_self, Bool.true_and, decide_eq_true_eq]
  rw [p1, if_neg hh]
  exact fold_down _ _ fun x hx hx46 => h46 (cut_sub 47 arg x hx 46 hx46)

/-- Long paths. -/
def xs (n : Nat) : List UInt8 := 47 :: List.replicate n 120
theorem clean_x (n : Nat) : clean (List.replicate n 120) = true := by
  simp only [clean, List.all_eq_true]
  intro x hx
  rw [(List.mem_replicate.1 hx).2]; decide
theorem xs_good {n : Nat} (h : 0 < n) : good (List.replicate n 120) := by
  refine ⟨?_, ?_, ?_, ?_, clean_x n⟩
  · intro e; have := congrArg List.length e; simp at this; omega
  · intro e; exact absurd (List.mem_replicate.1 e).2 (by decide)
  · intro e; have := (List.mem_replicate.1 (show (46 : UInt8) ∈ List.replicate n 120 from by rw [e]; simp)).2; exact absurd this (by decide)
  · intro e; have := (List.mem_replicate.1 (show (46 : UInt8) ∈ List.replicate n 120 from by rw [e]; simp)).2; exact absurd this (by decide)
theorem good_y : good [121] := ⟨by simp, by decide, by decide, by decide, by decide⟩
theorem long_may {n : Nat} (h : n ≤ 199) : may (xs n) = true := by
  by_cases h0 : n = 0
  · subst h0; exact may_root
  · have := (good_may (l := [List.replicate n 120]) (by intro x hx; rw [List.mem_singleton] at hx; subst hx; exact xs_good (by omega)) (by simp [whole, jn]; omega)).1
    exact this
theorem long_not {n : Nat} (h : 200 ≤ n) : may (xs n) = false := by
  rw [may, show decide ((xs n).length ≤ 200) = false from by simp [xs]; omega]
  simp
theorem long_join {n : Nat} (h0 : 0 < n) (h : n ≤ 199) : (join (xs n) [121]).2 = (if 200 < n + 3 then .over else .ok) := by
  have hm := long_may h
  have hp : parts (xs n) = [List.replicate n 120] := parts_whole (l := [List.replicate n 120]) (by intro x hx; rw [List.mem_singleton] at hx; subst hx; exact ⟨(xs_good h0).1, (xs_good h0).2.1⟩)
  have hl : (lead (xs n) [121]).length = n + 3 := by
    rw [lead_part good_y, hp]; simp [whole, jn]
  rw [join, if_neg (by simp [hm]), if_neg (by decide), hl]
  split <;> rfl
theorem long_join0 : (join (xs 0) [121]).2 = .ok := by decide
theorem long_join_not {n : Nat} (h : 200 ≤ n) : join (xs n) [121] = ([], .arg) := by rw [join, if_pos (long_not h)]
end Go.Proofs.YtipojdjdlnafmaaDoor.PathP
