/- Paths, plain: which may be, where an argument leads, what is below what. -/
import Derived.Test.YtipojdjdlnafmaaDoorCut
namespace Go.Proofs.YtipojdjdlnafmaaDoor.PathP
open Go Go.Proofs.YtipojdjdlnafmaaDoor.Cut

def clean (l : List UInt8) : Bool := l.all fun c => decide (32 ≤ c.toNat) && decide (c.toNat ≤ 126)
def badPart (x : List UInt8) : Bool := x == [] || x == [46] || x == [46, 46]
/-- The parts of a path that begins by a stroke. -/
def parts (s : List UInt8) : List (List UInt8) := if s.length < 2 then [] else cut 47 (s.drop 1)
def may (s : List UInt8) : Bool := decide (s.head? = some 47) && decide (s.length ≤ 200) && clean s && (parts s).all fun x => !badPart x
def step (l : List (List UInt8)) (x : List UInt8) : List (List UInt8) := if x = [] ∨ x = [46] then l else if x = [46, 46] then l.dropLast else l ++ [x]
/-- The path of parts. -/
def whole (l : List (List UInt8)) : List UInt8 := 47 :: jn 47 l
def lead (cwd arg : List UInt8) : List UInt8 := whole ((cut 47 arg).foldl step (if arg.head? = some 47 then [] else parts cwd))
/-- Where an argument leads, and the error's number: 0 none, else by name. -/
inductive Err | ok | arg | form | over
  deriving DecidableEq
def join (cwd arg : List UInt8) : List UInt8 × Err :=
  if may cwd = false then ([], .arg) else if clean arg = false then ([], .form)
  else if 200 < (lead cwd arg).length then ([], .over) else (lead cwd arg, .ok)
def under (top s : List UInt8) : Bool := may top && may s && decide (parts top <+: parts s)

theorem parts_whole {l : List (List UInt8)} (h : ∀ x ∈ l, x ≠ [] ∧ 47 ∉ x) : parts (whole l) = l := by
  unfold parts whole
  cases l with
  | nil => simp [jn]
  | cons p r =>
    have hp := h p (List.mem_cons_self ..)
    have h1 : 0 < (jn 47 (p :: r)).length := by
      cases r with
      | nil => simp only [jn]; exact List.length_pos_iff.2 hp.1
      | cons q r => simp only [jn, List.length_append, List.length_cons]; omega
    rw [if_neg (by simp only [List.length_cons]; omega)]
    simp only [List.drop_succ_cons, List.drop_zero]
    exact cut_jn 47 _ (by simp) (fun x hx => (h x hx).2)
theorem whole_parts {s : List UInt8} (h : s.head? = some 47) : whole (parts s) = s := by
  cases s with
  | nil => cases h
  | cons c r =>
    obtain rfl : c = 47 := by simpa using h
    unfold parts whole
    by_cases hr : r = []
    · subst hr; simp [jn]
    · rw [if_neg (by have := List.length_pos_iff.2 hr; simp only [List.length_cons]; omega)]
      simp only [List.drop_succ_cons, List.drop_zero]
      rw [jn_cut]
theorem may_parts {s : List UInt8} (h : may s = true) : (∀ x ∈ parts s, x ≠ [] ∧ 47 ∉ x ∧ x ≠ [46] ∧ x ≠ [46, 46]) ∧ whole (parts s) = s := by
  simp only [may, Bool.and_eq_true, decide_eq_true_eq, List.all_eq_true] at h
  obtain ⟨⟨⟨h1, h2⟩, h3⟩, h4⟩ := h
  refine ⟨fun x hx => ?_, whole_parts h1⟩
  have hb := h4 x hx
  have h47 : 47 ∉ x := by
    unfold parts at hx
    split at hx
    · cases hx
    · exact cut_mem 47 _ x hx
  simp only [badPart, Bool.not_eq_true', Bool.or_eq_false_iff, beq_eq_false_iff_ne] at hb
  exact ⟨hb.1.1, h47, hb.1.2, hb.2⟩

/-- Each part with a stroke behind. -/
def seg : List (List UInt8) → List UInt8
  | [] => []
  | p :: r => p ++ 47 :: seg r
theorem jn_seg : ∀ {l : List (List UInt8)}, l ≠ [] → jn 47 l ++ [47] = seg l
  | [], h => absurd rfl h
  | [p], _ => by simp [jn, seg]
  | p :: q :: r, _ => by
    rw [jn, seg, List.append_assoc, List.cons_append, jn_seg (l := q :: r) (by simp)]
theorem seg_prefix : ∀ (a b : List (List UInt8)), (∀ x ∈ a, 47 ∉ x) → (∀ x ∈ b, 47 ∉ x) → (seg a <+: seg b ↔ a <+: b)
  | [], b, _, _ => by simp [seg]
  | p :: a, [], _, _ => by simp [seg]
  | p :: a, q :: b, ha, hb => by
    have ih := seg_prefix a b (fun x hx => ha x (List.mem_cons_of_mem _ hx)) (fun x hx => hb x (List.mem_cons_of_mem _ hx))
    rw [List.cons_prefix_cons, ← ih, seg, seg]
    constructor
    · rintro ⟨t, ht⟩
      have h1 := congrArg (cut 47) ht
      rw [List.append_assoc, List.cons_append, cut_app 47 _ p (ha p (List.mem_cons_self ..)), cut_app 47 _ q (hb q (List.mem_cons_self ..))] at h1
      have hpq : p = q := (List.cons.inj h1).1
      subst hpq
      rw [List.append_assoc, List.cons_append] at ht
      have h2 := List.append_cancel_left ht
      exact ⟨rfl, t, (List.cons.inj h2).2⟩
    · rintro ⟨rfl, t, ht⟩
      exact ⟨t, by rw [List.append_assoc, List.cons_append, ht]⟩
/-- Below, as the code sees it. -/
theorem under_prefix {top s : List UInt8} (ht : may top = true) (hs : may s = true) : (top = [47] ∨ (top ++ [47]) <+: (s ++ [47])) ↔ parts top <+: parts s := by
  obtain ⟨a1, a2⟩ := may_parts ht
  obtain ⟨b1, b2⟩ := may_parts hs
  have hsp := seg_prefix (parts top) (parts s) (fun x hx => (a1 x hx).2.1) (fun x hx => (b1 x hx).2.1)
  by_cases h0 : parts top = []
  · rw [h0] at a2 ⊢
    simp only [List.nil_prefix, iff_true]
    exact .inl (by rw [← a2]; rfl)
  · have hne : top ≠ [47] := fun e => h0 (by rw [e]; rfl)
    have e1 : top ++ [47] = 47 :: seg (parts top) := by
      conv => lhs; rw [← a2]
      rw [whole, List.cons_append, jn_seg h0]
    by_cases h1 : parts s = []
    · have e2 : s ++ [47] = [47, 47] := by
        conv => lhs; rw [← b2, h1]
        rfl
      rw [h1, e1, e2, List.prefix_nil]
      constructor
      · rintro (h | h)
        · exact absurd h hne
        · exfalso
          cases hp : parts top with
          | nil => exact h0 hp
          | cons p r =>
            rw [hp, seg] at h
            have hp0 := (a1 p (by rw [hp]; exact List.mem_cons_self ..)).1
            have := h.length_le
            have hpl := List.length_pos_iff.2 hp0
            simp only [List.length_cons, List.length_append, List.length_nil] at this
            omega
      · intro h; exact absurd h h0
    · have e2 : s ++ [47] = 47 :: seg (parts s) := by
        conv => lhs; rw [← b2]
        rw [whole, List.cons_append, jn_seg h1]
      rw [e1, e2, List.cons_prefix_cons]
      simp only [true_and, hsp]
      exact ⟨fun h => h.elim (fun h => absurd h hne) id, .inr⟩
end Go.Proofs.YtipojdjdlnafmaaDoor.PathP
