/- Laws on maps that a call makes and keeps to itself: a block of entries read as a list of keys and values, for any key type whose keys are found by plain comparison. -/
import Derived.WalkKit
import Derived.MapKept
import Derived.Maps.OwnOps
import Derived.Maps.OwnSet
import Derived.Deep.Draws
import Derived.ChangeMaps4
namespace Go.Proofs.Ytjfddeflkehccaa.MapLaw
open Go Go.RowKit

/-- The first place of a key, and its value. -/
def lk {κ : Type} [DecidableEq κ] (k : κ) : List (κ × Value) → Nat → Option (Nat × Value)
  | [], _ => none
  | (a, v) :: r, i => if k = a then some (i, v) else lk k r (i + 1)

/-- The value at a key. -/
def at_ {κ : Type} [DecidableEq κ] (k : κ) (l : List (κ × Value)) : Option Value := (lk k l 0).map (·.2)

/-- The list behind a store. -/
def put {κ : Type} [DecidableEq κ] (k : κ) (v : Value) : List (κ × Value) → List (κ × Value)
  | [] => [(k, v)]
  | (a, u) :: r => if k = a then (k, v) :: r else (a, u) :: put k v r

/-- What the laws ask of a key's type. -/
structure KeyOk {κ : Type} [DecidableEq κ] (P : Program) (kt : TypeId) (kenc : κ → Value) : Prop where
  check : ∀ (w : World) (em : Bool) (k : κ), (Instr.checkKey em 10000 kt (kenc k)).run P w = .ok () w
  find : ∀ (w : World) (k : κ) (es : List MapEntry) (l : List (κ × Value)), es.map (fun e => (e.key, e.val)) = l.map (fun p => (kenc p.1, p.2)) →
    (Instr.findKey kt (kenc k) es).run P w = .ok (lk k l 0) w
  stays : ∀ (w : World) (k : κ), (Instr.keyThatStays (kenc k) (kenc k)).run P w = .ok (kenc k) w

/-- Block b is a map that reads as the list l. -/
def Is {κ : Type} (kenc : κ → Value) (w : World) (b : Nat) (l : List (κ × Value)) : Prop :=
  ∃ es clock, w.heap[b]? = some (.map es clock) ∧ es.toList.map (fun e => (e.key, e.val)) = l.map (fun p => (kenc p.1, p.2))

section
variable {κ : Type} {kenc : κ → Value} {w : World} {b : Nat} {l : List (κ × Value)}
theorem Is.made (kenc : κ → Value) (w : World) : Is kenc (w.alloc (.map #[] 0)) w.heap.size [] := ⟨#[], 0, (MapKept.heap_alloc w _).1, rfl⟩
theorem Is.lt (h : Is kenc w b l) : b < w.heap.size := by obtain ⟨es, c, hb, _⟩ := h; exact (Array.getElem?_eq_some_iff.1 hb).1
theorem Is.move {w' : World} (h : Is kenc w b l) (hm : w'.heap[b]? = w.heap[b]?) : Is kenc w' b l := by obtain ⟨es, c, hb, hl⟩ := h; exact ⟨es, c, hm.trans hb, hl⟩
theorem Is.alloc (h : Is kenc w b l) (o : Obj) : Is kenc (w.alloc o) b l := h.move (Below.heap_alloc _ _ _ h.lt)
theorem Is.drew (h : Is kenc w b l) : Is kenc w.drew b l := h.move rfl
theorem Is.drewN (h : Is kenc w b l) (n : Nat) : Is kenc (w.drewN n) b l := h.move rfl
theorem Is.below (h : Is kenc w b l) {w' : World} (hb : Below w.heap.size w w') : Is kenc w' b l := h.move (hb.block _ h.lt)
theorem Is.grown (h : Is kenc w b l) {w' : World} {row : Option Nat} (hg : w.grownBy w' row) (hne : some b ≠ row) : Is kenc w' b l := h.move (hg.block b h.lt hne)
theorem Is.size {w : World} (h : Is kenc w b l) : ∃ es c, w.heap[b]? = some (.map es c) ∧ es.size = l.length := by
  obtain ⟨es, c, hb, hl⟩ := h
  refine ⟨es, c, hb, ?_⟩
  have := congrArg List.length hl
  simpa using this
end

section
variable {κ : Type} [DecidableEq κ] {kenc : κ → Value} {P : Program} {kt : TypeId} {w : World} {b : Nat} {l : List (κ × Value)}

theorem lk_shift (k : κ) : ∀ (l : List (κ × Value)) (i : Nat), lk k l i = (lk k l 0).map (fun p => (p.1 + i, p.2))
  | [], i => rfl
  | (a, v) :: r, i => by
    unfold lk
    split
    · simp
    · rw [lk_shift k r (i + 1), lk_shift k r (0 + 1)]
      cases lk k r 0 <;> simp; omega

theorem run_lookup (K : KeyOk P kt kenc) {t e : TypeId} (ht : P.underlying t = some (.map kt e)) {z : Value} (hz : (zeroValue e).run P w = .ok z w) (h : Is kenc w b l) (k : κ) (c : Bool) :
    (Instr.lookup t (.map (some b)) (kenc k) c).run P w = .ok (if c then .tuple #[(at_ k l).getD z, .bool (at_ k l).isSome] else (at_ k l).getD z) w := by
  obtain ⟨es, cl, hb, hl⟩ := h
  have h1 := K.find w k es.toList l hl
  cases hx : lk k l 0 with
  | none =>
    rw [hx] at h1
    cases c <;> simp [Instr.lookup, run_underlying ht, MapKept.run_getObj_map hb, K.check, h1, hz, Result.andThen, at_, hx]
  | some p =>
    rw [hx] at h1
    cases c <;> simp [Instr.lookup, run_underlying ht, MapKept.run_getObj_map hb, K.check, h1, Result.andThen, at_, hx]

theorem modify_toList (es : Array MapEntry) (i : Nat) (f : MapEntry → MapEntry) : (es.modify i f).toList = es.toList.modify i f := by simp

theorem lk_spec (k : κ) : ∀ (l : List (κ × Value)) (i : Nat) (v : Value), lk k l 0 = some (i, v) → l[i]? = some (k, v) ∧ ∀ u, put k u l = l.set i (k, u)
  | [], _, _, h => by simp [lk] at h
  | (a, u) :: r, i, v, h => by
    unfold lk at h
    split at h
    · rename_i e
      subst e
      simp at h
      obtain ⟨rfl, rfl⟩ := h
      exact ⟨by simp, fun u => by simp [put]⟩
    · rename_i e
      rw [lk_shift] at h
      cases hr : lk k r 0 with
      | none => rw [hr] at h; simp at h
      | some p =>
        obtain ⟨j, x⟩ := p
        rw [hr] at h
        simp at h
        obtain ⟨rfl, rfl⟩ := h
        obtain ⟨h1, h2⟩ := lk_spec k r j x hr
        exact ⟨by simpa using h1, fun u => by simp [put, e, h2 u]⟩

theorem put_new (k : κ) (u : Value) : ∀ (l : List (κ × Value)), lk k l 0 = none → put k u l = l ++ [(k, u)]
  | [], _ => rfl
  | (a, x) :: r, h => by
    unfold lk at h
    split at h
    · cases h
    · rename_i e
      rw [lk_shift] at h
      simp at h
      simp [put, e, put_new k u r h]

theorem run_update (K : KeyOk P kt kenc) {t e : TypeId} (ht : P.underlying t = some (.map kt e)) (h : Is kenc w b l) (k : κ) (v : Value) :
    ∃ w', (Instr.mapUpdate t (.map (some b)) (kenc k) v).run P w = .ok () w' ∧ Is kenc w' b (put k v l) ∧ w.grownBy w' (some b) := by
  obtain ⟨es, cl, hb, hl⟩ := h
  have h1 := K.find w k es.toList l hl
  have hlt := (Array.getElem?_eq_some_iff.1 hb).1
  have gr : ∀ o, w.grownBy (ChangeMaps.setBlock w b o) (some b) := fun o =>
    ⟨rfl, rfl, rfl, by simp [ChangeMaps.setBlock], fun i _ hi => ChangeMaps.heap_setBlock_other hb _ (fun e => hi (by rw [e]))⟩
  cases hx : lk k l 0 with
  | none =>
    rw [hx] at h1
    refine ⟨ChangeMaps.setBlock w b (.map (es.push { key := kenc k, val := v, born := cl }) (cl + 1)), ?_, ⟨_, _, ChangeMaps.heap_setBlock_same hb _, ?_⟩, gr _⟩
    · simp [Instr.mapUpdate, run_underlying ht, MapKept.run_getObj_map hb, K.check, h1, MapKept.run_setObj_map _ hb, Result.andThen, ChangeMaps.setBlock]
    · rw [put_new k v l hx]; simp [hl]
  | some p =>
    obtain ⟨i, u⟩ := p
    rw [hx] at h1
    obtain ⟨h2, h3⟩ := lk_spec k l i u hx
    have h4 : (es.toList.map (fun e => (e.key, e.val)))[i]? = some (kenc k, u) := by rw [hl]; simp [h2]
    obtain ⟨e0, he0, hk0⟩ : ∃ e0, es[i]? = some e0 ∧ e0.key = kenc k := by
      rw [List.getElem?_map] at h4
      cases hh : es.toList[i]? with
      | none => rw [hh] at h4; cases h4
      | some e0 =>
        rw [hh] at h4
        simp at h4
        exact ⟨e0, by simpa using hh, h4.1⟩
    refine ⟨ChangeMaps.setBlock w b (.map (es.modify i fun e => { e with key := kenc k, val := v }) cl), ?_, ⟨_, _, ChangeMaps.heap_setBlock_same hb _, ?_⟩, gr _⟩
    · simp [Instr.mapUpdate, run_underlying ht, MapKept.run_getObj_map hb, K.check, h1, he0, hk0, K.stays, MapKept.run_setObj_map _ hb, Result.andThen, ChangeMaps.setBlock]
    · rw [h3 v]
      apply List.ext_getElem?
      intro j
      have hj := congrArg (fun z => z[j]?) hl
      simp only [List.getElem?_map, Array.getElem?_toList] at hj
      simp only [List.getElem?_map, Array.getElem?_toList, Array.getElem?_modify, List.getElem?_set]
      by_cases hij : i = j
      · subst hij
        simp [he0, (List.getElem?_eq_some_iff.1 h2).1]
      · simp [hij, hj]

end

/-! ### at the operation -/
section
variable {κ : Type} [DecidableEq κ] {kenc : κ → Value} {P : Program} {kt : TypeId} (w : World) {b : Nat} {l : List (κ × Value)}
variable {ops : Array Oper} {rest : List Oper} {o : Oper} {a : Act} {Q : Exit → Act → World → Prop}

theorem wp_lookup (hg : o.guard = none) (m x : Operand) (t e : TypeId) (c : Bool) (hop : o.op = Op.lookup t m x c) (K : KeyOk P kt kenc) (ht : P.underlying t = some (.map kt e)) {z : Value} (hz : (zeroValue e).run P w = .ok z w)
    (hm : a.eval m = .map (some b)) (h : Is kenc w b l) (k : κ) (hx : a.eval x = kenc k)
    (hK : wpList P ops Q rest (a.put o.dst (if c then .tuple #[(at_ k l).getD z, .bool (at_ k l).isSome] else (at_ k l).getD z)) w) : wpList P ops Q (o :: rest) a w := by
  refine wpList_plain hg fun K' hK' => ?_
  have hrun := run_lookup K ht hz h k c
  unfold Oper.wp
  simp only [execOp, hop, hm, hx]
  simp [hrun, Result.andThen]
  exact hK' _ _ (by simpa using hK)

theorem wp_update (hg : o.guard = none) (m x v : Operand) (t e : TypeId) (hop : o.op = Op.mapUpdate t m x v) (K : KeyOk P kt kenc) (ht : P.underlying t = some (.map kt e))
    (hm : a.eval m = .map (some b)) (h : Is kenc w b l) (k : κ) (hx : a.eval x = kenc k) (val : Value) (hv : a.eval v = val)
    (hK : ∀ w', Is kenc w' b (put k val l) → w.grownBy w' (some b) → wpList P ops Q rest (a.put o.dst undef) w') : wpList P ops Q (o :: rest) a w := by
  refine wpList_plain hg fun K' hK' => ?_
  obtain ⟨w', hrun, r1, r2⟩ := run_update K ht h k val
  unfold Oper.wp
  simp [execOp, hop, hm, hx, hv, hrun, Result.andThen]
  exact hK' _ _ (hK w' r1 r2)

omit [DecidableEq κ] in
theorem wp_len (hg : o.guard = none) (m : Operand) (t e : TypeId) (hop : o.op = Op.call { callee := Callee.builtin Builtin.len, args := #[m], argTypes := #[t] })
    (ht : P.underlying t = some (.map kt e)) (hm : a.eval m = .map (some b)) (h : Is kenc w b l)
    (hK : wpList P ops Q rest (a.put o.dst (.int .i64 l.length)) w) : wpList P ops Q (o :: rest) a w := by
  refine wpList_plain hg fun K' hK' => ?_
  obtain ⟨es, c, hb, hs⟩ := h.size
  have hrun : ∀ ty, (Builtin.len_ #[t] ty #[.map (some b)]).run P w = .ok (.int .i64 l.length) w := fun ty => by
    simp [Builtin.len_, run_underlying ht, MapKept.run_getObj_map hb, goInt, Result.andThen, hs]
  unfold Oper.wp
  simp [execOp, hop, resolve, invoke, builtin, hm, hrun o.type, Result.andThen]
  exact hK' _ _ hK
end

/-! ### keys -/
theorem find_plain {κ : Type} [DecidableEq κ] {P : Program} {kt : TypeId} {kenc : κ → Value} {d : TypeDesc} (hk : P.underlying kt = some d) (hs : ∀ a b : κ, Instr.sameNow d (kenc a) (kenc b) = some (decide (a = b)))
    (w : World) (k : κ) (es : List MapEntry) (l : List (κ × Value)) (hl : es.map (fun e => (e.key, e.val)) = l.map (fun p => (kenc p.1, p.2))) : (Instr.findKey kt (kenc k) es).run P w = .ok (lk k l 0) w := by
  have h : ∀ (es : List MapEntry) (l : List (κ × Value)) (i : Nat), es.map (fun e => (e.key, e.val)) = l.map (fun p => (kenc p.1, p.2)) → Instr.findNow d (kenc k) es i = some (lk k l i) := by
    intro es
    induction es with
    | nil => intro l i h; cases l <;> simp at h; rfl
    | cons e es ih =>
      intro l i h
      cases l with
      | nil => simp at h
      | cons p r =>
        simp at h
        obtain ⟨⟨h1, h2⟩, h3⟩ := h
        unfold Instr.findNow lk
        rw [h1, hs, h2]
        by_cases e : k = p.1
        · simp [e]
        · simp [e, ih r (i + 1) (by simpa using h3)]
  simp [Instr.findKey, run_underlying hk, h es l 0 hl, Result.andThen]

theorem beq_str (a b : ByteArray) : (a == b) = decide (a = b) := by
  cases a with | mk a => cases b with | mk b =>
  show (a == b) = _
  by_cases h : a = b
  · subst h; simp
  · rw [beq_eq_false_iff_ne.2 h, decide_eq_false (by simpa using h)]

theorem int_key {P : Program} {kt : TypeId} {q : IntKind} (hk : P.underlying kt = some (.int q)) : KeyOk P kt (Value.int q) where
  check w em k := MapKept.run_checkKey hk (k := .int q k) (show MapKept.IsKey (.int q) (.int q k) from rfl) em 9999
  find := find_plain hk (fun a b => by simp only [Instr.sameNow, if_true]; rfl)
  stays w k := MapKept.run_keyThatStays (show MapKept.IsKey (.int q) (.int q k) from rfl)

theorem string_key {P : Program} {kt : TypeId} (hk : P.underlying kt = some .string) : KeyOk P kt Value.string where
  check w em k := MapKept.run_checkKey hk (k := .string k) (show MapKept.IsKey .string (.string k) from trivial) em 9999
  find := find_plain hk (fun a b => by simp only [Instr.sameNow, beq_str])
  stays w k := MapKept.run_keyThatStays (show MapKept.IsKey .string (.string k) from trivial)

/-! ### what a list of stores leaves -/
section
variable {κ : Type} [DecidableEq κ]
theorem at_nil (k : κ) : at_ k ([] : List (κ × Value)) = none := rfl
theorem at_cons (k a : κ) (v : Value) (r : List (κ × Value)) : at_ k ((a, v) :: r) = if k = a then some v else at_ k r := by
  unfold at_
  rw [lk]
  split
  · rfl
  · rw [lk_shift]; cases lk k r 0 <;> rfl
theorem at_put (k x : κ) (v : Value) : ∀ l : List (κ × Value), at_ k (put x v l) = if k = x then some v else at_ k l
  | [] => by simp [put, at_cons]
  | (a, u) :: r => by
    unfold put
    split
    · rename_i e; subst e
      rw [at_cons, at_cons]
      split <;> simp [*]
    · rename_i e
      rw [at_cons, at_cons, at_put k x v r]
      by_cases h : k = a
      · subst h; simp [Ne.symm e]
      · simp [h]
theorem length_put (x : κ) (v : Value) : ∀ l : List (κ × Value), (put x v l).length = if (at_ x l).isSome then l.length else l.length + 1
  | [] => rfl
  | (a, u) :: r => by
    unfold put
    rw [at_cons]
    split
    · simp
    · rw [List.length_cons, length_put x v r]; split <;> simp
end
end Go.Proofs.Ytjfddeflkehccaa.MapLaw
