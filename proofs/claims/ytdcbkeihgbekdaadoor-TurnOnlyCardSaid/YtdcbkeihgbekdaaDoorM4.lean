/- Contracts and plain facts that the law's proof needs. -/
import Derived.Test.YtdcbkeihgbekdaaDoorM2
import Derived.WideShapes
import Derived.OpenShut
namespace Go.Proofs.YtdcbkeihgbekdaaDoor.Opens
open Go Go.RowKit Go.Proofs.YtdcbkeihgbekdaaDoorW.PrintWords
set_option linter.unusedVariables false

theorem mapM_each {α β : Type} {f : α → Option β} : ∀ {l : List α} {ys : List β}, l.mapM f = some ys → ∀ x ∈ l, ∃ y, f x = some y
  | [], _, _, x, hx => by cases hx
  | a :: r, ys, h, x, hx => by
    rw [List.mapM_cons] at h
    cases h1 : f a with
    | none => rw [h1] at h; cases h
    | some y =>
      rw [h1] at h
      cases h2 : r.mapM f with
      | none => simp [h2] at h
      | some z =>
        rcases List.mem_cons.1 hx with rfl | hx
        · exact ⟨y, h1⟩
        · exact mapM_each h2 x hx
theorem mapM_at {β : Type} {f : Nat → Option β} : ∀ {n : Nat} {ys : List β}, (List.range n).mapM f = some ys → ys.length = n ∧ ∀ i, i < n → f i = ys[i]?
  | n, ys, h => by
    have key : ∀ (l : List Nat) (ys : List β), l.mapM f = some ys → ys.length = l.length ∧ ∀ i (hi : i < l.length), f l[i] = ys[i]? := by
      intro l
      induction l with
      | nil => intro ys h; cases h; exact ⟨rfl, fun i hi => by simp at hi⟩
      | cons a r ih =>
        intro ys h
        rw [List.mapM_cons] at h
        cases h1 : f a with
        | none => rw [h1] at h; cases h
        | some y =>
          rw [h1] at h
          cases h2 : r.mapM f with
          | none => simp [h2] at h
          | some z =>
            rw [h2] at h
            have h' : y :: z = ys := by simpa using h
            subst h'
            obtain ⟨h3, h4⟩ := ih z h2
            refine ⟨by simp [h3], fun i hi => ?_⟩
            cases i with
            | zero => exact h1
            | succ i => exact h4 i (by simpa using hi)
    obtain ⟨h1, h2⟩ := key _ ys h
    rw [List.length_range] at h1
    exact ⟨h1, fun i hi => by have := h2 i (by simpa using hi); simpa using this⟩
theorem choose_list {α : Type} {P : Nat → α → Prop} : ∀ n : Nat, (∀ j, j < n → ∃ a, P j a) → ∃ xs : List α, xs.length = n ∧ ∀ j a, xs[j]? = some a → P j a
  | 0, _ => ⟨[], rfl, fun j a h => by simp at h⟩
  | n + 1, h => by
    obtain ⟨xs, hl, hx⟩ := choose_list n (fun j hj => h j (by omega))
    obtain ⟨a, ha⟩ := h n (by omega)
    refine ⟨xs ++ [a], by simp [hl], fun j b hj => ?_⟩
    by_cases e : j < xs.length
    · rw [List.getElem?_append_left e] at hj; exact hx j b hj
    · rw [List.getElem?_append_right (by omega)] at hj
      have e2 : j - xs.length = 0 := by
        rcases Nat.eq_zero_or_pos (j - xs.length) with h | h
        · exact h
        · rw [List.getElem?_eq_none (by simp; omega)] at hj; cases hj
      rw [e2] at hj
      have e3 : j = n := by omega
      subst e3
      have : a = b := by simpa using hj
      rw [← this]; exact ha

section
variable {H : Type} (enc : TypeId × Value → H) (P : Program) (W : World) (sp : Nat → Bool) (held : Bool)
/-- Cells that the form reads at a type are what the kind says, of a value that meets Q. -/
def Opn {α : Type} (d : Kd α) (t : TypeId) (Q : α → Prop) : Prop := ∀ (fuel : Nat) (cs : List Value) (y : DataW H × List MemPlace), DataW.trod enc P W 0 sp held fuel t cs = some y → ∃ a, d.K W a cs ∧ Q a
/-- The same of pieces: types and places. -/
def Opns {α : Type} (d : Kd α) (fs : List (TypeId × Nat)) (o : Nat) (Q : α → Prop) : Prop := ∀ (fuel : Nat) (cs : List Value), cs.length = o + d.sz → (∀ f ∈ fs, ∃ y, DataW.trod enc P W 0 sp held fuel f.1 ((cs.drop f.2).take (P.cellsOf f.1)) = some y) → ∃ a, d.K W a (cs.drop o) ∧ Q a
end
section
variable {H : Type} {enc : TypeId × Value → H} {P : Program} {W : World} {sp : Nat → Bool} {held : Bool}
theorem Opn.string {t : TypeId} (hu : P.underlying t = some .string) : Opn enc P W sp held Kd.string t (fun s => s.size ≤ 9223372036854775807) := by
  intro fuel cs y h
  cases fuel with
  | zero => cases h
  | succ fuel =>
    unfold DataW.trod at h
    rw [hu] at h
    split at h
    case h_4 =>
      rename_i s e1
      split at h
      · rename_i hs; exact ⟨s, rfl, by simpa [maxLen] using hs⟩
      · cases h
    all_goals first | (rename_i e _; cases e; done) | (rename_i e; cases e; done) | cases h
theorem Opn.bool {t : TypeId} (hu : P.underlying t = some .bool) : Opn enc P W sp held Kd.bool t (fun _ => True) := by
  intro fuel cs y h
  cases fuel with
  | zero => cases h
  | succ fuel =>
    unfold DataW.trod at h
    rw [hu] at h
    split at h
    case h_1 b e1 => exact ⟨b, rfl, trivial⟩
    all_goals first | (rename_i e _; cases e; done) | (rename_i e; cases e; done) | cases h
theorem Opn.int {t : TypeId} {k : IntKind} (hu : P.underlying t = some (.int k)) : Opn enc P W sp held (Kd.int k) t (fun n => (Lit.int k n).wf = true) := by
  intro fuel cs y h
  cases fuel with
  | zero => cases h
  | succ fuel =>
    unfold DataW.trod at h
    rw [hu] at h
    split at h
    case h_2 =>
      rename_i k1 k2 n e1
      cases e1
      split at h
      · rename_i hs
        obtain ⟨rfl, hw⟩ := hs
        exact ⟨n, rfl, hw⟩
      · cases h
    all_goals first | (rename_i e _; cases e; done) | (rename_i e; cases e; done) | cases h
theorem Opns.cons {α β : Type} {d1 : Kd α} {d2 : Kd β} {t : TypeId} {o : Nat} {fs : List (TypeId × Nat)} {Q1 : α → Prop} {Q2 : β → Prop} (hc : P.cellsOf t = d1.sz) (h1 : Opn enc P W sp held d1 t Q1) (h2 : Opns enc P W sp held d2 fs (o + d1.sz) Q2) :
    Opns enc P W sp held (Kd.pair d1 d2) ((t, o) :: fs) o (fun x => Q1 x.1 ∧ Q2 x.2) := by
  intro fuel cs hl hf
  have hsz : (Kd.pair d1 d2).sz = d1.sz + d2.sz := rfl
  obtain ⟨y, hy⟩ := hf _ (List.mem_cons_self ..)
  obtain ⟨a, ha, hqa⟩ := h1 fuel _ y hy
  obtain ⟨b, hb, hqb⟩ := h2 fuel cs (by rw [hl, hsz]; omega) (fun f hm => hf f (List.mem_cons_of_mem _ hm))
  refine ⟨(a, b), ⟨_, _, ?_, ha, hb⟩, hqa, hqb⟩
  show cs.drop o = ((cs.drop o).take (P.cellsOf t)) ++ cs.drop (o + d1.sz)
  rw [hc, ← List.drop_drop, List.take_append_drop]
theorem Opns.last {α : Type} {d : Kd α} {t : TypeId} {o : Nat} {Q : α → Prop} (hc : P.cellsOf t = d.sz) (h : Opn enc P W sp held d t Q) : Opns enc P W sp held d [(t, o)] o Q := by
  intro fuel cs hl hf
  obtain ⟨y, hy⟩ := hf _ (List.mem_cons_self ..)
  obtain ⟨a, ha, hq⟩ := h fuel _ y hy
  have e : (cs.drop o).take (P.cellsOf t) = cs.drop o := by rw [hc]; exact List.take_of_length_le (by rw [List.length_drop]; omega)
  have ha' : d.K W a ((cs.drop o).take (P.cellsOf t)) := ha
  rw [e] at ha'
  exact ⟨a, ha', hq⟩
theorem Opn.struct {α : Type} {d : Kd α} {t : TypeId} {fs : Array Field} {Q : α → Prop} (hu : P.underlying t = some (.struct fs)) (hc : P.cellsOf t = d.sz) (h : Opns enc P W sp held d (fs.toList.map fun f => (f.type, f.offset)) 0 Q) : Opn enc P W sp held d t Q := by
  intro fuel cs y hy
  cases fuel with
  | zero => cases hy
  | succ fuel =>
    unfold DataW.trod at hy
    rw [hu] at hy
    simp only at hy
    split at hy
    · rename_i hl
      cases hm : fs.toList.mapM (fun f => DataW.trod enc P W 0 sp held fuel f.type ((cs.drop f.offset).take (P.cellsOf f.type))) with
      | none => rw [hm] at hy; cases hy
      | some ys =>
        have := h fuel cs (by omega) (fun f hf => by
          obtain ⟨g, hg, rfl⟩ := List.mem_map.1 hf
          exact mapM_each hm g hg)
        simpa using this
    · cases hy
theorem Opn.array {α : Type} {d : Kd α} {t e : TypeId} {n : Nat} {Q : α → Prop} (hu : P.underlying t = some (.array n e)) (hc : P.cellsOf t = d.sz) (h : Opns enc P W sp held d ((List.range n).map fun i => (e, i * P.cellsOf e)) 0 Q) : Opn enc P W sp held d t Q := by
  intro fuel cs y hy
  cases fuel with
  | zero => cases hy
  | succ fuel =>
    unfold DataW.trod at hy
    rw [hu] at hy
    simp only at hy
    split at hy
    · rename_i hl
      cases hm : (List.range n).mapM (fun i => DataW.trod enc P W 0 sp held fuel e ((cs.drop (i * P.cellsOf e)).take (P.cellsOf e))) with
      | none => rw [hm] at hy; cases hy
      | some ys =>
        have := h fuel cs (by omega) (fun f hf => by
          obtain ⟨i, hi, rfl⟩ := List.mem_map.1 hf
          exact mapM_each hm i hi)
        simpa using this
    · cases hy
theorem add_add' (a : Addr) (x y : Nat) : (a.add x).add y = a.add (x + y) := by
  unfold Addr.add
  by_cases h0 : x = 0
  · subst h0; simp
  · by_cases h1 : y = 0
    · subst h1; simp [h0]
    · simp [h0, h1, Nat.add_assoc]
theorem Opn.slice {α : Type} {d : Kd α} {t e : TypeId} {Q : α → Prop} (hu : P.underlying t = some (.slice e)) (hc : P.cellsOf e = d.sz) (h : Opn enc P W sp held d e Q) : Opn enc P W sp held (Kd.slice e d) t (fun xs => xs.length ≤ 9223372036854775807 ∧ ∀ x ∈ xs, Q x) := by
  intro fuel cs y hy
  cases fuel with
  | zero => cases hy
  | succ fuel =>
    unfold DataW.trod at hy
    rw [hu] at hy
    split at hy
    case h_7 => 
      exact ⟨[], ⟨none, 0, rfl, Nat.le_refl _, ⟨rfl, by simp, fun h => by simp at h⟩⟩, by simp, fun x hx => by cases hx⟩
    case h_8 =>
      rename_i e' a len cap e1
      cases e1
      simp only at hy
      split at hy
      · rename_i hb
        obtain ⟨_, hlc, hcm⟩ := hb
        cases hm : (List.range len).mapM (fun i => (W.cells? 0 (a.add (i * P.cellsOf e)) (P.cellsOf e)).bind (DataW.trod enc P W 0 sp held fuel e)) with
        | none => rw [hm] at hy; cases hy
        | some ys =>
          have hm9 : len ≤ 9223372036854775807 := by have : maxLen = 9223372036854775807 := rfl; omega
          obtain ⟨xs, hxl, hxs⟩ := choose_list (P := fun j x => ∃ c : List Value, c.length = d.sz ∧ d.K W x c ∧ Q x ∧ ∀ i u, c[i]? = some u → W.cell? (a.add (j * d.sz + i)) = some u) len (fun j hj => by
            obtain ⟨z, hz⟩ := mapM_each hm j (List.mem_range.2 hj)
            obtain ⟨c, hc1, hc2⟩ := Option.bind_eq_some_iff.1 hz
            obtain ⟨x, hx, hq⟩ := h fuel c z hc2
            unfold World.cells? at hc1
            rw [if_pos (Nat.zero_le _)] at hc1
            obtain ⟨h3, h4⟩ := mapM_at hc1
            refine ⟨x, c, by rw [h3, hc], hx, hq, fun i u hi => ?_⟩
            have hi' : i < P.cellsOf e := by have := (List.getElem?_eq_some_iff.1 hi).1; omega
            have := h4 i hi'
            rw [add_add', hc] at this
            rw [this, hi])
          subst hxl
          refine ⟨xs, ⟨some a, cap, rfl, hlc, ⟨rfl, hm9, fun _ => ⟨a, rfl, fun j p hp => ?_⟩⟩⟩, hm9, fun x hx => ?_⟩
          · obtain ⟨c, k1, k2, _, k4⟩ := hxs j p hp
            exact ⟨c, k1, k2, k4⟩
          · obtain ⟨j, hj⟩ := List.getElem?_of_mem hx
            obtain ⟨c, _, _, k3, _⟩ := hxs j x hj
            exact k3
      · cases hy
    all_goals first | (rename_i e _; cases e; done) | (rename_i e; cases e; done) | cases hy
/-- An argument that is a struct or an array. -/
theorem agg_arg {α : Type} {d : Kd α} {t : TypeId} {Q : α → Prop} {base : Nat} {v : Value} {dt : DataW H} {p : List MemPlace} (hu : (match P.underlying t with | some (.struct _) | some (.array _ _) => true | _ => false) = true) (ho : Opn enc P W sp held d t Q) (hv : Value.okWide P W .any base t v) (h : DataW.Trod enc P W 0 sp held t v dt p) :
    ∃ cs x, v = .agg cs.toArray ∧ d.K W x cs ∧ Q x := by
  obtain ⟨fuel, hf⟩ := h
  obtain ⟨x, hK, hq⟩ := ho fuel _ _ hf
  unfold Value.okWide at hv
  split at hv
  · obtain ⟨cs, rfl, _⟩ := hv
    exact ⟨cs.toList, x, by simp, by simpa [Value.cells] using hK, hq⟩
  · obtain ⟨cs, rfl, _⟩ := hv
    exact ⟨cs.toList, x, by simp, by simpa [Value.cells] using hK, hq⟩
  · rename_i h1 h2
    split at hu
    · rename_i e; exact absurd e (h1 _)
    · rename_i e; exact absurd e (h2 _ _)
    · cases hu
end
end Go.Proofs.YtdcbkeihgbekdaaDoor.Opens

namespace Go.Proofs.YtdcbkeihgbekdaaDoor.TurnOpen
open Go Go.RowKit Go.Proofs.YtdcbkeihgbekdaaDoorW.PrintWords Go.Proofs.YtdcbkeihgbekdaaDoor.Opens
set_option linter.unusedVariables false
set_option maxRecDepth 100000 in
theorem cmd_arg {H : Type} {enc : TypeId × Value → H} {W : World} {sp : Nat → Bool} {held : Bool} {base : Nat} {v : Value} {dt : DataW H} {p : List MemPlace} (hv : Value.okWide Tryd.prog W .any base 23 v) (h : DataW.Trod enc Tryd.prog W 0 sp held 23 v dt p) :
    ∃ (x y : ByteArray), v = .agg #[.string x, .string y] := by
  have hs := Opn.string (enc := enc) (W := W) (sp := sp) (held := held) Tryd.underlying9
  obtain ⟨cs, x, rfl, hK, _⟩ := agg_arg (by rw [Tryd.underlying23]) (Opn.struct Tryd.underlying23 (by kernel_rfl) (Opns.cons (by kernel_rfl) hs (Opns.last (by kernel_rfl) hs))) hv h
  obtain ⟨_, _, rfl, rfl, rfl⟩ := hK
  exact ⟨_, _, rfl⟩
set_option maxRecDepth 100000 in
theorem reply_arg {H : Type} {enc : TypeId × Value → H} {W : World} {sp : Nat → Bool} {held : Bool} {base : Nat} {v : Value} {dt : DataW H} {p : List MemPlace} (hv : Value.okWide Tryd.prog W .any base 26 v) (h : DataW.Trod enc Tryd.prog W 0 sp held 26 v dt p) :
    ∃ (code : Int) (A : Option Addr) (cap : Nat) (l : List ByteArray), v = .agg #[.int .i64 code, .slice A l.length cap] ∧ l.length ≤ cap ∧ Kd.C Kd.string W A l.length l := by
  have hs := Opn.string (enc := enc) (W := W) (sp := sp) (held := held) Tryd.underlying9
  have hi := Opn.int (enc := enc) (W := W) (sp := sp) (held := held) Tryd.underlying3
  obtain ⟨cs, x, rfl, hK, _⟩ := agg_arg (by rw [Tryd.underlying26]) (Opn.struct Tryd.underlying26 (by kernel_rfl) (Opns.cons (by kernel_rfl) hi (Opns.last (by kernel_rfl) (Opn.slice Tryd.underlying24 (by kernel_rfl) hs)))) hv h
  obtain ⟨_, _, rfl, rfl, A, c, rfl, hl, hC⟩ := hK
  exact ⟨_, A, c, _, rfl, hl, hC⟩
end Go.Proofs.YtdcbkeihgbekdaaDoor.TurnOpen
