/- Contracts and plain facts that the law's proof needs. -/
import Derived.Test.YtajaedebndeajaaDoorM4
import Derived.Test.YtajaedebndeajaaDoorM5
import Derived.Test.YtajaedebndeajaaDoorM2
import Derived.WideShapes
import Derived.OpenShut
namespace Go.Proofs.YtajaedebndeajaaDoor.Pure
open Go Go.RowKit Go.Proofs.YtajaedebndeajaaDoor.Q Go.Proofs.YtajaedebndeajaaDoor.Quad Go.Proofs.YtajaedebndeajaaDoorW.PrintWords Go.Proofs.YtajaedebndeajaaDoorW.PrintLast Go.Proofs.YtajaedebndeajaaDoorW.PrintMore
set_option linter.unusedVariables false
set_option linter.unusedSimpArgs false

def withQ (t : Ten) (lo hi : Int) : Ten := ⟨t.f0, t.f1, t.f2, lo, hi, t.f5, t.f6, t.f7, t.f8, t.f9⟩
theorem twice_why {l : List Ten} {pre life idle : Int} (hh : okHead l.length pre life idle = true) (hf : ∀ j, j < l.length → fine l j) (h3 : l.length ≤ 3) {i : Nat} (hi : i < l.length) (lo hi' : Int) : whyS (l ++ [withQ l[i] lo hi']) pre life idle = ((l.length : Int), 2) := by
  have hlen : (l ++ [withQ l[i] lo hi']).length = l.length + 1 := by rw [List.length_append]; rfl
  rw [whyS, if_pos (head_other hh (by omega) (by omega))]
  refine scan_two _ l.length (by omega) (fun j hj t ht => ?_) ?_
  · rw [List.getElem?_append_left hj] at ht
    rw [List.take_append_of_le_length (by omega)]
    exact hf j hj t ht
  · rw [List.take_append_of_le_length (Nat.le_refl _), List.take_length, List.getElem_append_right (Nat.le_refl _)]
    simp only [Nat.sub_self, List.getElem_cons_zero]
    have ha : l.any (isHost (withQ l[i] lo hi').f1) = true := List.any_eq_true.2 ⟨l[i], List.getElem_mem _, by rw [isHost]; exact beq_iff_eq.2 rfl⟩
    rw [oneS, ha, Bool.not_true, Bool.and_false, Bool.and_false, Bool.false_and]
theorem confTwice_ev (o0 o1 o2 o3 : Int) (l : List Ten) (pre life idle : Int) (lf : Bool) (i lo hi : Int) : Ev (fun k => wharfingerlaw13_ConfTwice.f k o0 o1 o2 o3 l pre life idle lf i lo hi) true := by
  unfold wharfingerlaw13_ConfTwice.f
  simp only [awake_is, Option.bind_some, ↓reduceIte]
  refine Ev.bind (few_ev o0 o1 o2 o3 l pre life idle lf) ?_
  cases hfew : fewS l
  · simp only [Bool.false_eq_true, ↓reduceIte]
    exact Ev.now _
  · have hl := few_ok hfew
    have hl6 := hl.1
    simp only [↓reduceIte, may_at _ _ _ _ l _ _ _ _ hl, Option.bind_some]
    cases hm : ((whyS l pre life idle).2 == 0)
    · simp only [Bool.false_eq_true, ↓reduceIte]
      exact Ev.now _
    · simp only [↓reduceIte]
      obtain ⟨hh, hf⟩ := may_means hm
      by_cases h3 : (l.length : Int) > 3
      · simp only [h3, ↓reduceIte]
        exact Ev.now _
      · by_cases h0 : i < 0
        · simp only [h3, h0, ↓reduceIte]
          exact Ev.now _
        · by_cases h1 : i ≥ (l.length : Int)
          · simp only [h3, h0, h1, ↓reduceIte]
            exact Ev.now _
          · obtain ⟨n, rfl⟩ : ∃ n : Nat, i = (n : Int) := ⟨i.toNat, by omega⟩
            have hn : n < l.length := by omega
            have hw := twice_why hh hf (by omega) hn lo hi
            have hok : okAll (l ++ [withQ l[n] lo hi]) := by
              refine ⟨by rw [List.length_append]; simp; omega, fun t ht => ?_⟩
              rcases List.mem_append.1 ht with h | h
              · exact hl.2 t h
              · obtain rfl := List.mem_singleton.1 h
                exact hl.2 l[n] (List.getElem_mem _)
            have hwf := why_at o0 o1 o2 o3 _ pre life idle lf hok
            rw [hw] at hwf
            simp only [h3, h0, h1, ↓reduceIte, show (0 : Int) ≤ (n : Int) from by omega, show (n : Int) < (l.length : Int) from by omega, rd_ten l n hn, List.nil_append]
            rw [if_pos (by simp; omega)]
            try simp only [Option.bind_some]
            rw [if_pos (by simp; omega)]
            show Ev (fun _ => (conf_Why.f o0 o1 o2 o3 (l ++ [withQ l[n] lo hi]) pre life idle lf).bind fun bt289 => if bt289.1 = (l.length : Int) then some (bt289.2 == 2) else some false) true
            rw [hwf]
            simp only [Option.bind_some, ↓reduceIte]
            exact Ev.now _
theorem heapR2 : Kd.Heap k44 := Kd.heap_iso _ (Kd.heap_pair Kd.heap_bool (Kd.heap_pair Kd.heap_string Kd.heap_string))
theorem heapH2 : Kd.Heap k23 := Kd.heap_iso _ (Kd.heap_pair (Kd.heap_int _) (Kd.heap_pair (Kd.heap_int _) (Kd.heap_pair (Kd.heap_int _) (Kd.heap_int _))))
theorem heapE2 : Kd.Heap k37 := Kd.heap_iso _ (Kd.heap_pair heapH2 (Kd.heap_int _))
theorem heapT2 : Kd.Heap k40 := Kd.heap_iso _ (Kd.heap_pair Kd.heap_string (Kd.heap_pair Kd.heap_string (Kd.heap_pair heapE2 (Kd.heap_pair (Kd.heap_int _) (Kd.heap_pair (Kd.heap_int _) (Kd.heap_pair (Kd.heap_slice _ heapR2) (Kd.heap_pair (Kd.heap_int _) (Kd.heap_pair (Kd.heap_int _) (Kd.heap_pair (Kd.heap_int _) (Kd.heap_int _))))))))))
theorem twice_walk (o0 o1 o2 o3 : Int) (A : Option Addr) (c : Nat) (l : List S40) (pre life idle : Int) (lf : Bool) (i lo hi : Int) (w : World) (hc : l.length ≤ c) (hr : Kd.C k40 w A l.length l) (hmet : AclMet.WMet w) :
    Calls Tryd.prog 7 #[.agg #[.int .u8 o0, .int .u8 o1, .int .u8 o2, .int .u8 o3, .slice A l.length c, .int .i64 pre, .int .i64 life, .int .i64 idle, .bool lf], .int .i64 i, .int .i64 lo, .int .i64 hi] w fun e w' => e = .returned (.bool true) ∧ Below w.heap.size w w' := by
  obtain ⟨k, hk⟩ := (confTwice_ev o0 o1 o2 o3 l pre life idle lf i lo hi).rounds
  exact wharfingerlaw13_ConfTwice.calls k o0 o1 o2 o3 (fun j => j < w.heap.size) A c l pre life idle lf i lo hi true w (Kd.V_mk hc (Kd.C_F heapT2 hr)) hmet hk
end Go.Proofs.YtajaedebndeajaaDoor.Pure

namespace Go.Proofs.YtajaedebndeajaaDoor.Opens
open Go Go.RowKit Go.Proofs.YtajaedebndeajaaDoorW.PrintWords
set_option linter.unusedVariables false

theorem mapM_each {α β : Type} {f : α → Option β} : ∀ {l : List α} {ys : List β}, l.mapM f = some ys → ∀ x ∈ l, ∃ y, f x = some y
  | [], _, _, x, hx => by cases hx
  | a :: r, ys, h, x, hx => by
    rw [List.mapM_cons] at h
    cases h1 : f a with
    | none => rw [h1] at h; cases h
    | some y =>
      rw [h1] at h
      cases h2 : r.mapM f with
      | none => simp [h2] at h
      | some z =>
        rcases List.mem_cons.1 hx with rfl | hx
        · exact ⟨y, h1⟩
        · exact mapM_each h2 x hx
theorem mapM_at {β : Type} {f : Nat → Option β} : ∀ {n : Nat} {ys : List β}, (List.range n).mapM f = some ys → ys.length = n ∧ ∀ i, i < n → f i = ys[i]?
  | n, ys, h => by
    have key : ∀ (l : List Nat) (ys : List β), l.mapM f = some ys → ys.length = l.length ∧ ∀ i (hi : i < l.length), f l[i] = ys[i]? := by
      intro l
      induction l with
      | nil => intro ys h; cases h; exact ⟨rfl, fun i hi => by simp at hi⟩
      | cons a r ih =>
        intro ys h
        rw [List.mapM_cons] at h
        cases h1 : f a with
        | none => rw [h1] at h; cases h
        | some y =>
          rw [h1] at h
          cases h2 : r.mapM f with
          | none => simp [h2] at h
          | some z =>
            rw [h2] at h
            have h' : y :: z = ys := by simpa using h
            subst h'
            obtain ⟨h3, h4⟩ := ih z h2
            refine ⟨by simp [h3], fun i hi => ?_⟩
            cases i with
            | zero => exact h1
            | succ i => exact h4 i (by simpa using hi)
    obtain ⟨h1, h2⟩ := key _ ys h
    rw [List.length_range] at h1
    exact ⟨h1, fun i hi => by have := h2 i (by simpa using hi); simpa using this⟩
theorem choose_list {α : Type} {P : Nat → α → Prop} : ∀ n : Nat, (∀ j, j < n → ∃ a, P j a) → ∃ xs : List α, xs.length = n ∧ ∀ j a, xs[j]? = some a → P j a
  | 0, _ => ⟨[], rfl, fun j a h => by simp at h⟩
  | n + 1, h => by
    obtain ⟨xs, hl, hx⟩ := choose_list n (fun j hj => h j (by omega))
    obtain ⟨a, ha⟩ := h n (by omega)
    refine ⟨xs ++ [a], by simp [hl], fun j b hj => ?_⟩
    by_cases e : j < xs.length
    · rw [List.getElem?_append_left e] at hj; exact hx j b hj
    · rw [List.getElem?_append_right (by omega)] at hj
      have e2 : j - xs.length = 0 := by
        rcases Nat.eq_zero_or_pos (j - xs.length) with h | h
        · exact h
        · rw [List.getElem?_eq_none (by simp; omega)] at hj; cases hj
      rw [e2] at hj
      have e3 : j = n := by omega
      subst e3
      have : a = b := by simpa using hj
      rw [← this]; exact ha

section
variable {H : Type} (enc : TypeId × Value → H) (P : Program) (W : World) (sp : Nat → Bool) (held : Bool)
/-- Cells that the form reads at a type are what the kind says, of a value that meets Q. -/
def Opn {α : Type} (d : Kd α) (t : TypeId) (Q : α → Prop) : Prop := ∀ (fuel : Nat) (cs : List Value) (y : DataW H × List MemPlace), DataW.trod enc P W 0 sp held fuel t cs = some y → ∃ a, d.K W a cs ∧ Q a
/-- The same of pieces: types and places. -/
def Opns {α : Type} (d : Kd α) (fs : List (TypeId × Nat)) (o : Nat) (Q : α → Prop) : Prop := ∀ (fuel : Nat) (cs : List Value), cs.length = o + d.sz → (∀ f ∈ fs, ∃ y, DataW.trod enc P W 0 sp held fuel f.1 ((cs.drop f.2).take (P.cellsOf f.1)) = some y) → ∃ a, d.K W a (cs.drop o) ∧ Q a
end
section
variable {H : Type} {enc : TypeId × Value → H} {P : Program} {W : World} {sp : Nat → Bool} {held : Bool}
theorem Opn.string {t : TypeId} (hu : P.underlying t = some .string) : Opn enc P W sp held Kd.string t (fun s => s.size ≤ 9223372036854775807) := by
  intro fuel cs y h
  cases fuel with
  | zero => cases h
  | succ fuel =>
    unfold DataW.trod at h
    rw [hu] at h
    split at h
    case h_4 =>
      rename_i s e1
      split at h
      · rename_i hs; exact ⟨s, rfl, by simpa [maxLen] using hs⟩
      · cases h
    all_goals first | (rename_i e _; cases e; done) | (rename_i e; cases e; done) | cases h
theorem Opn.bool {t : TypeId} (hu : P.underlying t = some .bool) : Opn enc P W sp held Kd.bool t (fun _ => True) := by
  intro fuel cs y h
  cases fuel with
  | zero => cases h
  | succ fuel =>
    unfold DataW.trod at h
    rw [hu] at h
    split at h
    case h_1 b e1 => exact ⟨b, rfl, trivial⟩
    all_goals first | (rename_i e _; cases e; done) | (rename_i e; cases e; done) | cases h
theorem Opn.int {t : TypeId} {k : IntKind} (hu : P.underlying t = some (.int k)) : Opn enc P W sp held (Kd.int k) t (fun n => (Lit.int k n).wf = true) := by
  intro fuel cs y h
  cases fuel with
  | zero => cases h
  | succ fuel =>
    unfold DataW.trod at h
    rw [hu] at h
    split at h
    case h_2 =>
      rename_i k1 k2 n e1
      cases e1
      split at h
      · rename_i hs
        obtain ⟨rfl, hw⟩ := hs
        exact ⟨n, rfl, hw⟩
      · cases h
    all_goals first | (rename_i e _; cases e; done) | (rename_i e; cases e; done) | cases h
theorem Opn.iso {α β : Type} {d : Kd α} {t : TypeId} {Q : α → Prop} (h : Opn enc P W sp held d t Q) (f : β → α) (g : α → β) (hfg : ∀ a, f (g a) = a) : Opn enc P W sp held (Kd.iso d f) t (fun b => Q (f b)) := by
  intro fuel cs y hy
  obtain ⟨a, h1, h2⟩ := h fuel cs y hy
  exact ⟨g a, show d.K W (f (g a)) cs by rw [hfg]; exact h1, show Q (f (g a)) by rw [hfg]; exact h2⟩
theorem Opns.cons {α β : Type} {d1 : Kd α} {d2 : Kd β} {t : TypeId} {o : Nat} {fs : List (TypeId × Nat)} {Q1 : α → Prop} {Q2 : β → Prop} (hc : P.cellsOf t = d1.sz) (h1 : Opn enc P W sp held d1 t Q1) (h2 : Opns enc P W sp held d2 fs (o + d1.sz) Q2) :
    Opns enc P W sp held (Kd.pair d1 d2) ((t, o) :: fs) o (fun x => Q1 x.1 ∧ Q2 x.2) := by
  intro fuel cs hl hf
  have hsz : (Kd.pair d1 d2).sz = d1.sz + d2.sz := rfl
  obtain ⟨y, hy⟩ := hf _ (List.mem_cons_self ..)
  obtain ⟨a, ha, hqa⟩ := h1 fuel _ y hy
  obtain ⟨b, hb, hqb⟩ := h2 fuel cs (by rw [hl, hsz]; omega) (fun f hm => hf f (List.mem_cons_of_mem _ hm))
  refine ⟨(a, b), ⟨_, _, ?_, ha, hb⟩, hqa, hqb⟩
  show cs.drop o = ((cs.drop o).take (P.cellsOf t)) ++ cs.drop (o + d1.sz)
  rw [hc, ← List.drop_drop, List.take_append_drop]
theorem Opns.last {α : Type} {d : Kd α} {t : TypeId} {o : Nat} {Q : α → Prop} (hc : P.cellsOf t = d.sz) (h : Opn enc P W sp held d t Q) : Opns enc P W sp held d [(t, o)] o Q := by
  intro fuel cs hl hf
  obtain ⟨y, hy⟩ := hf _ (List.mem_cons_self ..)
  obtain ⟨a, ha, hq⟩ := h fuel _ y hy
  have e : (cs.drop o).take (P.cellsOf t) = cs.drop o := by rw [hc]; exact List.take_of_length_le (by rw [List.length_drop]; omega)
  have ha' : d.K W a ((cs.drop o).take (P.cellsOf t)) := ha
  rw [e] at ha'
  exact ⟨a, ha', hq⟩
theorem Opn.struct {α : Type} {d : Kd α} {t : TypeId} {fs : Array Field} {Q : α → Prop} (hu : P.underlying t = some (.struct fs)) (hc : P.cellsOf t = d.sz) (h : Opns enc P W sp held d (fs.toList.map fun f => (f.type, f.offset)) 0 Q) : Opn enc P W sp held d t Q := by
  intro fuel cs y hy
  cases fuel with
  | zero => cases hy
  | succ fuel =>
    unfold DataW.trod at hy
    rw [hu] at hy
    simp only at hy
    split at hy
    · rename_i hl
      cases hm : fs.toList.mapM (fun f => DataW.trod enc P W 0 sp held fuel f.type ((cs.drop f.offset).take (P.cellsOf f.type))) with
      | none => rw [hm] at hy; cases hy
      | some ys =>
        have := h fuel cs (by omega) (fun f hf => by
          obtain ⟨g, hg, rfl⟩ := List.mem_map.1 hf
          exact mapM_each hm g hg)
        simpa using this
    · cases hy
theorem Opn.array {α : Type} {d : Kd α} {t e : TypeId} {n : Nat} {Q : α → Prop} (hu : P.underlying t = some (.array n e)) (hc : P.cellsOf t = d.sz) (h : Opns enc P W sp held d ((List.range n).map fun i => (e, i * P.cellsOf e)) 0 Q) : Opn enc P W sp held d t Q := by
  intro fuel cs y hy
  cases fuel with
  | zero => cases hy
  | succ fuel =>
    unfold DataW.trod at hy
    rw [hu] at hy
    simp only at hy
    split at hy
    · rename_i hl
      cases hm : (List.range n).mapM (fun i => DataW.trod enc P W 0 sp held fuel e ((cs.drop (i * P.cellsOf e)).take (P.cellsOf e))) with
      | none => rw [hm] at hy; cases hy
      | some ys =>
        have := h fuel cs (by omega) (fun f hf => by
          obtain ⟨i, hi, rfl⟩ := List.mem_map.1 hf
          exact mapM_each hm i hi)
        simpa using this
    · cases hy
theorem add_add' (a : Addr) (x y : Nat) : (a.add x).add y = a.add (x + y) := by
  unfold Addr.add
  by_cases h0 : x = 0
  · subst h0; simp
  · by_cases h1 : y = 0
    · subst h1; simp [h0]
    · simp [h0, h1, Nat.add_assoc]
theorem Opn.slice {α : Type} {d : Kd α} {t e : TypeId} {Q : α → Prop} (hu : P.underlying t = some (.slice e)) (hc : P.cellsOf e = d.sz) (h : Opn enc P W sp held d e Q) : Opn enc P W sp held (Kd.slice e d) t (fun xs => xs.length ≤ 9223372036854775807 ∧ ∀ x ∈ xs, Q x) := by
  intro fuel cs y hy
  cases fuel with
  | zero => cases hy
  | succ fuel =>
    unfold DataW.trod at hy
    rw [hu] at hy
    split at hy
    case h_7 => 
      exact ⟨[], ⟨none, 0, rfl, Nat.le_refl _, ⟨rfl, by simp, fun h => by simp at h⟩⟩, by simp, fun x hx => by cases hx⟩
    case h_8 =>
      rename_i e' a len cap e1
      cases e1
      simp only at hy
      split at hy
      · rename_i hb
        obtain ⟨_, hlc, hcm⟩ := hb
        cases hm : (List.range len).mapM (fun i => (W.cells? 0 (a.add (i * P.cellsOf e)) (P.cellsOf e)).bind (DataW.trod enc P W 0 sp held fuel e)) with
        | none => rw [hm] at hy; cases hy
        | some ys =>
          have hm9 : len ≤ 9223372036854775807 := by have : maxLen = 9223372036854775807 := rfl; omega
          obtain ⟨xs, hxl, hxs⟩ := choose_list (P := fun j x => ∃ c : List Value, c.length = d.sz ∧ d.K W x c ∧ Q x ∧ ∀ i u, c[i]? = some u → W.cell? (a.add (j * d.sz + i)) = some u) len (fun j hj => by
            obtain ⟨z, hz⟩ := mapM_each hm j (List.mem_range.2 hj)
            obtain ⟨c, hc1, hc2⟩ := Option.bind_eq_some_iff.1 hz
            obtain ⟨x, hx, hq⟩ := h fuel c z hc2
            unfold World.cells? at hc1
            rw [if_pos (Nat.zero_le _)] at hc1
            obtain ⟨h3, h4⟩ := mapM_at hc1
            refine ⟨x, c, by rw [h3, hc], hx, hq, fun i u hi => ?_⟩
            have hi' : i < P.cellsOf e := by have := (List.getElem?_eq_some_iff.1 hi).1; omega
            have := h4 i hi'
            rw [add_add', hc] at this
            rw [this, hi])
          subst hxl
          refine ⟨xs, ⟨some a, cap, rfl, hlc, ⟨rfl, hm9, fun _ => ⟨a, rfl, fun j p hp => ?_⟩⟩⟩, hm9, fun x hx => ?_⟩
          · obtain ⟨c, k1, k2, _, k4⟩ := hxs j p hp
            exact ⟨c, k1, k2, k4⟩
          · obtain ⟨j, hj⟩ := List.getElem?_of_mem hx
            obtain ⟨c, _, _, k3, _⟩ := hxs j x hj
            exact k3
      · cases hy
    all_goals first | (rename_i e _; cases e; done) | (rename_i e; cases e; done) | cases hy
/-- An argument that is a struct or an array. -/
theorem agg_arg {α : Type} {d : Kd α} {t : TypeId} {Q : α → Prop} {base : Nat} {v : Value} {dt : DataW H} {p : List MemPlace} (hu : (match P.underlying t with | some (.struct _) | some (.array _ _) => true | _ => false) = true) (ho : Opn enc P W sp held d t Q) (hv : Value.okWide P W .any base t v) (h : DataW.Trod enc P W 0 sp held t v dt p) :
    ∃ cs x, v = .agg cs.toArray ∧ d.K W x cs ∧ Q x := by
  obtain ⟨fuel, hf⟩ := h
  obtain ⟨x, hK, hq⟩ := ho fuel _ _ hf
  unfold Value.okWide at hv
  split at hv
  · obtain ⟨cs, rfl, _⟩ := hv
    exact ⟨cs.toList, x, by simp, by simpa [Value.cells] using hK, hq⟩
  · obtain ⟨cs, rfl, _⟩ := hv
    exact ⟨cs.toList, x, by simp, by simpa [Value.cells] using hK, hq⟩
  · rename_i h1 h2
    split at hu
    · rename_i e; exact absurd e (h1 _)
    · rename_i e; exact absurd e (h2 _ _)
    · cases hu
end
end Go.Proofs.YtajaedebndeajaaDoor.Opens

namespace Go.Proofs.YtajaedebndeajaaDoor.ConfOpen
open Go Go.RowKit Go.Proofs.YtajaedebndeajaaDoorW.PrintWords Go.Proofs.YtajaedebndeajaaDoor.Opens Go.Proofs.YtajaedebndeajaaDoor.Q Go.Proofs.YtajaedebndeajaaDoor.Pure Go.Proofs.YtajaedebndeajaaDoor.AclMet
set_option linter.unusedVariables false

def kConf : Kd (S23 × List S40 × Int × Int × Int × Bool) := Kd.pair k23 (Kd.pair (Kd.slice 40 k40) (Kd.pair (Kd.int .i64) (Kd.pair (Kd.int .i64) (Kd.pair (Kd.int .i64) Kd.bool))))
section
variable {H : Type} {enc : TypeId × Value → H} {W : World} {sp : Nat → Bool} {held : Bool}
theorem rule : ∃ Q, Opn enc Tryd.prog W sp held k44 44 Q :=
  ⟨_, Opn.iso (Opn.struct Tryd.underlying44 (by kernel_rfl) (Opns.cons (by kernel_rfl) (Opn.bool Tryd.underlying4) (Opns.cons (by kernel_rfl) (Opn.string Tryd.underlying9) (Opns.last (by kernel_rfl) (Opn.string Tryd.underlying9))))) (fun x : S44 => (x.f0, x.f1, x.f2)) (fun a => ⟨a.1, a.2.1, a.2.2⟩) (fun _ => rfl)⟩
set_option maxRecDepth 100000 in
theorem host : ∃ Q, Opn enc Tryd.prog W sp held k23 23 Q :=
  ⟨_, Opn.iso (Opn.array Tryd.underlying23 (by kernel_rfl) (Opns.cons (by kernel_rfl) (Opn.int Tryd.underlying5) (Opns.cons (by kernel_rfl) (Opn.int Tryd.underlying5) (Opns.cons (by kernel_rfl) (Opn.int Tryd.underlying5) (Opns.last (by kernel_rfl) (Opn.int Tryd.underlying5)))))) (fun x : S23 => (x.f0, x.f1, x.f2, x.f3)) (fun a => ⟨a.1, a.2.1, a.2.2.1, a.2.2.2⟩) (fun _ => rfl)⟩
theorem End : ∃ Q, Opn enc Tryd.prog W sp held k37 37 Q := by
  obtain ⟨_, h⟩ := host (enc := enc) (W := W) (sp := sp) (held := held)
  exact ⟨_, Opn.iso (Opn.struct Tryd.underlying37 (by kernel_rfl) (Opns.cons (by kernel_rfl) h (Opns.last (by kernel_rfl) (Opn.int Tryd.underlying3)))) (fun x : S37 => (x.f0, x.f1)) (fun a => ⟨a.1, a.2⟩) (fun _ => rfl)⟩
set_option maxRecDepth 100000 in
theorem tenant : ∃ Q, Opn enc Tryd.prog W sp held k40 40 Q := by
  obtain ⟨_, h⟩ := End (enc := enc) (W := W) (sp := sp) (held := held)
  obtain ⟨_, r⟩ := rule (enc := enc) (W := W) (sp := sp) (held := held)
  have hs := Opn.string (enc := enc) (W := W) (sp := sp) (held := held) Tryd.underlying9
  have hi := Opn.int (enc := enc) (W := W) (sp := sp) (held := held) Tryd.underlying3
  exact ⟨_, Opn.iso (Opn.struct Tryd.underlying40 (by kernel_rfl) (Opns.cons (by kernel_rfl) hs (Opns.cons (by kernel_rfl) hs (Opns.cons (by kernel_rfl) h (Opns.cons (by kernel_rfl) hi (Opns.cons (by kernel_rfl) hi (Opns.cons (by kernel_rfl) (Opn.slice Tryd.underlying38 (by kernel_rfl) r) (Opns.cons (by kernel_rfl) hi (Opns.cons (by kernel_rfl) hi (Opns.cons (by kernel_rfl) hi (Opns.last (by kernel_rfl) hi)))))))))))
    (fun x : S40 => (x.f0, x.f1, x.f2, x.f3, x.f4, x.f5, x.f6, x.f7, x.f8, x.f9)) (fun a => ⟨a.1, a.2.1, a.2.2.1, a.2.2.2.1, a.2.2.2.2.1, a.2.2.2.2.2.1, a.2.2.2.2.2.2.1, a.2.2.2.2.2.2.2.1, a.2.2.2.2.2.2.2.2.1, a.2.2.2.2.2.2.2.2.2⟩) (fun _ => rfl)⟩
set_option maxRecDepth 100000 in
theorem conf : ∃ Q, Opn enc Tryd.prog W sp held kConf 26 Q := by
  obtain ⟨_, h⟩ := host (enc := enc) (W := W) (sp := sp) (held := held)
  obtain ⟨_, t⟩ := tenant (enc := enc) (W := W) (sp := sp) (held := held)
  have hi := Opn.int (enc := enc) (W := W) (sp := sp) (held := held) Tryd.underlying3
  have hb := Opn.bool (enc := enc) (W := W) (sp := sp) (held := held) Tryd.underlying4
  exact ⟨_, Opn.struct Tryd.underlying26 (by kernel_rfl) (Opns.cons (by kernel_rfl) h (Opns.cons (by kernel_rfl) (Opn.slice Tryd.underlying24 (by kernel_rfl) t) (Opns.cons (by kernel_rfl) hi (Opns.cons (by kernel_rfl) hi (Opns.cons (by kernel_rfl) hi (Opns.last (by kernel_rfl) hb))))))⟩
end
set_option maxRecDepth 100000 in
/-- A conf that came in. -/
theorem conf_arg {H : Type} {enc : TypeId × Value → H} {W : World} {sp : Nat → Bool} {held : Bool} {base : Nat} {v : Value} {dt : DataW H} {p : List MemPlace} (hv : Value.okWide Tryd.prog W .any base 26 v) (h : DataW.Trod enc Tryd.prog W 0 sp held 26 v dt p) :
    ∃ (o0 o1 o2 o3 : Int) (A : Option Addr) (c : Nat) (l : List S40) (pre life idle : Int) (lf : Bool), v = .agg #[.int .u8 o0, .int .u8 o1, .int .u8 o2, .int .u8 o3, .slice A l.length c, .int .i64 pre, .int .i64 life, .int .i64 idle, .bool lf] ∧ l.length ≤ c ∧ Kd.C k40 W A l.length l := by
  obtain ⟨_, hc⟩ := conf (enc := enc) (W := W) (sp := sp) (held := held)
  obtain ⟨cs, x, rfl, hK, _⟩ := agg_arg (by rw [Tryd.underlying26]) hc hv h
  obtain ⟨_, _, rfl, s1, _, _, rfl, ⟨A, c, rfl, hl, hC⟩, _, _, rfl, rfl, _, _, rfl, rfl, _, _, rfl, rfl, rfl⟩ := hK
  obtain rfl := k23_open s1
  exact ⟨_, _, _, _, A, c, _, _, _, _, _, rfl, hl, hC⟩
end Go.Proofs.YtajaedebndeajaaDoor.ConfOpen
