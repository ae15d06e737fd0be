/- A region whose order Go leaves open, by what each operation's value is to meet (a fact that later worlds keep): one look at each operation serves every order, calls that make memory too. -/
import Derived.Orders
import Derived.Below
import Derived.Laws.Sem
namespace Go.Proofs.Ytoeknbnchmpklaa.Regn
open Go Go.RowKit
set_option linter.unusedVariables false
section
variable {P : Program} (ops : Array Oper)
def dstOf (k : Nat) : Option Tmp := (ops[k]?).bind (·.dst)
/-- The frame once the operations that are 'on' have left their values. -/
def lay (val : Nat → Value) (on : Nat → Bool) : Nat → Act → Act
  | 0, a => a
  | k + 1, a => if on k then (lay val on k a).put (dstOf ops k) (val k) else lay val on k a
def upd (val : Nat → Value) (i : Nat) (v : Value) : Nat → Value := fun k => if k = i then v else val k
theorem lay_congr {val val' : Nat → Value} {on on' : Nat → Bool} : ∀ (n : Nat) (a : Act), (∀ k, k < n → on k = on' k) → (∀ k, k < n → on k = true → val k = val' k) → lay ops val on n a = lay ops val' on' n a
  | 0, _, _, _ => rfl
  | n + 1, a, h1, h2 => by
    have ih := lay_congr n a (fun k hk => h1 k (by omega)) (fun k hk => h2 k (by omega))
    simp only [lay]
    rw [ih, ← h1 n (by omega)]
    cases ho : on n
    · rfl
    · rw [h2 n (by omega) ho]
theorem lay_add {val : Nat → Value} {on : Nat → Bool} {i : Nat} {v : Value} (hd : ∀ j, j ≠ i → ∀ d, dstOf ops i = some d → dstOf ops j ≠ some d) (hoff : on i = false) :
    ∀ (n : Nat) (a : Act), i < n → lay ops (upd val i v) (fun k => if k = i then true else on k) n a = (lay ops val on n a).put (dstOf ops i) v
  | 0, _, h => absurd h (Nat.not_lt_zero _)
  | n + 1, a, h => by
    simp only [lay]
    by_cases hin : n = i
    · subst hin
      rw [if_pos (by simp), hoff]
      simp only [Bool.false_eq_true, if_false]
      rw [lay_congr ops (val := upd val n v) (val' := val) (on' := on) n a (fun k hk => if_neg (by omega)) (fun k hk _ => if_neg (by omega))]
      simp [upd]
    · rw [lay_add hd hoff n a (by omega)]
      simp only [if_neg hin]
      cases ho : on n
      · rfl
      · simp only [if_true]
        rw [show upd val i v n = val n from if_neg hin]
        exact Act.put_comm _ _ _ (fun d hdd => hd n hin d hdd)
def Agree (L : List Tmp) (a b : Act) : Prop := a.tmps.size = b.tmps.size ∧ ∀ t ∈ L, a.tmps[t]? = b.tmps[t]?
theorem put_size (a : Act) (d : Option Tmp) (v : Value) : (a.put d v).tmps.size = a.tmps.size := by cases d <;> simp [Act.put]
theorem put_at (a : Act) (d : Option Tmp) (v : Value) (t : Tmp) (h : d ≠ some t) : (a.put d v).tmps[t]? = a.tmps[t]? := by
  cases d with
  | none => rfl
  | some e =>
    have hne : e ≠ t := fun he => h (he ▸ rfl)
    simp [Act.put, Array.getElem?_setIfInBounds_ne hne]
theorem put_same {a b : Act} (hs : a.tmps.size = b.tmps.size) (d : Option Tmp) (v : Value) (t : Tmp) (h : a.tmps[t]? = b.tmps[t]?) : (a.put d v).tmps[t]? = (b.put d v).tmps[t]? := by
  by_cases hd : d = some t
  · subst hd
    simp [Act.put, Array.getElem?_setIfInBounds, hs]
  · rw [put_at a d v t hd, put_at b d v t hd, h]
theorem lay_agree {L : List Tmp} {val : Nat → Value} {on on' : Nat → Bool} : ∀ (n : Nat) (a : Act), (∀ k, k < n → ∀ d ∈ L, dstOf ops k = some d → on k = on' k) → Agree L (lay ops val on n a) (lay ops val on' n a)
  | 0, _, _ => ⟨rfl, fun _ _ => rfl⟩
  | n + 1, a, h => by
    obtain ⟨ih1, ih2⟩ := lay_agree n a (fun k hk => h k (by omega))
    simp only [lay]
    cases h1 : on n <;> cases h2 : on' n <;> simp only [Bool.false_eq_true, if_true, if_false]
    · exact ⟨ih1, ih2⟩
    · refine ⟨by rw [put_size]; exact ih1, fun t ht => ?_⟩
      rw [put_at _ _ _ _ (fun hd => by have := h n (by omega) t ht hd; rw [h1, h2] at this; cases this)]
      exact ih2 t ht
    · refine ⟨by rw [put_size]; exact ih1, fun t ht => ?_⟩
      rw [put_at _ _ _ _ (fun hd => by have := h n (by omega) t ht hd; rw [h1, h2] at this; cases this)]
      exact ih2 t ht
    · exact ⟨by rw [put_size, put_size]; exact ih1, fun t ht => put_same ih1 _ _ _ (ih2 t ht)⟩
theorem agree_exec {o : Oper} (hs : ∀ cs b, o.op ≠ .select cs b) {a b : Act} (h : Agree (o.looksAt ops) a b) : execOp a.eval o = execOp b.eval o ∧ Region.wanted o (yielded ops a.tmps) = Region.wanted o (yielded ops b.tmps) := by
  refine ⟨execOp_congr o hs fun x hx => ?_, ?_⟩
  · cases x with
    | tmp t =>
      have := h.2 t (List.mem_append_left _ (List.mem_filterMap.2 ⟨.tmp t, by simpa using hx, rfl⟩))
      simp only [Act.eval, Array.getD_eq_getD_getElem?, this]
    | _ => rfl
  · unfold Region.wanted
    cases hg : o.guard with
    | none => rfl
    | some gw =>
      obtain ⟨g, want⟩ := gw
      have hy : yielded ops a.tmps g = yielded ops b.tmps g := by
        unfold yielded
        cases ht : (ops[g]?).bind (·.dst) with
        | none => rfl
        | some t =>
          have := h.2 t (by simp [Oper.looksAt, hg, ht])
          simp only [Option.bind_some, this]
      simp only [hy]

/-- 'k' stands ahead of 'i', by an edge. -/
def ahead (k i : Nat) : Bool := match ops[i]? with
  | some o => o.after.any fun e => Region.binds .any e && (e.on == k)
  | none => false
/-- What is asked of a region, to be computed: no select; an operation waits for earlier ones alone; each writes a slot of its own; what an operation looks at is left by one that it waits for, or by none. -/
def okB : Bool := (List.range ops.size).all fun i => match ops[i]? with
  | none => false
  | some o => (match o.op with | .select .. => false | _ => true) && (o.after.all fun e => !Region.binds .any e || decide (e.on < i)) &&
    ((List.range ops.size).all fun j => (j == i || (match dstOf ops i with | some d => dstOf ops j != some d | none => true)) &&
      (match dstOf ops j with | some d => !(o.looksAt ops).contains d || (decide (j < i) && ahead ops j i) | none => true))

/-- What one operation does, from a frame and a world. -/
def Upon (P : Program) (w : World) (K : Value → World → Prop) : Result Next → Prop
  | .ok (.value v) w' => K v w'
  | .ok .skip w' => K undef w'
  | .ok (.enter f args) w' => Calls P f args w' fun e w'' => ∃ v, e = .returned v ∧ K v w''
  | _ => False
def OpIs (P : Program) (ops : Array Oper) (o : Oper) (a : Act) (w : World) (K : Value → World → Prop) : Prop :=
  if Region.wanted o (yielded ops a.tmps) then Upon P w K ((execOp a.eval o).run P w) else K undef w

theorem okB_spec (h : okB ops = true) {i : Nat} {o : Oper} (hi : ops[i]? = some o) :
    (∀ cs b, o.op ≠ .select cs b) ∧ (∀ e ∈ o.after, Region.binds .any e = true → e.on < i) ∧ (∀ j, j < ops.size → j ≠ i → ∀ d, dstOf ops i = some d → dstOf ops j ≠ some d) ∧
      (∀ j, j < ops.size → ∀ d ∈ o.looksAt ops, dstOf ops j = some d → j < i ∧ ahead ops j i = true) := by
  have hlt : i < ops.size := (Array.getElem?_eq_some_iff.1 hi).1
  have h1 := List.all_eq_true.1 h i (List.mem_range.2 hlt)
  simp only [hi, Bool.and_eq_true] at h1
  obtain ⟨⟨h2, h3⟩, h4⟩ := h1
  refine ⟨fun cs b hs => by rw [hs] at h2; simp at h2, fun e he hb => ?_, fun j hj hji d hd => ?_, fun j hj d hd hdj => ?_⟩
  · have := Array.all_eq_true_iff_forall_mem.1 h3 e he
    rw [hb] at this
    simpa using this
  · have := List.all_eq_true.1 h4 j (List.mem_range.2 hj)
    simp only [hd, Bool.and_eq_true, Bool.or_eq_true, beq_iff_eq] at this
    exact (by simpa using this.1.resolve_left hji)
  · have := List.all_eq_true.1 h4 j (List.mem_range.2 hj)
    simp only [hdj, Bool.and_eq_true, Bool.or_eq_true] at this
    have h5 := this.2
    rw [show (o.looksAt ops).contains d = true from List.contains_iff_mem.2 hd] at h5
    simpa using h5
theorem ahead_spec {k i : Nat} {o : Oper} (hi : ops[i]? = some o) (h : ahead ops k i = true) : ∃ e ∈ o.after, Region.binds .any e = true ∧ e.on = k := by
  simp only [ahead, hi] at h
  obtain ⟨j, hj, h2⟩ := Array.any_eq_true.1 h
  simp only [Bool.and_eq_true, beq_iff_eq] at h2
  exact ⟨_, Array.getElem_mem hj, h2.1, h2.2⟩

variable {ops}
theorem wpAny_facts {Q : Exit → Act → World → Prop} {a0 : Act} (F : Nat → (Nat → Value) → World → Prop) (C : World → Prop) (R : World → World → Prop) (hok : okB ops = true)
    (hstab : ∀ i val w w', F i val w → C w → C w' → R w w' → F i val w')
    (hloc : ∀ i val val' w, val i = val' i → (∀ k, ahead ops k i = true → val k = val' k) → F i val w → F i val' w)
    (hstep : ∀ i o, ops[i]? = some o → ∀ val w, C w → (∀ k, ahead ops k i = true → F k val w) → OpIs P ops o (lay ops val (fun k => decide (k < i)) ops.size a0) w (fun v w' => C w' ∧ R w w' ∧ F i (upd val i v) w'))
    (hend : ∀ val w, C w → (∀ i, i < ops.size → F i val w) → Q .normal (lay ops val (fun _ => true) ops.size a0) w) :
    ∀ (fuel : Nat) (listed : Array Bool) (val : Nat → Value) (w : World), listed.size = ops.size → (List.range ops.size).countP (fun i => !listed.getD i true) = fuel →
      (∀ i, listed.getD i false = true → ∀ k, ahead ops k i = true → listed.getD k false = true) → C w → (∀ i, listed.getD i false = true → F i val w) → wpAny P .any ops Q fuel listed (lay ops val (fun k => listed.getD k false) ops.size a0) w := by
  have dflt : ∀ (listed : Array Bool), listed.size = ops.size → ∀ k, k < ops.size → listed.getD k true = listed.getD k false := fun listed hs k hk => by simp [hs, hk]
  have bound : ∀ (listed : Array Bool), listed.size = ops.size → ∀ k, listed.getD k false = true → k < ops.size := fun listed hs k hk => by
    rcases Nat.lt_or_ge k ops.size with h | h
    · exact h
    · simp [Array.getElem?_eq_none (by omega : listed.size ≤ k)] at hk
  have ender : ∀ (listed : Array Bool) val w, listed.size = ops.size → C w → (∀ i, listed.getD i false = true → F i val w) → (∀ k, k < ops.size → listed.getD k false = true) → Q .normal (lay ops val (fun k => listed.getD k false) ops.size a0) w := by
    intro listed val w hs hC hF hall
    rw [lay_congr ops (on' := fun _ => true) (val' := val) ops.size a0 (fun k hk => hall k hk) (fun _ _ _ => rfl)]
    exact hend val w hC fun i hi => hF i (hall i hi)
  intro fuel
  induction fuel with
  | zero =>
    intro listed val w hs hc _ hC hF
    have hall : ∀ k, k < ops.size → listed.getD k false = true := fun k hk => by
      have := (List.countP_eq_zero.1 hc) k (List.mem_range.2 hk)
      rw [← dflt listed hs k hk]
      simpa using this
    refine ⟨?_, ender listed val w hs hC hF hall⟩
    rw [List.eq_nil_iff_forall_not_mem]
    intro j hj
    obtain ⟨h0, o, ho, _⟩ := mem_ready.1 hj
    have hlt : j < ops.size := (Array.getElem?_eq_some_iff.1 ho).1
    rw [dflt listed hs j hlt, hall j hlt] at h0
    cases h0
  | succ fuel ih =>
    intro listed val w hs hc hcl hC hF
    refine ⟨fun h0 => ender listed val w hs hC hF fun k => ?_, fun i hi => ?_⟩
    · -- none is ready: all are listed
      induction k using Nat.strongRecOn with
      | ind k ihk =>
        intro hk
        by_cases hl : listed.getD k false = true
        · exact hl
        · exfalso
          have hk2 : ops[k]? = some ops[k] := Array.getElem?_eq_getElem hk
          have : k ∈ Region.ready .any ops listed := mem_ready.2 ⟨by rw [dflt listed hs k hk]; simpa using hl, ops[k], hk2, fun e he hb => by
            have hlt := (okB_spec ops hok hk2).2.1 e he hb
            exact ihk e.on hlt (by omega)⟩
          rw [h0] at this
          cases this
    · obtain ⟨h0, o, ho, hall⟩ := mem_ready.1 hi
      have hlt : i < ops.size := (Array.getElem?_eq_some_iff.1 ho).1
      have hoff : listed.getD i false = false := by rw [← dflt listed hs i hlt]; exact h0
      obtain ⟨hsel, hbef, hdst, hlook⟩ := okB_spec ops hok ho
      have hdeps : ∀ k, ahead ops k i = true → listed.getD k false = true := fun k hk => by
        obtain ⟨e, he, hb, rfl⟩ := ahead_spec ops ho hk
        exact hall e he hb
      have hst := hstep i o ho val w hC (fun k hk => hF k (hdeps k hk))
      have hag : Agree (o.looksAt ops) (lay ops val (fun k => listed.getD k false) ops.size a0) (lay ops val (fun k => decide (k < i)) ops.size a0) := lay_agree ops ops.size a0 fun k hk d hd hkd => by
        obtain ⟨h1, h2⟩ := hlook k hk d hd hkd
        rw [hdeps k h2, decide_eq_true h1]
      obtain ⟨he, hw⟩ := agree_exec ops hsel hag
      have next : ∀ v w', C w' ∧ R w w' ∧ F i (upd val i v) w' → wpAny P .any ops Q fuel (listed.setIfInBounds i true) ((lay ops val (fun k => listed.getD k false) ops.size a0).put o.dst v) w' := by
        intro v w' ⟨hC', hR, hFi⟩
        have hd : dstOf ops i = o.dst := by simp [dstOf, ho]
        have hset : ∀ k, (listed.setIfInBounds i true).getD k false = if k = i then true else listed.getD k false := fun k => by
          by_cases hk : k = i
          · subst hk; rw [if_pos rfl]; simp [hs, hlt]
          · rw [if_neg hk, getD_set_ne false (Ne.symm hk)]
        have := ih (listed.setIfInBounds i true) (upd val i v) w' (by simpa using hs) (by
            have e1 : (List.range ops.size).countP (fun k => !listed.getD k true) = (List.range ops.size).countP (fun k => !(listed.setIfInBounds i true).getD k true) + 1 := by
              have hn := List.nodup_range (n := ops.size)
              have hm : i ∈ List.range ops.size := List.mem_range.2 hlt
              have hset2 : ∀ k ∈ List.range ops.size, (listed.setIfInBounds i true).getD k true = if k = i then true else listed.getD k true := fun k hk => by
                have hk := List.mem_range.1 hk
                rw [dflt _ (by simpa using hs) k hk, hset k, dflt listed hs k hk]
              have key : ∀ l : List Nat, l.Nodup → (∀ k ∈ l, (listed.setIfInBounds i true).getD k true = if k = i then true else listed.getD k true) → (i ∈ l → l.countP (fun k => !listed.getD k true) = l.countP (fun k => !(listed.setIfInBounds i true).getD k true) + 1) ∧ (i ∉ l → l.countP (fun k => !listed.getD k true) = l.countP (fun k => !(listed.setIfInBounds i true).getD k true)) := by
                intro l
                induction l with
                | nil => intro _ _; exact ⟨fun h => (List.not_mem_nil h).elim, fun _ => rfl⟩
                | cons x t iht =>
                  intro hn2 hs2
                  rw [List.nodup_cons] at hn2
                  obtain ⟨i1, i2⟩ := iht hn2.2 (fun k hk => hs2 k (List.mem_cons_of_mem _ hk))
                  have hx := hs2 x List.mem_cons_self
                  refine ⟨fun hm => ?_, fun hm => ?_⟩
                  · rw [List.countP_cons, List.countP_cons, hx]
                    by_cases hxi : x = i
                    · subst hxi
                      rw [i2 hn2.1, h0]
                      simp
                    · rw [if_neg hxi]
                      rcases List.mem_cons.1 hm with hh | hh
                      · exact absurd hh.symm hxi
                      · rw [i1 hh]; omega
                  · rw [List.mem_cons, not_or] at hm
                    rw [List.countP_cons, List.countP_cons, hx, if_neg (Ne.symm hm.1), i2 hm.2]
              exact (key _ hn hset2).1 hm
            omega)
          (fun j hj k hk => by
            rw [hset] at hj ⊢
            by_cases hki : k = i
            · rw [if_pos hki]
            · rw [if_neg hki]
              by_cases hji : j = i
              · subst hji; exact hdeps k hk
              · rw [if_neg hji] at hj; exact hcl j hj k hk) hC'
          (fun j hj => by
            rw [hset] at hj
            by_cases hji : j = i
            · subst hji; exact hFi
            · rw [if_neg hji] at hj
              refine hloc j val _ w' (by rw [upd, if_neg hji]) (fun k hk => ?_) (hstab j val w w' (hF j hj) hC hC' hR)
              have hkl := hcl j hj k hk
              have hki : k ≠ i := fun e => by rw [e, hoff] at hkl; cases hkl
              rw [upd, if_neg hki])
        rw [← hd, ← lay_add ops (on := fun k => listed.getD k false) (fun j hj d hd2 => by
          rcases Nat.lt_or_ge j ops.size with h | h
          · exact hdst j h hj d hd2
          · simp [dstOf, Array.getElem?_eq_none h]) hoff ops.size a0 hlt]
        rwa [show (fun k => (listed.setIfInBounds i true).getD k false) = (fun k => if k = i then true else listed.getD k false) from funext hset] at this
      unfold wpOp
      simp only [ho]
      unfold OpIs at hst
      rw [← he, ← hw] at hst
      split
      · rename_i hwt
        rw [if_pos hwt] at hst
        refine .inl ?_
        unfold Oper.wp
        generalize (execOp (lay ops val (fun k => listed.getD k false) ops.size a0).eval o).run P w = r at *
        cases r with
        | halt x w' => simp only [Upon] at hst
        | ok n w' =>
          cases n <;> simp only [Upon] at hst <;> simp only [Oper.upon]
          case value v => exact next _ _ hst
          case skip => exact next _ _ hst
          case enter f args => exact hst.mono fun e w'' ⟨v, he, hh⟩ => by subst he; exact next _ _ hh
      · rename_i hwt
        rw [if_neg hwt] at hst
        exact next _ _ hst

/-- **A region that asks the tape, by facts on its operations' values.** C: a class of worlds; R: how a later one follows; F i: what operation i's value is to meet, read off the values of it and of those that it waits for. -/
theorem wp_region_facts {id : Nat} {Q : Exit → Act → World → Prop} {a0 : Act} {w : World} (F : Nat → (Nat → Value) → World → Prop) (C : World → Prop) (R : World → World → Prop)
    (hm : P.follows .mixedOrders = true) (hok : okB ops = true) (hC : C { w with drawn := w.drawn + 1 })
    (hstab : ∀ i val w w', F i val w → C w → C w' → R w w' → F i val w')
    (hloc : ∀ i val val' w, val i = val' i → (∀ k, ahead ops k i = true → val k = val' k) → F i val w → F i val' w)
    (hstep : ∀ i o, ops[i]? = some o → ∀ val w, C w → (∀ k, ahead ops k i = true → F k val w) → OpIs P ops o (lay ops val (fun k => decide (k < i)) ops.size a0) w (fun v w' => C w' ∧ R w w' ∧ F i (upd val i v) w'))
    (hend : ∀ val w, C w → (∀ i, i < ops.size → F i val w) → Q .normal (lay ops val (fun _ => true) ops.size a0) w) : (Code.region id ops true).wp P Q a0 w := by
  refine wp_region_any hm ?_
  have h := wpAny_facts (P := P) (Q := Q) (a0 := a0) F C R hok hstab hloc hstep hend ops.size (Array.replicate ops.size false) (fun _ => undef) { w with drawn := w.drawn + 1 } (by simp)
    (by rw [List.countP_eq_length.2 (fun i hi => by have := List.mem_range.1 hi; simp [this])]; simp)
    (fun i hi => by
      rcases Nat.lt_or_ge i ops.size with h | h <;> simp [h] at hi)
    hC (fun i hi => by
      rcases Nat.lt_or_ge i ops.size with h | h <;> simp [h] at hi)
  have e : lay ops (fun _ => undef) (fun k => (Array.replicate ops.size false).getD k false) ops.size a0 = a0 := by
    have : ∀ n, lay ops (fun _ => undef) (fun k => (Array.replicate ops.size false).getD k false) n a0 = a0 := by
      intro n
      induction n with
      | zero => rfl
      | succ n ih =>
        simp only [lay]
        rw [if_neg (by
          rcases Nat.lt_or_ge n ops.size with h | h <;> simp [h]), ih]
    exact this _
  rwa [e] at h
theorem run_val {s : Sem Value} {x : Value} {W W' : World} (h : s.run P W = .ok x W') : (do pure (Next.value (← s)) : Sem Next).run P W = .ok (.value x) W' := by
  simp only [Sem.run_bind, h, Result.andThen_ok, Sem.run_pure]
theorem run_move {ρ : Operand → Value} {o : Oper} {x : Operand} {v : Value} {W : World} (ho : o.op = .move x ∨ o.op = .assign x) (hx : ρ x = v) : (execOp ρ o).run P W = .ok (.value v) W := by
  subst hx
  rcases ho with ho | ho <;> simp only [execOp, ho, Sem.run_pure]
theorem run_bin {ρ : Operand → Value} {o : Oper} {op : BinOp} {ty t2 : TypeId} {x y : Operand} {a b r : Value} {W : World} (ho : o.op = .binOp op ty x y t2) (hx : ρ x = a) (hy : ρ y = b)
    (h : (do eqGuard op ty x y a b; binOp op ty a b : Sem Value).run P W = .ok r W) : (execOp ρ o).run P W = .ok (.value r) W := by
  subst hx hy
  simp only [execOp, ho]
  exact run_val h
theorem run_conv {ρ : Operand → Value} {o : Oper} {s d : TypeId} {x : Operand} {a r : Value} {W W' : World} (ho : o.op = .convert s d x) (hx : ρ x = a) (h : (convert s d a).run P W = .ok r W') : (execOp ρ o).run P W = .ok (.value r) W' := by
  subst hx
  simp only [execOp, ho]
  exact run_val h
theorem run_pick {ρ : Operand → Value} {o : Oper} {c x y : Operand} {b : Bool} {v : Value} {W : World} (ho : o.op = .pick c x y) (hc : ρ c = .bool b) (hv : (if b = true then ρ x else ρ y) = v) : (execOp ρ o).run P W = .ok (.value v) W := by
  subst hv
  simp only [execOp, ho, hc, asBool, Sem.run_bind, Sem.run_pure, Result.andThen_ok]
theorem opIs_value {o : Oper} {a : Act} {W W' : World} {K : Value → World → Prop} {v : Value} (hw : Region.wanted o (yielded ops a.tmps) = true) (h : (execOp a.eval o).run P W = .ok (.value v) W') (hk : K v W') : OpIs P ops o a W K := by
  unfold OpIs
  rw [if_pos hw, h]
  exact hk
theorem opIs_call {o : Oper} {a : Act} {W : World} {K : Value → World → Prop} {f : FuncId} {args : Array Value} (hw : Region.wanted o (yielded ops a.tmps) = true) (h : (execOp a.eval o).run P W = .ok (.enter f args) W)
    (hk : Calls P f args W fun e w'' => ∃ v, e = .returned v ∧ K v w'') : OpIs P ops o a W K := by
  unfold OpIs
  rw [if_pos hw, h]
  exact hk
theorem run_call1 {a : Act} {o : Oper} {f : FuncId} {fn : Func} {c : Code} {x : Operand} {ts : Array TypeId} {v : Value} {W : World} (ho : o.op = .call { callee := .value (.func f), args := #[x], argTypes := ts }) (hf : P.funcs[f]? = some fn)
    (hname : (fn.name == "runtime.NumGoroutine") = false) (hb : fn.body = some c) (hx : a.eval x = v) : (execOp a.eval o).run P W = .ok (.enter f #[v]) W := by
  have h1 : fn.name ≠ "runtime.NumGoroutine" := by simpa using hname
  have h2 : a.eval (.func f) = .func (.func f) #[] #[] := rfl
  simp [execOp, ho, resolve, Deferred.ofValue, invoke, callFunc, hf, h1, hb, hx, h2]
theorem wanted_of {o : Oper} {y : Nat → Option Bool} {g : Nat} {b : Bool} (hg : o.guard = some (g, b)) (h : y g = some b) : Region.wanted o y = true := by simp [Region.wanted, hg, h]
theorem yielded_of {tmps : Array Value} {g : Nat} {t : Tmp} {v : Value} {b : Bool} (hd : dstOf ops g = some t) (ht : tmps[t]? = some v) (hv : v = .bool b) : yielded ops tmps g = some b := by
  subst hv
  simp only [dstOf] at hd
  simp [yielded, hd, ht]
theorem lay_size {val : Nat → Value} {on : Nat → Bool} : ∀ (n : Nat) (a : Act), (lay ops val on n a).tmps.size = a.tmps.size
  | 0, _ => rfl
  | n + 1, a => by
    simp only [lay]
    split
    · rw [put_size, lay_size n a]
    · exact lay_size n a
theorem lay_get {val : Nat → Value} {on : Nat → Bool} {k : Nat} {t : Tmp} (hd : dstOf ops k = some t) (hon : on k = true) : ∀ (n : Nat) (a : Act), k < n → t < a.tmps.size → (∀ j, j < n → j ≠ k → dstOf ops j ≠ some t) → (lay ops val on n a).tmps[t]? = some (val k)
  | 0, _, h, _, _ => absurd h (Nat.not_lt_zero _)
  | n + 1, a, h, ht, hu => by
    simp only [lay]
    by_cases hnk : n = k
    · subst hnk
      rw [if_pos hon, hd]
      simp only [Act.put]
      rw [Array.getElem?_setIfInBounds_self_of_lt (by rw [lay_size]; exact ht)]
    · have ih := lay_get (val := val) hd hon n a (by omega) ht (fun j hj => hu j (by omega))
      split
      · rw [put_at _ _ _ _ (hu n (by omega) hnk), ih]
      · exact ih
theorem lay_out {val : Nat → Value} {on : Nat → Bool} {t : Tmp} : ∀ (n : Nat) (a : Act), (∀ j, j < n → dstOf ops j ≠ some t) → (lay ops val on n a).tmps[t]? = a.tmps[t]?
  | 0, _, _ => rfl
  | n + 1, a, hu => by
    simp only [lay]
    have ih := lay_out (val := val) (on := on) n a (fun j hj => hu j (by omega))
    split
    · rw [put_at _ _ _ _ (hu n (by omega)), ih]
    · exact ih
def outB (ops : Array Oper) (t : Tmp) : Bool := (List.range ops.size).all fun k => dstOf ops k != some t
def sizeB (ops : Array Oper) (n : Nat) : Bool := (List.range ops.size).all fun k => match dstOf ops k with | some t => decide (t < n) | none => true
/-- The same, an operation's frame known by what stands in it alone. -/
theorem wp_region_known {id : Nat} {Q : Exit → Act → World → Prop} {a0 : Act} {w : World} {n : Nat} (F : Nat → Value → World → Prop) (C : World → Prop)
    (hm : P.follows .mixedOrders = true) (hok : okB ops = true) (hn : a0.tmps.size = n) (hsz : sizeB ops n = true) (hC : C { w with drawn := w.drawn + 1 })
    (hstab : ∀ i v w w', F i v w → Below w.heap.size w w' → F i v w')
    (hstep : ∀ i o, ops[i]? = some o → ∀ (val : Nat → Value) w (a : Act), (∀ k t, ahead ops k i = true → dstOf ops k = some t → a.eval (.tmp t) = val k ∧ a.tmps[t]? = some (val k)) → (∀ t, outB ops t = true → a.eval (.tmp t) = a0.eval (.tmp t)) →
      C w → (∀ k, ahead ops k i = true → F k (val k) w) → OpIs P ops o a w (fun v w' => C w' ∧ Below w.heap.size w w' ∧ F i v w'))
    (hend : ∀ val w, C w → (∀ i, i < ops.size → F i (val i) w) → Q .normal (lay ops val (fun _ => true) ops.size a0) w) : (Code.region id ops true).wp P Q a0 w := by
  refine wp_region_facts (fun i val w => F i (val i) w) C (fun w w' => Below w.heap.size w w') hm hok hC (fun i val w w' h _ _ hb => hstab i _ w w' h hb) (fun i val val' w h _ hF => h ▸ hF) (fun i o ho val w hC hF => ?_) hend
  have hlt : i < ops.size := (Array.getElem?_eq_some_iff.1 ho).1
  have hall := okB_spec ops hok ho
  have h := hstep i o ho val w (lay ops val (fun k => decide (k < i)) ops.size a0) (fun k t hk hd => by
      obtain ⟨e, he, hb, rfl⟩ := ahead_spec ops ho hk
      have hki := hall.2.1 e he hb
      have hkn : e.on < ops.size := Nat.lt_trans hki hlt
      have hsz2 := List.all_eq_true.1 hsz e.on (List.mem_range.2 hkn)
      simp only [hd, decide_eq_true_eq] at hsz2
      have := lay_get (val := val) (on := fun k => decide (k < i)) hd (decide_eq_true hki) ops.size a0 hkn (hn ▸ hsz2) fun j hj hjk hdj => by
        obtain ⟨_, _, hdst, _⟩ := okB_spec ops hok (Array.getElem?_eq_getElem hkn)
        exact hdst j hj hjk t hd hdj
      exact ⟨by simp only [Act.eval, Array.getD_eq_getD_getElem?, this, Option.getD_some], this⟩)
    (fun t ht => by
      have := lay_out (val := val) (on := fun k => decide (k < i)) (t := t) ops.size a0 fun j hj => by
        have := List.all_eq_true.1 ht j (List.mem_range.2 hj)
        simpa using this
      simp only [Act.eval, Array.getD_eq_getD_getElem?, this]) hC hF
  have hu : ∀ v, upd val i v i = v := fun v => if_pos rfl
  simpa only [hu] using h
end
end Go.Proofs.Ytoeknbnchmpklaa.Regn
