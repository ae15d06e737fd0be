/- Contracts and plain facts that the law's proof needs. -/
import Derived.Test.YtdemfgijfnicpaaDoorM1
import Derived.Laws.EntriesVeiled
namespace Go.Proofs.YtdemfgijfnicpaaDoor.Q
open Go Go.RowKit Go.Proofs.YtdemfgijfnicpaaDoorW.PrintWords Go.Proofs.YtdemfgijfnicpaaDoorW.PrintLast Go.Proofs.YtdemfgijfnicpaaDoorW.PrintMore
set_option linter.unusedVariables false
set_option linter.unusedSimpArgs false

def verb_Find.f (a0 : ByteArray) : Option (ByteArray × Int × Int × Bool × Bool) := if a0.size ≤ 1000000 then (match findV a0.data.toList with | some v => some (v.f0, v.f1, v.f2, v.f3, true) | none => some (⟨#[]⟩, 0, 0, false, false)) else none
set_option maxHeartbeats 1000000 in
set_option maxRecDepth 100000 in
theorem Find_calls (s : ByteArray) (hs : s.size ≤ 1000000) (n : ByteArray) (k a : Int) (p z : Bool) (h : (match findV s.data.toList with | some v => (v.f0, v.f1, v.f2, v.f3, true) | none => (⟨#[]⟩, 0, 0, false, false)) = (n, k, a, p, z)) (w : World) :
    Calls Tryd.prog 30 #[.string s] w fun e w' => e = .returned (.tuple #[.agg #[.string n, .int .i64 k, .int .i64 a, .bool p], .bool z]) ∧ Below w.heap.size w w' := by
  have HAT := Aside0.mk (at_table s.data.toList)
  have HV := Aside0.mk (show ((findV s.data.toList).map encV).getD (.agg #[.string ⟨#[]⟩, .int .i64 0, .int .i64 0, .bool false]) = .agg #[.string n, .int .i64 k, .int .i64 a, .bool p] ∧ ((findV s.data.toList).map encV).isSome = z from by
    cases hf : findV s.data.toList with
    | none => rw [hf] at h; cases h; exact ⟨rfl, rfl⟩
    | some v => rw [hf] at h; cases h; exact ⟨rfl, rfl⟩)
  clear h
  have HB := Aside0.mk ((Below.refl w.heap.size w).alloc (Nat.le_refl _) (.cells #[.string ⟨#[]⟩, .int .i64 0, .int .i64 0, .bool false] 35))
  have HK := Aside0.mk (blk_new w (.cells #[.string ⟨#[]⟩, .int .i64 0, .int .i64 0, .bool false] 35))
  go_enter Tryd.func30, Tryd.ntmps30
  go_wp2_with (first
    | (go_at_call 34; with_reducible refine (table_calls _).mono ?_; rintro e w1 ⟨rfl, hm, hb⟩; have HM := Aside0.mk (show MapLaw.Is Value.string w1 (w.heap.size + 1) (mapOf tableS) from by simpa using hm); replace HK := Aside0.mk (blk_below HK.out hb); replace HB := Aside0.mk (HB.out.trans (hb.mono HB.out.size)); clear hm hb)
    | (go_at_call 35; with_reducible refine (Upper_calls s hs _).mono ?_; rintro e w2 ⟨rfl, hb⟩; replace HM := Aside0.mk (HM.out.below hb); replace HK := Aside0.mk (blk_below HK.out hb); replace HB := Aside0.mk (HB.out.trans (hb.mono HB.out.size)); clear hb)
    | (at_lookup; refine MapLaw.wp_lookup _ rfl _ _ 48 35 true rfl keyV Tryd.underlying48 (zeroV _) rfl HM.out ⟨(upper s.data.toList).toArray⟩ rfl ?_; rw [HAT.out, HV.out.1, HV.out.2]; have kc0 : ∀ o, (w2.alloc o).cell? ⟨w.heap.size, 0, none⟩ = some (.string ⟨#[]⟩) := fun o => (blk_cell (blk_alloc HK.out o) 0).trans rfl; have kf0 : ∀ o, (w2.alloc o).frozen? ⟨w.heap.size, 0, none⟩ = false := fun o => blk_frozen (blk_alloc HK.out o) 0; have kc1 : ∀ o, (w2.alloc o).cell? ⟨w.heap.size, 1, none⟩ = some (.int .i64 0) := fun o => (blk_cell (blk_alloc HK.out o) 1).trans rfl; have kf1 : ∀ o, (w2.alloc o).frozen? ⟨w.heap.size, 1, none⟩ = false := fun o => blk_frozen (blk_alloc HK.out o) 1; have kc2 : ∀ o, (w2.alloc o).cell? ⟨w.heap.size, 2, none⟩ = some (.int .i64 0) := fun o => (blk_cell (blk_alloc HK.out o) 2).trans rfl; have kf2 : ∀ o, (w2.alloc o).frozen? ⟨w.heap.size, 2, none⟩ = false := fun o => blk_frozen (blk_alloc HK.out o) 2; have kc3 : ∀ o, (w2.alloc o).cell? ⟨w.heap.size, 3, none⟩ = some (.bool false) := fun o => (blk_cell (blk_alloc HK.out o) 3).trans rfl; have kf3 : ∀ o, (w2.alloc o).frozen? ⟨w.heap.size, 3, none⟩ = false := fun o => blk_frozen (blk_alloc HK.out o) 3))
  refine bodyPost_ret (results_ct rfl _ _ w.heap.size 35 #[.string n, .int .i64 k, .int .i64 a, .bool p] (0, 0) _ rfl (by refine blk_put (cs := #[.string n, .int .i64 k, .int .i64 a, .bool false]) ?_ 3 _ rfl; refine blk_put (cs := #[.string n, .int .i64 k, .int .i64 0, .bool false]) ?_ 2 _ rfl; refine blk_put (cs := #[.string n, .int .i64 0, .int .i64 0, .bool false]) ?_ 1 _ rfl; refine blk_put (cs := #[.string ⟨#[]⟩, .int .i64 0, .int .i64 0, .bool false]) ?_ 0 _ rfl; exact blk_alloc HK.out _) Tryd.underlying35 rfl (by kernel_rfl)) rfl ?_
  exact ⟨rfl, ((((HB.out.alloc HB.out.size _).setCell (Nat.le_refl _) _).setCell (Nat.le_refl _) _).setCell (Nat.le_refl _) _).setCell (Nat.le_refl _) _⟩
theorem verb_Find.calls (a0 : ByteArray) (r1 : ByteArray) (r2 : Int) (r3 : Int) (r4 : Bool) (r5 : Bool) (w : World) (h : verb_Find.f a0 = some (r1, r2, r3, r4, r5)) :
    Calls Tryd.prog 30 #[.string a0] w fun e w' => e = .returned (.tuple #[.agg #[.string r1, .int .i64 r2, .int .i64 r3, .bool r4], .bool r5]) ∧ Below w.heap.size w w' := by
  unfold verb_Find.f at h
  split at h
  · rename_i hs
    refine Find_calls a0 hs r1 r2 r3 r4 r5 ?_ w
    cases hf : findV a0.data.toList with
    | none => rw [hf] at h; exact Option.some.inj h
    | some v => rw [hf] at h; exact Option.some.inj h
  · cases h
end Go.Proofs.YtdemfgijfnicpaaDoor.Q

namespace Go.Proofs.YtdemfgijfnicpaaDoor.Q
open Go Go.RowKit Go.Proofs.YtdemfgijfnicpaaDoorW.PrintWords Go.Proofs.YtdemfgijfnicpaaDoorW.PrintLast Go.Proofs.YtdemfgijfnicpaaDoorW.PrintMore Go.Proofs.YtdemfgijfnicpaaDoor.AclMet
set_option linter.unusedVariables false
set_option linter.unusedSimpArgs false

def toR (x : S28) : AclP.Rule := ⟨x.f0, x.f1, x.f2⟩
def smallR (l : List S28) : Prop := l.length ≤ 1000000 ∧ ∀ x ∈ l, x.f2.size ≤ 1000000
instance (l : List S28) : Decidable (smallR l) := inferInstanceAs (Decidable (_ ∧ _))
def acl_Which.f (l0 : List S28) (a1 a2 : ByteArray) : Option Int := if smallR l0 ∧ a2.size ≤ 1000000 then some (AclP.whichI (AclP.which (l0.map toR) a1.data.toList a2.data.toList)) else none
def tellB (x : S28) (name wher : ByteArray) : Bool := AclP.tells (toR x) name.data.toList wher.data.toList

theorem which_hit (name wher : ByteArray) : ∀ (l : List S28) (k j : Nat), (∀ x ∈ l.take k, tellB x name wher = false) → (hk : k < l.length) → tellB l[k] name wher = true → AclP.whichF j (l.map toR) name.data.toList wher.data.toList = some (j + k)
  | [], _, _, _, hk, _ => by simp at hk
  | x :: l, 0, j, _, _, h => by
    have h' : AclP.tells (toR x) name.data.toList wher.data.toList = true := h
    rw [List.map_cons, AclP.whichF, if_pos h']; rfl
  | x :: l, k + 1, j, h0, hk, h => by
    have hx : tellB x name wher = false := h0 x (by simp)
    have hx' : ¬ (AclP.tells (toR x) name.data.toList wher.data.toList = true) := by
      have : AclP.tells (toR x) name.data.toList wher.data.toList = false := hx
      rw [this]; simp
    rw [List.map_cons, AclP.whichF, if_neg hx', which_hit name wher l k (j + 1) (fun y hy => h0 y (by simp [hy])) (by simpa using hk) (by simpa using h)]
    congr 1; omega
theorem which_none (name wher : ByteArray) : ∀ (l : List S28) (j : Nat), (∀ x ∈ l, tellB x name wher = false) → AclP.whichF j (l.map toR) name.data.toList wher.data.toList = none
  | [], _, _ => rfl
  | x :: l, j, h => by
    have hx : tellB x name wher = false := h x (by simp)
    have hx' : ¬ (AclP.tells (toR x) name.data.toList wher.data.toList = true) := by
      have : AclP.tells (toR x) name.data.toList wher.data.toList = false := hx
      rw [this]; simp
    rw [List.map_cons, AclP.whichF, if_neg hx', which_none name wher l (j + 1) (fun y hy => h y (by simp [hy]))]
theorem no_more {l : List S28} {name wher : ByteArray} {k : Nat} (h : ∀ x ∈ l.take k, tellB x name wher = false) (hk : k < l.length) (hx : tellB l[k] name wher = false) : ∀ x ∈ l.take (k + 1), tellB x name wher = false := by
  intro x hm
  rw [List.take_succ_eq_append_getElem hk, List.mem_append, List.mem_singleton] at hm
  rcases hm with hm | rfl
  · exact h x hm
  · exact hx

set_option maxHeartbeats 2000000 in
set_option maxRecDepth 100000 in
theorem Which_calls (A0 : Option Addr) (c0 : Nat) (l0 : List S28) (name wher : ByteArray) (w : World) (hr : Kd.C k28 w A0 l0.length l0) (hc : l0.length ≤ c0) (hmet : WMet w) (hs : smallR l0) (hw : wher.size ≤ 1000000) :
    Calls Tryd.prog 12 #[.slice A0 l0.length c0, .string name, .string wher] w fun e w' => e = .returned (.int .i64 (AclP.whichI (AclP.which (l0.map toR) name.data.toList wher.data.toList))) ∧ Below w.heap.size w w' := by
  have HM := Aside0.mk hmet
  have HR := Aside0.mk hr
  have HS := Aside0.mk hs
  have HW := Aside0.mk hw
  have hl6 : l0.length ≤ 1000000 := hs.1
  clear hmet hr hs hw hc
  go_enter Tryd.func12, Tryd.ntmps12
  go_wp2
  go_step3
  go_wp2
  go_step3
  go_wp2
  go_loopw [17] (fun i wr => ∃ k : Nat, k ≤ l0.length ∧ i = .int .i64 k ∧ Aside0 (∀ x ∈ l0.take k, tellB x name wher = false) ∧ Aside0 (wr.heap[w.heap.size]? = some (.cells #[.string name] 9 (0, 0))) ∧ Aside0 (wr.heap[w.heap.size + 1]? = some (.cells #[.string wher] 9 (0, 0))) ∧
    Aside0 (wr.heap[w.heap.size + 2]? = some (.cells #[.func (.func 20) #[] #[.pointer (some ⟨w.heap.size, 0, none⟩)], .func (.func 21) #[] #[.pointer (some ⟨w.heap.size + 1, 0, none⟩)]] 39 (0, 0))) ∧ Aside0 (Below w.heap.size w wr)) (fun i _ => l0.length - (intOf i).toNat)
  case atStart => exact ⟨0, Nat.zero_le _, rfl, ⟨by simp⟩, ⟨blk_alloc (blk_alloc (blk_new _ _) _) _⟩, ⟨by have := blk_alloc (blk_new (w.alloc (.cells #[.string name] 9)) (.cells #[.string wher] 9)) (.cells #[.func (.func 20) #[] #[.pointer (some ⟨w.heap.size, 0, none⟩)], .func (.func 21) #[] #[.pointer (some ⟨w.heap.size + 1, 0, none⟩)]] 39); simpa using this⟩,
    ⟨by have := blk_new ((w.alloc (.cells #[.string name] 9)).alloc (.cells #[.string wher] 9)) (.cells #[.func (.func 20) #[] #[.pointer (some ⟨w.heap.size, 0, none⟩)], .func (.func 21) #[] #[.pointer (some ⟨w.heap.size + 1, 0, none⟩)]] 39); simpa using this⟩, ⟨(((Below.refl _ _).alloc (Nat.le_refl _) _).alloc (by simp) _).alloc (by simp; omega) _⟩⟩
  case round =>
    obtain ⟨k, hk, rfl, HN, H0, H1, H2, HB⟩ := hrel
    by_cases hlt : k < l0.length
    · have hC := Kd.C_below HR.out HB.out
      obtain ⟨ad, e, x0, x1, x2⟩ := at_T28 hC (k : Int) (by omega) (by omega)
      have hv : rd_T28 l0 (k : Int) = l0[k] := by
        rw [rd_T28, Int.toNat_natCast, List.getD_eq_getElem?_getD, List.getElem?_eq_getElem hlt]; rfl
      obtain ⟨x, hx⟩ : ∃ x, x = rd_T28 l0 (k : Int) := ⟨_, rfl⟩
      rw [← hx] at x0 x1 x2 hv
      have HX := Aside0.mk hv
      have hp6 : x.f2.size ≤ 1000000 := HS.out.2 x (by rw [hv]; exact List.getElem_mem _)
      subst e
      simp only [Int.toNat_natCast] at x0 x1 x2
      clear hC hx hv
      have HSZ := Aside0.mk HB.out.size
      have c0 : ∀ o, (wr.alloc o).cell? ⟨w.heap.size + 1 + 1, 0, none⟩ = some (.func (.func 20) #[] #[.pointer (some ⟨w.heap.size, 0, none⟩)]) := fun o => (blk_cell (blk_alloc H2.out o) 0).trans rfl
      have c1 : ∀ o, (wr.alloc o).cell? ⟨w.heap.size + 1 + 1, 1, none⟩ = some (.func (.func 21) #[] #[.pointer (some ⟨w.heap.size + 1, 0, none⟩)]) := fun o => (blk_cell (blk_alloc H2.out o) 1).trans rfl
      have i0 : ∀ W, (Instr.index 39 (.agg #[.func (.func 20) #[] #[.pointer (some ⟨w.heap.size, 0, none⟩)], .func (.func 21) #[] #[.pointer (some ⟨w.heap.size + 1, 0, none⟩)]]) (.int .i64 0)).run Tryd.prog W = .ok (.func (.func 20) #[] #[.pointer (some ⟨w.heap.size, 0, none⟩)]) W := fun W => rfl
      have i1 : ∀ W, (Instr.index 39 (.agg #[.func (.func 20) #[] #[.pointer (some ⟨w.heap.size, 0, none⟩)], .func (.func 21) #[] #[.pointer (some ⟨w.heap.size + 1, 0, none⟩)]]) (.int .i64 1)).run Tryd.prog W = .ok (.func (.func 21) #[] #[.pointer (some ⟨w.heap.size + 1, 0, none⟩)]) W := fun W => rfl
      obtain ⟨b1, hb1⟩ : ∃ b1, b1 = (x.f1.data.toList == [] || x.f1.data.toList == name.data.toList) := ⟨_, rfl⟩
      obtain ⟨b2, hb2⟩ : ∃ b2, b2 = PathP.under x.f2.data.toList wher.data.toList := ⟨_, rfl⟩
      have HT := Aside0.mk (show tellB x name wher = (b1 && b2) from by rw [hb1, hb2]; rfl)
      have HB1 := Aside0.mk hb1
      have HB2 := Aside0.mk hb2
      clear hb1 hb2
      cases b1
      · go_wp2
        refine wp_loop_rounds 3 ?_
        rw [rounds_succ]
        go_wp2_with (go_at_call 20; with_reducible refine (which1_calls _ _ _ name _ _ ((blk_cell (blk_alloc H0.out _) 0).trans rfl)).mono ?_; rintro e w1 ⟨rfl, hb⟩; have HE := Aside0.mk hb; clear hb; rw [← HB1.out]; have d0 : w1.cell? ⟨w.heap.size + 1 + 1, 0, none⟩ = some (.func (.func 20) #[] #[.pointer (some ⟨w.heap.size, 0, none⟩)]) := (blk_cell (blk_below (blk_alloc H2.out _) HE.out) 0).trans rfl; have d1 : w1.cell? ⟨w.heap.size + 1 + 1, 1, none⟩ = some (.func (.func 21) #[] #[.pointer (some ⟨w.heap.size + 1, 0, none⟩)]) := (blk_cell (blk_below (blk_alloc H2.out _) HE.out) 1).trans rfl; have hn := Aside0.mk (blk_below (blk_new wr (.cells #[.bool x.f0, .string x.f1, .string x.f2] 28)) HE.out); have q0 : w1.cell? ⟨wr.heap.size, 0, none⟩ = some (.bool x.f0) := (blk_cell hn.out 0).trans rfl; have q1 : w1.cell? ⟨wr.heap.size, 1, none⟩ = some (.string x.f1) := (blk_cell hn.out 1).trans rfl; have q2 : w1.cell? ⟨wr.heap.size, 2, none⟩ = some (.string x.f2) := (blk_cell hn.out 2).trans rfl)
        go_roundw
        case rel => exact ⟨k + 1, by omega, by go_num, ⟨no_more HN.out hlt (by rw [← HX.out, HT.out]; rfl)⟩, ⟨blk_below (blk_alloc H0.out _) HE.out⟩, ⟨blk_below (blk_alloc H1.out _) HE.out⟩, ⟨blk_below (blk_alloc H2.out _) HE.out⟩, ⟨(HB.out.alloc HSZ.out _).trans (HE.out.mono (HB.out.alloc HSZ.out _).size)⟩⟩
        case measure => simp [intOf]; omega
      · cases b2
        · go_wp2
          refine wp_loop_rounds 3 ?_
          rw [rounds_succ]
          go_wp2_with (go_at_call 20; with_reducible refine (which1_calls _ _ _ name _ _ ((blk_cell (blk_alloc H0.out _) 0).trans rfl)).mono ?_; rintro e w1 ⟨rfl, hb⟩; have HE := Aside0.mk hb; clear hb; rw [← HB1.out]; have d0 : w1.cell? ⟨w.heap.size + 1 + 1, 0, none⟩ = some (.func (.func 20) #[] #[.pointer (some ⟨w.heap.size, 0, none⟩)]) := (blk_cell (blk_below (blk_alloc H2.out _) HE.out) 0).trans rfl; have d1 : w1.cell? ⟨w.heap.size + 1 + 1, 1, none⟩ = some (.func (.func 21) #[] #[.pointer (some ⟨w.heap.size + 1, 0, none⟩)]) := (blk_cell (blk_below (blk_alloc H2.out _) HE.out) 1).trans rfl; have hn := Aside0.mk (blk_below (blk_new wr (.cells #[.bool x.f0, .string x.f1, .string x.f2] 28)) HE.out); have q0 : w1.cell? ⟨wr.heap.size, 0, none⟩ = some (.bool x.f0) := (blk_cell hn.out 0).trans rfl; have q1 : w1.cell? ⟨wr.heap.size, 1, none⟩ = some (.string x.f1) := (blk_cell hn.out 1).trans rfl; have q2 : w1.cell? ⟨wr.heap.size, 2, none⟩ = some (.string x.f2) := (blk_cell hn.out 2).trans rfl)
          rw [rounds_succ]
          go_wp2_with (go_at_call 21; with_reducible refine (which2_calls _ _ _ wher _ _ ((blk_cell (blk_below (blk_alloc H1.out _) HE.out) 0).trans rfl) hp6 HW.out (HM.out.below ((HB.out.alloc HSZ.out _).trans (HE.out.mono (HB.out.alloc HSZ.out _).size)))).mono ?_; rintro e w2 ⟨rfl, hb⟩; have HF := Aside0.mk hb; clear hb; rw [← HB2.out])
          go_roundw
          case rel => exact ⟨k + 1, by omega, by go_num, ⟨no_more HN.out hlt (by rw [← HX.out, HT.out]; rfl)⟩, ⟨blk_below (blk_below (blk_alloc H0.out _) HE.out) HF.out⟩, ⟨blk_below (blk_below (blk_alloc H1.out _) HE.out) HF.out⟩, ⟨blk_below (blk_below (blk_alloc H2.out _) HE.out) HF.out⟩, ⟨((HB.out.alloc HSZ.out _).trans (HE.out.mono (HB.out.alloc HSZ.out _).size)).trans (HF.out.mono ((HB.out.alloc HSZ.out _).trans (HE.out.mono (HB.out.alloc HSZ.out _).size)).size)⟩⟩
          case measure => simp [intOf]; omega
        · go_wp2
          refine wp_loop_rounds 3 ?_
          rw [rounds_succ]
          go_wp2_with (go_at_call 20; with_reducible refine (which1_calls _ _ _ name _ _ ((blk_cell (blk_alloc H0.out _) 0).trans rfl)).mono ?_; rintro e w1 ⟨rfl, hb⟩; have HE := Aside0.mk hb; clear hb; rw [← HB1.out]; have d0 : w1.cell? ⟨w.heap.size + 1 + 1, 0, none⟩ = some (.func (.func 20) #[] #[.pointer (some ⟨w.heap.size, 0, none⟩)]) := (blk_cell (blk_below (blk_alloc H2.out _) HE.out) 0).trans rfl; have d1 : w1.cell? ⟨w.heap.size + 1 + 1, 1, none⟩ = some (.func (.func 21) #[] #[.pointer (some ⟨w.heap.size + 1, 0, none⟩)]) := (blk_cell (blk_below (blk_alloc H2.out _) HE.out) 1).trans rfl; have hn := Aside0.mk (blk_below (blk_new wr (.cells #[.bool x.f0, .string x.f1, .string x.f2] 28)) HE.out); have q0 : w1.cell? ⟨wr.heap.size, 0, none⟩ = some (.bool x.f0) := (blk_cell hn.out 0).trans rfl; have q1 : w1.cell? ⟨wr.heap.size, 1, none⟩ = some (.string x.f1) := (blk_cell hn.out 1).trans rfl; have q2 : w1.cell? ⟨wr.heap.size, 2, none⟩ = some (.string x.f2) := (blk_cell hn.out 2).trans rfl)
          rw [rounds_succ]
          go_wp2_with (go_at_call 21; with_reducible refine (which2_calls _ _ _ wher _ _ ((blk_cell (blk_below (blk_alloc H1.out _) HE.out) 0).trans rfl) hp6 HW.out (HM.out.below ((HB.out.alloc HSZ.out _).trans (HE.out.mono (HB.out.alloc HSZ.out _).size)))).mono ?_; rintro e w2 ⟨rfl, hb⟩; have HF := Aside0.mk hb; clear hb; rw [← HB2.out])
          rw [rounds_succ]
          go_wp2
          try rw [Exit.noGoto_ret]
          go_ret
          refine ⟨?_, ((HB.out.alloc HSZ.out _).trans (HE.out.mono (HB.out.alloc HSZ.out _).size)).trans (HF.out.mono ((HB.out.alloc HSZ.out _).trans (HE.out.mono (HB.out.alloc HSZ.out _).size)).size)⟩
          rw [AclP.which, which_hit name wher l0 k 0 HN.out hlt (by rw [← HX.out, HT.out]; rfl), Nat.zero_add]
          rfl
    · obtain rfl : k = l0.length := by omega
      have HNN := Aside0.mk (which_none name wher l0 0 (by have := HN.out; rwa [List.take_length] at this))
      go_wp2
      try rw [Exit.noGoto_ret]
      go_ret
      refine ⟨?_, HB.out⟩
      rw [AclP.which, HNN.out]
      rfl
theorem acl_Which.calls (A0 : Option Addr) (c0 : Nat) (l0 : List S28) (a1 a2 : ByteArray) (r : Int) (w : World) (hr0 : Kd.C k28 w A0 l0.length l0) (hc0 : l0.length ≤ c0) (hmet : WMet w) (h : acl_Which.f l0 a1 a2 = some r) :
    Calls Tryd.prog 12 #[.slice A0 l0.length c0, .string a1, .string a2] w fun e w' => e = .returned (.int .i64 r) ∧ Below w.heap.size w w' := by
  unfold acl_Which.f at h
  split at h
  · rename_i hs
    obtain rfl := Option.some.inj h
    exact Which_calls A0 c0 l0 a1 a2 w hr0 hc0 hmet hs.1 hs.2
  · cases h
end Go.Proofs.YtdemfgijfnicpaaDoor.Q

namespace Go.Proofs.YtdemfgijfnicpaaDoor.Q
open Go.RowKit Go.Proofs.YtdemfgijfnicpaaDoor.AclMet Go.Proofs.YtdemfgijfnicpaaDoorW.PrintWords Go.Proofs.YtdemfgijfnicpaaDoorW.PrintLast Go.Proofs.YtdemfgijfnicpaaDoorW.PrintMore
attribute [local go_sem] max2_int min2_int max_two min_two max_three min_three max_four min_four   -- for this text's walks alone
set_option linter.unusedVariables false
set_option linter.unusedSimpArgs false

/-! ### wharfingerref07_Upper: function 27 -/
def wharfingerref07_Upper.l0 : Nat → ByteArray → ByteArray → Int → Option (ByteArray)
  | 0, _, _, _ => none
  | k + 1, x0, x3, x4 => if x4 < (x0.size : Int) then (if 0 ≤ x4 then (if (bt x0 x4) ≥ 97 then (if (bt x0 x4) ≤ 122 then ((some (([((((bt x0 x4) - 97) % 256) + 65) % 256] : List Int) : List Int)).bind fun y127 => (if x3.size + (strOfNums y127).size ≤ 9223372036854775807 then (wharfingerref07_Upper.l0 k x0 (x3 ++ (strOfNums y127)) (wrap64 (x4 + 1))) else (none))) else ((some (([bt x0 x4] : List Int) : List Int)).bind fun y130 => (if x3.size + (strOfNums y130).size ≤ 9223372036854775807 then (wharfingerref07_Upper.l0 k x0 (x3 ++ (strOfNums y130)) (wrap64 (x4 + 1))) else (none)))) else ((some (([bt x0 x4] : List Int) : List Int)).bind fun y133 => (if x3.size + (strOfNums y133).size ≤ 9223372036854775807 then (wharfingerref07_Upper.l0 k x0 (x3 ++ (strOfNums y133)) (wrap64 (x4 + 1))) else (none)))) else (none)) else (some x3)
def wharfingerref07_Upper.f (k : Nat) (a0 : ByteArray) : Option (ByteArray) := wharfingerref07_Upper.l0 k a0 (⟨#[]⟩ : ByteArray) 0
theorem wharfingerref07_Upper.mono_l : ∀ k, (∀ y0 y1 y2, LeO (wharfingerref07_Upper.l0 k y0 y1 y2) (wharfingerref07_Upper.l0 (k + 1) y0 y1 y2))
  | 0 => fun _ _ _ r h => by simp [wharfingerref07_Upper.l0] at h
  | k + 1 => by
    have ih0 := wharfingerref07_Upper.mono_l k
    · intro y0 y1 y2
      unfold wharfingerref07_Upper.l0
      repeat' first
      | (with_reducible exact ih0 _ _ _)
      | (with_reducible exact LeO.refl _)
      | (with_reducible exact LeO.none _)
      | (with_reducible refine LeO.ite ?_ ?_)
      | (with_reducible refine LeO.bind ?_ (fun _ => ?_))
      | exact ih0 _ _ _
      | exact LeO.none _
      | refine LeO.ite ?_ ?_
      | refine LeO.bind ?_ (fun _ => ?_)
theorem wharfingerref07_Upper.mono : ∀ a0 k, LeO (wharfingerref07_Upper.f k a0) (wharfingerref07_Upper.f (k + 1) a0) := by
  intro a0 k
  have ih0 := wharfingerref07_Upper.mono_l k
  unfold wharfingerref07_Upper.f
  repeat' first
      | (with_reducible exact ih0 _ _ _)
      | (with_reducible exact LeO.refl _)
      | (with_reducible exact LeO.none _)
      | (with_reducible refine LeO.ite ?_ ?_)
      | (with_reducible refine LeO.bind ?_ (fun _ => ?_))
      | exact ih0 _ _ _
      | exact LeO.none _
      | refine LeO.ite ?_ ?_
      | refine LeO.bind ?_ (fun _ => ?_)
set_option maxHeartbeats 8000000 in
set_option maxRecDepth 100000 in
theorem wharfingerref07_Upper.calls (k : Nat) (a0 : ByteArray) (r : ByteArray) (w : World) (h : wharfingerref07_Upper.f k a0 = some r) :
    Calls Tryd.prog 27 #[.string a0] w fun e w' => e = .returned (.string r) ∧ Below w.heap.size w w' := by
  have HB := Aside0.mk (Below.refl w.heap.size w)
  have H : (wharfingerref07_Upper.l0 k a0 (⟨#[]⟩ : ByteArray) 0) = some r := h
  clear h
  have H' := Aside0.mk H
  clear H
  go_enter Tryd.func27, Tryd.ntmps27
  go_wp2
  go_loopg [3, 4] k (fun kq v3 v4 w' => ∃ (x3_1 : ByteArray) (x4_1 : Int), v3 = .string x3_1 ∧ v4 = .int .i64 x4_1 ∧ Aside0 (wharfingerref07_Upper.l0 kq a0 x3_1 x4_1 = some r) ∧ Aside0 (kq ≤ k) ∧ Aside0 (Below w.heap.size w w'))
  case atStart => exact ⟨((⟨#[]⟩ : ByteArray)), (0), (by first | rfl | (simp; done) | (simp [*]; done)), (by first | rfl | (simp; done) | (simp [*]; done)), H', ⟨Nat.le_refl _⟩, ⟨by repeat (first | (with_reducible first | exact HB.out | apply below_alloc | apply pw_below_drewN | apply below_drew1) | exact HB.out)⟩⟩
  case round =>
    clear H'
    obtain ⟨x3_1, x4_1, rfl, rfl, HA, HK1, HB⟩ := hrel
    cases gk with
    | zero => exact absurd HA.out (by simp [wharfingerref07_Upper.l0])
    | succ k1 =>
      have H := HA.out
      clear HA
      simp only [wharfingerref07_Upper.l0] at H
      by_cases c2 : x4_1 < (a0.size : Int)
      · rw [if_pos c2] at H
        have c2b0 : decide (x4_1 < (a0.size : Int)) = true := decide_eq_true c2
        clear c2
        by_cases c3 : 0 ≤ x4_1
        · rw [if_pos c3] at H
          have c3b0 : decide (0 ≤ x4_1) = true := decide_eq_true c3
          clear c3
          by_cases c5 : (bt a0 x4_1) ≥ 97
          · rw [if_pos c5] at H
            have c5b0 : decide (97 ≤ (bt a0 x4_1)) = true := decide_eq_true c5
            clear c5
            by_cases c6 : (bt a0 x4_1) ≤ 122
            · rw [if_pos c6] at H
              have c6b0 : decide ((bt a0 x4_1) ≤ 122) = true := decide_eq_true c6
              clear c6
              obtain ⟨y127, hy127⟩ : ∃ y_ : List Int, y_ = (([((((bt a0 x4_1) - 97) % 256) + 65) % 256] : List Int)) := ⟨_, rfl⟩
              replace H : (if x3_1.size + (strOfNums y127).size ≤ 9223372036854775807 then (wharfingerref07_Upper.l0 k1 a0 (x3_1 ++ (strOfNums y127)) (wrap64 (x4_1 + 1))) else (none)) = some r := by first | (rw [hy127]; with_reducible exact H) | (have H2_ := (Option.bind_some _ _).symm.trans H; rw [hy127]; with_reducible exact H2_) | (have H2_ := (Option.bind_some _ _).symm.trans H; with_reducible exact H2_) | with_reducible exact H | (rw [hy127]; exact H) | exact H
              have Ny127 := Aside0.mk hy127
              clear hy127
              by_cases c7 : x3_1.size + (strOfNums y127).size ≤ 9223372036854775807
              · rw [if_pos c7] at H
                have c7b0 := eq_true c7
                have c7b1 : decide (x3_1.size + (strOfNums y127).size ≤ 9223372036854775807) = true := decide_eq_true c7
                try have c7b2 : (9223372036854775807 < x3_1.size + (strOfNums y127).size) = False := eq_false (Nat.not_lt.2 c7)
                have H' := Aside0.mk H
                clear H
                have p4 : 0 ≤ (x4_1 : Int) := of_decide_eq_true (by first | (with_reducible assumption) | assumption)
                have q4 : x4_1 < (a0.size : Int) := of_decide_eq_true (by first | (with_reducible assumption) | assumption)
                have hx4 := bt_at a0 x4_1
                replace p4 := eq_true p4
                replace q4 := eq_true q4
                go_wp2_with (first | ((with_reducible refine gate_dst (N := 26) rfl ?_); refine Kd.R_lit (Kd.int .u8) _ 5 ?hg (N := 26) ?hd (xs := ([((((bt a0 x4_1) - 97) % 256) + 65) % 256] : List Int)) (inner := [.int .u8 (((((bt a0 x4_1) - 97) % 256) + 65) % 256)]) (ok := fun _ => True) (okp := fun _ => True) ?hr ?hp (fun _ hk => hk) trivial (Below.refl _ _) (Nat.le_refl _) (by simp) ?_; (case hd => rfl); (case hg => rfl); (case hr => first | (go_simp; done) | (go_simp; rfl)); (case hp => exact (Reps.one (show Kd.M (Kd.int .u8) _ _ _ (((((bt a0 x4_1) - 97) % 256) + 65) % 256) [.int .u8 (((((bt a0 x4_1) - 97) % 256) + 65) % 256)] from rfl) (Reps.none _ _))); intro v128 w8 ho9 hb hg_ hnew_; clear hg_ hnew_; (first | rw [← Ny127.out] at ho9 | (simp only [Int.reduceToNat] at ho9; rw [← Ny127.out] at ho9)); have n0_ := Aside0.mk (Kd.R_lower ho9 (below_size (by repeat (first | (with_reducible first | exact HB.out | apply below_alloc | apply pw_below_drewN | apply below_drew1) | exact HB.out)))); have n1_ := Aside0.mk (below_step (by repeat (first | (with_reducible first | exact HB.out | apply below_alloc | apply pw_below_drewN | apply below_drew1) | exact HB.out)) hb); clear HB; have HO129 := n0_; have HB := n1_; clear n0_ n1_; clear hb ho9; have hcv10 := own_string (P := Tryd.prog) Tryd.underlying46 Tryd.underlying5 Tryd.underlying9 (Kd.own_of_R HO129.out)))
                go_roundg k1
                case measure => have := HK1.out; omega
                case rel => exact ⟨(x3_1 ++ (strOfNums y127)), (wrap64 (x4_1 + 1)), (by first | rfl | (simp; done) | (simp [*]; done)), (by first | rfl | (simp; done) | (simp [*]; done)), H', ⟨by have := HK1.out; omega⟩, ⟨by repeat (first | (with_reducible first | exact HB.out | apply below_alloc | apply pw_below_drewN | apply below_drew1) | exact HB.out)⟩⟩
              · rw [if_neg c7] at H
                exact absurd H (by simp)
            · rw [if_neg c6] at H
              have c6b0 : decide ((bt a0 x4_1) ≤ 122) = false := decide_eq_false c6
              clear c6
              obtain ⟨y130, hy130⟩ : ∃ y_ : List Int, y_ = (([bt a0 x4_1] : List Int)) := ⟨_, rfl⟩
              replace H : (if x3_1.size + (strOfNums y130).size ≤ 9223372036854775807 then (wharfingerref07_Upper.l0 k1 a0 (x3_1 ++ (strOfNums y130)) (wrap64 (x4_1 + 1))) else (none)) = some r := by first | (rw [hy130]; with_reducible exact H) | (have H2_ := (Option.bind_some _ _).symm.trans H; rw [hy130]; with_reducible exact H2_) | (have H2_ := (Option.bind_some _ _).symm.trans H; with_reducible exact H2_) | with_reducible exact H | (rw [hy130]; exact H) | exact H
              have Ny130 := Aside0.mk hy130
              clear hy130
              by_cases c11 : x3_1.size + (strOfNums y130).size ≤ 9223372036854775807
              · rw [if_pos c11] at H
                have c11b0 := eq_true c11
                have c11b1 : decide (x3_1.size + (strOfNums y130).size ≤ 9223372036854775807) = true := decide_eq_true c11
                try have c11b2 : (9223372036854775807 < x3_1.size + (strOfNums y130).size) = False := eq_false (Nat.not_lt.2 c11)
                have H' := Aside0.mk H
                clear H
                have p4 : 0 ≤ (x4_1 : Int) := of_decide_eq_true (by first | (with_reducible assumption) | assumption)
                have q4 : x4_1 < (a0.size : Int) := of_decide_eq_true (by first | (with_reducible assumption) | assumption)
                have hx4 := bt_at a0 x4_1
                replace p4 := eq_true p4
                replace q4 := eq_true q4
                go_wp2_with (first | ((with_reducible refine gate_dst (N := 26) rfl ?_); refine Kd.R_lit (Kd.int .u8) _ 5 ?hg (N := 26) ?hd (xs := ([bt a0 x4_1] : List Int)) (inner := [.int .u8 (bt a0 x4_1)]) (ok := fun _ => True) (okp := fun _ => True) ?hr ?hp (fun _ hk => hk) trivial (Below.refl _ _) (Nat.le_refl _) (by simp) ?_; (case hd => rfl); (case hg => rfl); (case hr => first | (go_simp; done) | (go_simp; rfl)); (case hp => exact (Reps.one (show Kd.M (Kd.int .u8) _ _ _ (bt a0 x4_1) [.int .u8 (bt a0 x4_1)] from rfl) (Reps.none _ _))); intro v131 w12 ho13 hb hg_ hnew_; clear hg_ hnew_; (first | rw [← Ny130.out] at ho13 | (simp only [Int.reduceToNat] at ho13; rw [← Ny130.out] at ho13)); have n0_ := Aside0.mk (Kd.R_lower ho13 (below_size (by repeat (first | (with_reducible first | exact HB.out | apply below_alloc | apply pw_below_drewN | apply below_drew1) | exact HB.out)))); have n1_ := Aside0.mk (below_step (by repeat (first | (with_reducible first | exact HB.out | apply below_alloc | apply pw_below_drewN | apply below_drew1) | exact HB.out)) hb); clear HB; have HO132 := n0_; have HB := n1_; clear n0_ n1_; clear hb ho13; have hcv14 := own_string (P := Tryd.prog) Tryd.underlying46 Tryd.underlying5 Tryd.underlying9 (Kd.own_of_R HO132.out)))
                go_roundg k1
                case measure => have := HK1.out; omega
                case rel => exact ⟨(x3_1 ++ (strOfNums y130)), (wrap64 (x4_1 + 1)), (by first | rfl | (simp; done) | (simp [*]; done)), (by first | rfl | (simp; done) | (simp [*]; done)), H', ⟨by have := HK1.out; omega⟩, ⟨by repeat (first | (with_reducible first | exact HB.out | apply below_alloc | apply pw_below_drewN | apply below_drew1) | exact HB.out)⟩⟩
              · rw [if_neg c11] at H
                exact absurd H (by simp)
          · rw [if_neg c5] at H
            have c5b0 : decide (97 ≤ (bt a0 x4_1)) = false := decide_eq_false c5
            clear c5
            obtain ⟨y133, hy133⟩ : ∃ y_ : List Int, y_ = (([bt a0 x4_1] : List Int)) := ⟨_, rfl⟩
            replace H : (if x3_1.size + (strOfNums y133).size ≤ 9223372036854775807 then (wharfingerref07_Upper.l0 k1 a0 (x3_1 ++ (strOfNums y133)) (wrap64 (x4_1 + 1))) else (none)) = some r := by first | (rw [hy133]; with_reducible exact H) | (have H2_ := (Option.bind_some _ _).symm.trans H; rw [hy133]; with_reducible exact H2_) | (have H2_ := (Option.bind_some _ _).symm.trans H; with_reducible exact H2_) | with_reducible exact H | (rw [hy133]; exact H) | exact H
            have Ny133 := Aside0.mk hy133
            clear hy133
            by_cases c15 : x3_1.size + (strOfNums y133).size ≤ 9223372036854775807
            · rw [if_pos c15] at H
              have c15b0 := eq_true c15
              have c15b1 : decide (x3_1.size + (strOfNums y133).size ≤ 9223372036854775807) = true := decide_eq_true c15
              try have c15b2 : (9223372036854775807 < x3_1.size + (strOfNums y133).size) = False := eq_false (Nat.not_lt.2 c15)
              have H' := Aside0.mk H
              clear H
              have p4 : 0 ≤ (x4_1 : Int) := of_decide_eq_true (by first | (with_reducible assumption) | assumption)
              have q4 : x4_1 < (a0.size : Int) := of_decide_eq_true (by first | (with_reducible assumption) | assumption)
              have hx4 := bt_at a0 x4_1
              replace p4 := eq_true p4
              replace q4 := eq_true q4
              go_wp2_with (first | ((with_reducible refine gate_dst (N := 26) rfl ?_); refine Kd.R_lit (Kd.int .u8) _ 5 ?hg (N := 26) ?hd (xs := ([bt a0 x4_1] : List Int)) (inner := [.int .u8 (bt a0 x4_1)]) (ok := fun _ => True) (okp := fun _ => True) ?hr ?hp (fun _ hk => hk) trivial (Below.refl _ _) (Nat.le_refl _) (by simp) ?_; (case hd => rfl); (case hg => rfl); (case hr => first | (go_simp; done) | (go_simp; rfl)); (case hp => exact (Reps.one (show Kd.M (Kd.int .u8) _ _ _ (bt a0 x4_1) [.int .u8 (bt a0 x4_1)] from rfl) (Reps.none _ _))); intro v134 w16 ho17 hb hg_ hnew_; clear hg_ hnew_; (first | rw [← Ny133.out] at ho17 | (simp only [Int.reduceToNat] at ho17; rw [← Ny133.out] at ho17)); have n0_ := Aside0.mk (Kd.R_lower ho17 (below_size (by repeat (first | (with_reducible first | exact HB.out | apply below_alloc | apply pw_below_drewN | apply below_drew1) | exact HB.out)))); have n1_ := Aside0.mk (below_step (by repeat (first | (with_reducible first | exact HB.out | apply below_alloc | apply pw_below_drewN | apply below_drew1) | exact HB.out)) hb); clear HB; have HO135 := n0_; have HB := n1_; clear n0_ n1_; clear hb ho17; have hcv18 := own_string (P := Tryd.prog) Tryd.underlying46 Tryd.underlying5 Tryd.underlying9 (Kd.own_of_R HO135.out)))
              go_roundg k1
              case measure => have := HK1.out; omega
              case rel => exact ⟨(x3_1 ++ (strOfNums y133)), (wrap64 (x4_1 + 1)), (by first | rfl | (simp; done) | (simp [*]; done)), (by first | rfl | (simp; done) | (simp [*]; done)), H', ⟨by have := HK1.out; omega⟩, ⟨by repeat (first | (with_reducible first | exact HB.out | apply below_alloc | apply pw_below_drewN | apply below_drew1) | exact HB.out)⟩⟩
            · rw [if_neg c15] at H
              exact absurd H (by simp)
        · rw [if_neg c3] at H
          exact absurd H (by simp)
      · rw [if_neg c2] at H
        have c2b0 : decide (x4_1 < (a0.size : Int)) = false := decide_eq_false c2
        clear c2
        obtain rfl := Option.some.inj H
        go_wp2
        go_ret
        exact ⟨by first | rfl | (simp [errW_none, errW_some] <;> rfl) | (simp [*, errW_none, errW_some] <;> rfl), by repeat (first | (with_reducible first | exact HB.out | apply below_alloc | apply pw_below_drewN | apply below_drew1) | exact HB.out)⟩

end Go.Proofs.YtdemfgijfnicpaaDoor.Q

namespace Go.Proofs.YtdemfgijfnicpaaDoor.Q
open Go.RowKit Go.Proofs.YtdemfgijfnicpaaDoor.AclMet Go.Proofs.YtdemfgijfnicpaaDoorW.PrintWords Go.Proofs.YtdemfgijfnicpaaDoorW.PrintLast Go.Proofs.YtdemfgijfnicpaaDoorW.PrintMore
attribute [local go_sem] max2_int min2_int max_two min_two max_three min_three max_four min_four   -- for this text's walks alone
set_option linter.unusedVariables false
set_option linter.unusedSimpArgs false

/-! ### wharfingerref07_Find: function 17 -/
def wharfingerref07_Find.l0 : Nat → List (S35) → ByteArray → Int → Option (ByteArray × Int × Int × Bool × Bool)
  | 0, _, _, _ => none
  | k + 1, x4, x5, x6 => if x6 < (x4.length : Int) then (if 0 ≤ x6 then (if ((rd_T35 x4 x6).f0).toList = x5.toList then (some ((rd_T35 x4 x6).f0, (rd_T35 x4 x6).f1, (rd_T35 x4 x6).f2, (rd_T35 x4 x6).f3, true)) else (wharfingerref07_Find.l0 k x4 x5 (wrap64 (x6 + 1)))) else (none)) else (some ((⟨#[]⟩ : ByteArray), 0, 0, false, false))
def wharfingerref07_Find.f (k : Nat) (a0 : ByteArray) : Option (ByteArray × Int × Int × Bool × Bool) := (wharfingerref07_All.f).bind fun t137 => ((wharfingerref07_Upper.f k a0).bind fun t140 => (wharfingerref07_Find.l0 k t137 t140 0))
theorem wharfingerref07_Find.mono_l : ∀ k, (∀ y0 y1 y2, LeO (wharfingerref07_Find.l0 k y0 y1 y2) (wharfingerref07_Find.l0 (k + 1) y0 y1 y2))
  | 0 => fun _ _ _ r h => by simp [wharfingerref07_Find.l0] at h
  | k + 1 => by
    have ih0 := wharfingerref07_Find.mono_l k
    · intro y0 y1 y2
      unfold wharfingerref07_Find.l0
      repeat' first
      | (with_reducible exact ih0 _ _ _)
      | (with_reducible exact wharfingerref07_Upper.mono _ _)
      | (with_reducible exact LeO.refl _)
      | (with_reducible exact LeO.none _)
      | (with_reducible refine LeO.ite ?_ ?_)
      | (with_reducible refine LeO.bind ?_ (fun _ => ?_))
      | exact ih0 _ _ _
      | exact wharfingerref07_Upper.mono _ _
      | exact LeO.none _
      | refine LeO.ite ?_ ?_
      | refine LeO.bind ?_ (fun _ => ?_)
theorem wharfingerref07_Find.mono : ∀ a0 k, LeO (wharfingerref07_Find.f k a0) (wharfingerref07_Find.f (k + 1) a0) := by
  intro a0 k
  have ih0 := wharfingerref07_Find.mono_l k
  unfold wharfingerref07_Find.f
  repeat' first
      | (with_reducible exact ih0 _ _ _)
      | (with_reducible exact wharfingerref07_Upper.mono _ _)
      | (with_reducible exact LeO.refl _)
      | (with_reducible exact LeO.none _)
      | (with_reducible refine LeO.ite ?_ ?_)
      | (with_reducible refine LeO.bind ?_ (fun _ => ?_))
      | exact ih0 _ _ _
      | exact wharfingerref07_Upper.mono _ _
      | exact LeO.none _
      | refine LeO.ite ?_ ?_
      | refine LeO.bind ?_ (fun _ => ?_)
set_option maxHeartbeats 8000000 in
set_option maxRecDepth 100000 in
theorem wharfingerref07_Find.calls (k : Nat) (a0 : ByteArray) (r1 : ByteArray) (r2 : Int) (r3 : Int) (r4 : Bool) (r5 : Bool) (w : World) (h : wharfingerref07_Find.f k a0 = some (r1, r2, r3, r4, r5)) :
    Calls Tryd.prog 17 #[.string a0] w fun e w' => e = .returned (.tuple #[.agg #[.string r1, .int .i64 r2, .int .i64 r3, .bool r4], .bool r5]) ∧ Below w.heap.size w w' := by
  have hu35 := Tryd.underlying35
  have HB := Aside0.mk (Below.refl w.heap.size w)
  have H : ((wharfingerref07_All.f).bind fun t137 => ((wharfingerref07_Upper.f k a0).bind fun t140 => (wharfingerref07_Find.l0 k t137 t140 0))) = some (r1, r2, r3, r4, r5) := h
  clear h
  replace H := Option.bind_eq_some_iff.mp H
  obtain ⟨t137, A20, H⟩ := H
  replace H : ((wharfingerref07_Upper.f k a0).bind fun t140 => (wharfingerref07_Find.l0 k t137 t140 0)) = some (r1, r2, r3, r4, r5) := H
  have A2 := Aside0.mk A20
  clear A20
  replace H := Option.bind_eq_some_iff.mp H
  obtain ⟨t140, A30, H⟩ := H
  replace H : (wharfingerref07_Find.l0 k t137 t140 0) = some (r1, r2, r3, r4, r5) := H
  have A3 := Aside0.mk A30
  clear A30
  have H' := Aside0.mk H
  clear H
  go_enter Tryd.func17, Tryd.ntmps17
  go_wp2_with (first | ((with_reducible refine gate_dst (N := 2) rfl ?_); refine box_event ?hg (N := 2) ?hd (cs := #[.string (⟨#[]⟩ : ByteArray), .int .i64 0, .int .i64 0, .bool false]) (t := 35) ?hr ?_; (case hd => rfl); (case hg => rfl); (case hr => first | (go_simp; done) | (go_simp; rfl)); intro gb136 hg w4 hbox hb; have n0_ := Aside0.mk (below_step (by repeat (first | (with_reducible first | exact HB.out | apply below_alloc | apply pw_below_drewN | apply below_drew1) | exact HB.out)) hb); have n1_ := Aside0.mk (hbox); have n2_ := Aside0.mk ((by rw [hg]; exact (below_size (by repeat (first | (with_reducible first | exact HB.out | apply below_alloc | apply pw_below_drewN | apply below_drew1) | exact HB.out))) : w.heap.size ≤ gb136)); have n3_ := Aside0.mk ((by rw [hg]; exact (below_size (by repeat (first | (with_reducible first | exact HB.out | apply below_alloc | apply pw_below_drewN | apply below_drew1) | exact HB.out))) : w.heap.size ≤ gb136)); clear HB; have HB := n0_; have BK136 := n1_; have GW136 := n2_; have GE136 := n3_; clear n0_ n1_ n2_ n3_; clear hb hbox hg) | ((with_reducible refine gate_callee (f := 26) rfl ?_); refine goesL_ (some 7) rfl rfl Tryd.func26 (by kernel_rfl) rfl #[] rfl (by (try simp only [List.map_toArray, List.map_cons, List.map_nil]); first | done | rfl | (simp only [List.length_drop, List.length_take]; rfl)) ?_; (with_reducible refine (wharfingerref07_All.calls  t137 _ A2.out).mono ?_); rintro e w5 ⟨v138, rfl, ho0, hb⟩; refine ⟨_, rfl, ?_⟩; have n0_ := Aside0.mk (Kd.R_lower (Kd.R_newB ho0 (g := gb136) (o := .cells #[.string (⟨#[]⟩ : ByteArray), .int .i64 0, .int .i64 0, .bool false] 35 (0, 0)) (by (with_reducible repeat (first | refine blk_drewN ?_ _ | refine blk_drew ?_ | refine blk_alloc ?_ _)); exact BK136.out)) (below_size (by repeat (first | (with_reducible first | exact HB.out | apply below_alloc | apply pw_below_drewN | apply below_drew1 | refine below_set ?_ GE136.out) | exact HB.out)))); have n1_ := Aside0.mk (blk_below (g := gb136) (o := .cells #[.string (⟨#[]⟩ : ByteArray), .int .i64 0, .int .i64 0, .bool false] 35 (0, 0)) (by (with_reducible repeat (first | refine blk_drewN ?_ _ | refine blk_drew ?_ | refine blk_alloc ?_ _)); exact BK136.out) hb); have n2_ := Aside0.mk (below_step (by repeat (first | (with_reducible first | exact HB.out | apply below_alloc | apply pw_below_drewN | apply below_drew1 | refine below_set ?_ GE136.out) | exact HB.out)) hb); clear BK136; clear HB; have HO139 := n0_; have BK136 := n1_; have HB := n2_; clear n0_ n1_ n2_; (try clear hb); (try clear hb2); (try clear hk); (try clear hi); (try clear ho0)) | ((with_reducible refine gate_callee (f := 27) rfl ?_); refine goesL_ (some 9) rfl rfl Tryd.func27 (by kernel_rfl) rfl #[.string a0] rfl (by (try simp only [List.map_toArray, List.map_cons, List.map_nil]); first | done | rfl | (simp only [List.length_drop, List.length_take]; rfl)) ?_; (with_reducible refine (wharfingerref07_Upper.calls k a0 t140 _ A3.out).mono ?_); rintro e w6 ⟨rfl, hb⟩; refine ⟨_, rfl, ?_⟩; have n0_ := Aside0.mk (Kd.R_below (by (with_reducible repeat (first | apply Kd.R_alloc | apply Kd.R_drewN | apply Kd.R_drew)); exact HO139.out) hb); have n1_ := Aside0.mk (blk_below (g := gb136) (o := .cells #[.string (⟨#[]⟩ : ByteArray), .int .i64 0, .int .i64 0, .bool false] 35 (0, 0)) (by (with_reducible repeat (first | refine blk_drewN ?_ _ | refine blk_drew ?_ | refine blk_alloc ?_ _)); exact BK136.out) hb); have n2_ := Aside0.mk (below_step (by repeat (first | (with_reducible first | exact HB.out | apply below_alloc | apply pw_below_drewN | apply below_drew1 | refine below_set ?_ GE136.out) | exact HB.out)) hb); clear HO139; clear BK136; clear HB; have HO139 := n0_; have BK136 := n1_; have HB := n2_; clear n0_ n1_ n2_; (try clear hb); (try clear hb2); (try clear hk); (try clear hi)))
  go_loopg [6] k (fun kq v6 w' => ∃ (x6_1 : Int) (x137000_1 : ByteArray) (x137001_1 : Int) (x137002_1 : Int) (x137003_1 : Bool), v6 = .int .i64 x6_1 ∧ Aside0 (wharfingerref07_Find.l0 kq t137 t140 x6_1 = some (r1, r2, r3, r4, r5)) ∧ Aside0 (kq ≤ k) ∧ Aside0 (Kd.R k35 35 w' w.heap.size (fun k_ => k_ ≠ gb136) v138 t137) ∧ Aside0 (w'.heap[gb136]? = some (.cells #[.string x137000_1, .int .i64 x137001_1, .int .i64 x137002_1, .bool x137003_1] 35 (0, 0))) ∧ Aside0 (Below w.heap.size w w'))
  case atStart => exact ⟨(0), ((⟨#[]⟩ : ByteArray)), (0), (0), (false), (by first | rfl | (simp; done) | (simp [*]; done)), H', ⟨Nat.le_refl _⟩, ⟨by (with_reducible repeat (first | apply Kd.R_alloc | apply Kd.R_drewN | apply Kd.R_drew)); exact Kd.R_mono HO139.out (fun _ hk => hk.2)⟩, ⟨by (with_reducible repeat (first | refine blk_drewN ?_ _ | refine blk_drew ?_ | refine blk_alloc ?_ _)); exact BK136.out⟩, ⟨by repeat (first | (with_reducible first | exact HB.out | apply below_alloc | apply pw_below_drewN | apply below_drew1 | refine below_set ?_ GE136.out) | exact HB.out)⟩⟩
  case round =>
    clear H'
    try clear c1
    try clear c2
    try clear p2
    obtain ⟨x6_1, x137000_1, x137001_1, x137002_1, x137003_1, rfl, HA, HK1, HO_4, BK136, HB⟩ := hrel
    cases gk with
    | zero => exact absurd HA.out (by simp [wharfingerref07_Find.l0])
    | succ k1 =>
      have H := HA.out
      clear HA
      simp only [wharfingerref07_Find.l0] at H
      by_cases c7 : x6_1 < (t137.length : Int)
      · rw [if_pos c7] at H
        have c7b0 : decide (x6_1 < (t137.length : Int)) = true := decide_eq_true c7
        clear c7
        by_cases c8 : 0 ≤ x6_1
        · rw [if_pos c8] at H
          have c8b0 : decide (0 ≤ x6_1) = true := decide_eq_true c8
          clear c8
          by_cases c9 : ((rd_T35 t137 x6_1).f0).toList = t140.toList
          · rw [if_pos c9] at H
            have c9b0 : (((rd_T35 t137 x6_1).f0).toList == t140.toList) = true := beq_iff_eq.mpr c9
            have c9b1 : (((rd_T35 t137 x6_1).f0).toList != t140.toList) = false := bne_eq_false_iff_eq.mpr c9
            clear c9
            simp only [Option.some.injEq, Prod.mk.injEq] at H
            obtain ⟨rfl, rfl, rfl, rfl, rfl⟩ := H
            obtain ⟨Ao10, co10, eo10⟩ := Kd.R_slice HO_4.out
            subst eo10
            have p141 : 0 ≤ (x6_1 : Int) := of_decide_eq_true (by first | (with_reducible assumption) | assumption)
            have q141 : x6_1 < (t137.length : Int) := of_decide_eq_true (by first | (with_reducible assumption) | assumption)
            obtain ⟨ad141, e141, hx141_0, hx141_1, hx141_2, hx141_3⟩ := at_T35 (Kd.R_reads' HO_4.out).2.2 x6_1 p141 q141
            cases e141
            replace p141 := eq_true p141
            replace q141 := eq_true q141
            have p142 : 0 ≤ (x6_1 : Int) := of_decide_eq_true (by first | (with_reducible assumption) | assumption)
            have q142 : x6_1 < (t137.length : Int) := of_decide_eq_true (by first | (with_reducible assumption) | assumption)
            obtain ⟨ad142, e142, hx142_0, hx142_1, hx142_2, hx142_3⟩ := at_T35 (Kd.R_reads' HO_4.out).2.2 x6_1 p142 q142
            obtain rfl : ad141 = ad142 := (by injection e142)
            replace p142 := eq_true p142
            replace q142 := eq_true q142
            have hcz11_0 : wr.cell? ⟨gb136, 0, none⟩ = some (.string x137000_1) := (blk_cell BK136.out 0).trans rfl
            have hcz11_1 : wr.cell? ⟨gb136, 1, none⟩ = some (.int .i64 x137001_1) := (blk_cell BK136.out 1).trans rfl
            have hcz11_2 : wr.cell? ⟨gb136, 2, none⟩ = some (.int .i64 x137002_1) := (blk_cell BK136.out 2).trans rfl
            have hcz11_3 : wr.cell? ⟨gb136, 3, none⟩ = some (.bool x137003_1) := (blk_cell BK136.out 3).trans rfl
            have hfz11_0 := blk_frozen BK136.out 0
            have hfz11_1 := blk_frozen BK136.out 1
            have hfz11_2 := blk_frozen BK136.out 2
            have hfz11_3 := blk_frozen BK136.out 3
            go_wp2
            refine bodyPost_ret (results_ct rfl _ _ gb136 35 #[.string ((rd_T35 t137 x6_1).f0), .int .i64 ((rd_T35 t137 x6_1).f1), .int .i64 ((rd_T35 t137 x6_1).f2), .bool ((rd_T35 t137 x6_1).f3)] (0, 0) _ rfl (by (with_reducible repeat (first | refine blk_drewN ?_ _ | refine blk_drew ?_ | refine blk_alloc ?_ _)); refine blk_put (cs := #[.string ((rd_T35 t137 x6_1).f0), .int .i64 ((rd_T35 t137 x6_1).f1), .int .i64 ((rd_T35 t137 x6_1).f2), .bool x137003_1]) ?_ 3 _ rfl; (with_reducible repeat (first | refine blk_drewN ?_ _ | refine blk_drew ?_ | refine blk_alloc ?_ _)); refine blk_put (cs := #[.string ((rd_T35 t137 x6_1).f0), .int .i64 ((rd_T35 t137 x6_1).f1), .int .i64 x137002_1, .bool x137003_1]) ?_ 2 _ rfl; (with_reducible repeat (first | refine blk_drewN ?_ _ | refine blk_drew ?_ | refine blk_alloc ?_ _)); refine blk_put (cs := #[.string ((rd_T35 t137 x6_1).f0), .int .i64 x137001_1, .int .i64 x137002_1, .bool x137003_1]) ?_ 1 _ rfl; (with_reducible repeat (first | refine blk_drewN ?_ _ | refine blk_drew ?_ | refine blk_alloc ?_ _)); refine blk_put (cs := #[.string x137000_1, .int .i64 x137001_1, .int .i64 x137002_1, .bool x137003_1]) ?_ 0 _ rfl; (with_reducible repeat (first | refine blk_drewN ?_ _ | refine blk_drew ?_ | refine blk_alloc ?_ _)); exact BK136.out) Tryd.underlying35 rfl (by kernel_rfl)) rfl ?_
            exact ⟨by first | rfl | (simp [errW_none, errW_some] <;> rfl) | (simp [*, errW_none, errW_some] <;> rfl), by repeat (first | (with_reducible first | exact HB.out | apply below_alloc | apply pw_below_drewN | apply below_drew1 | refine below_set ?_ GE136.out) | exact HB.out)⟩
          · rw [if_neg c9] at H
            have c9b0 : (((rd_T35 t137 x6_1).f0).toList == t140.toList) = false := beq_eq_false_iff_ne.mpr c9
            have c9b1 : (((rd_T35 t137 x6_1).f0).toList != t140.toList) = true := bne_iff_ne.mpr c9
            have H' := Aside0.mk H
            clear H
            obtain ⟨Ao12, co12, eo12⟩ := Kd.R_slice HO_4.out
            subst eo12
            have p141 : 0 ≤ (x6_1 : Int) := of_decide_eq_true (by first | (with_reducible assumption) | assumption)
            have q141 : x6_1 < (t137.length : Int) := of_decide_eq_true (by first | (with_reducible assumption) | assumption)
            obtain ⟨ad141, e141, hx141_0, hx141_1, hx141_2, hx141_3⟩ := at_T35 (Kd.R_reads' HO_4.out).2.2 x6_1 p141 q141
            cases e141
            replace p141 := eq_true p141
            replace q141 := eq_true q141
            go_wp2
            go_roundg k1
            case measure => have := HK1.out; omega
            case rel => exact ⟨(wrap64 (x6_1 + 1)), (x137000_1), (x137001_1), (x137002_1), (x137003_1), (by first | rfl | (simp; done) | (simp [*]; done)), H', ⟨by have := HK1.out; omega⟩, ⟨by (with_reducible repeat (first | apply Kd.R_alloc | apply Kd.R_drewN | apply Kd.R_drew)); exact HO_4.out⟩, ⟨by (with_reducible repeat (first | refine blk_drewN ?_ _ | refine blk_drew ?_ | refine blk_alloc ?_ _)); exact BK136.out⟩, ⟨by repeat (first | (with_reducible first | exact HB.out | apply below_alloc | apply pw_below_drewN | apply below_drew1 | refine below_set ?_ GE136.out) | exact HB.out)⟩⟩
        · rw [if_neg c8] at H
          exact absurd H (by simp)
      · rw [if_neg c7] at H
        have c7b0 : decide (x6_1 < (t137.length : Int)) = false := decide_eq_false c7
        clear c7
        simp only [Option.some.injEq, Prod.mk.injEq] at H
        obtain ⟨rfl, rfl, rfl, rfl, rfl⟩ := H
        obtain ⟨Ao13, co13, eo13⟩ := Kd.R_slice HO_4.out
        subst eo13
        have hcz14_0 : wr.cell? ⟨gb136, 0, none⟩ = some (.string x137000_1) := (blk_cell BK136.out 0).trans rfl
        have hcz14_1 : wr.cell? ⟨gb136, 1, none⟩ = some (.int .i64 x137001_1) := (blk_cell BK136.out 1).trans rfl
        have hcz14_2 : wr.cell? ⟨gb136, 2, none⟩ = some (.int .i64 x137002_1) := (blk_cell BK136.out 2).trans rfl
        have hcz14_3 : wr.cell? ⟨gb136, 3, none⟩ = some (.bool x137003_1) := (blk_cell BK136.out 3).trans rfl
        have hfz14_0 := blk_frozen BK136.out 0
        have hfz14_1 := blk_frozen BK136.out 1
        have hfz14_2 := blk_frozen BK136.out 2
        have hfz14_3 := blk_frozen BK136.out 3
        go_wp2
        refine bodyPost_ret (results_ct rfl _ _ gb136 35 #[.string (⟨#[]⟩ : ByteArray), .int .i64 0, .int .i64 0, .bool false] (0, 0) _ rfl (by (with_reducible repeat (first | refine blk_drewN ?_ _ | refine blk_drew ?_ | refine blk_alloc ?_ _)); refine blk_put (cs := #[.string (⟨#[]⟩ : ByteArray), .int .i64 0, .int .i64 0, .bool x137003_1]) ?_ 3 _ rfl; (with_reducible repeat (first | refine blk_drewN ?_ _ | refine blk_drew ?_ | refine blk_alloc ?_ _)); refine blk_put (cs := #[.string (⟨#[]⟩ : ByteArray), .int .i64 0, .int .i64 x137002_1, .bool x137003_1]) ?_ 2 _ rfl; (with_reducible repeat (first | refine blk_drewN ?_ _ | refine blk_drew ?_ | refine blk_alloc ?_ _)); refine blk_put (cs := #[.string (⟨#[]⟩ : ByteArray), .int .i64 x137001_1, .int .i64 x137002_1, .bool x137003_1]) ?_ 1 _ rfl; (with_reducible repeat (first | refine blk_drewN ?_ _ | refine blk_drew ?_ | refine blk_alloc ?_ _)); refine blk_put (cs := #[.string x137000_1, .int .i64 x137001_1, .int .i64 x137002_1, .bool x137003_1]) ?_ 0 _ rfl; (with_reducible repeat (first | refine blk_drewN ?_ _ | refine blk_drew ?_ | refine blk_alloc ?_ _)); exact BK136.out) Tryd.underlying35 rfl (by kernel_rfl)) rfl ?_
        exact ⟨by first | rfl | (simp [errW_none, errW_some] <;> rfl) | (simp [*, errW_none, errW_some] <;> rfl), by repeat (first | (with_reducible first | exact HB.out | apply below_alloc | apply pw_below_drewN | apply below_drew1 | refine below_set ?_ GE136.out) | exact HB.out)⟩

end Go.Proofs.YtdemfgijfnicpaaDoor.Q

namespace Go.Proofs.YtdemfgijfnicpaaDoor.Q
open Go.RowKit Go.Proofs.YtdemfgijfnicpaaDoor.AclMet Go.Proofs.YtdemfgijfnicpaaDoorW.PrintWords Go.Proofs.YtdemfgijfnicpaaDoorW.PrintLast Go.Proofs.YtdemfgijfnicpaaDoorW.PrintMore
attribute [local go_sem] max2_int min2_int max_two min_two max_three min_three max_four min_four   -- for this text's walks alone
set_option linter.unusedVariables false
set_option linter.unusedSimpArgs false

/-! ### acl_known: function 19 -/
def acl_known.f (a0 : ByteArray) : Option (Bool) := (verb_Find.f a0).bind fun bt104 => (if bt104.2.2.2.2 = true then (some (bt104.1.toList == a0.toList)) else (some false))
set_option maxHeartbeats 8000000 in
set_option maxRecDepth 100000 in
theorem acl_known.calls (a0 : ByteArray) (r : Bool) (w : World) (h : acl_known.f a0 = some r) :
    Calls Tryd.prog 19 #[.string a0] w fun e w' => e = .returned (.bool r) ∧ Below w.heap.size w w' := by
  have hu35 := Tryd.underlying35
  have HB := Aside0.mk (Below.refl w.heap.size w)
  have H : ((verb_Find.f a0).bind fun bt104 => (if bt104.2.2.2.2 = true then (some (bt104.1.toList == a0.toList)) else (some false))) = some r := h
  clear h
  replace H := Option.bind_eq_some_iff.mp H
  obtain ⟨⟨t104, t105, t106, t107, t108⟩, A20, H⟩ := H
  replace H : (if t108 = true then (some (t104.toList == a0.toList)) else (some false)) = some r := H
  have A2 := Aside0.mk A20
  clear A20
  by_cases c3 : t108 = true
  · subst c3
    have H1 : (some (t104.toList == a0.toList)) = some r := by rw [if_pos rfl] at H; exact H
    clear H
    have H := H1
    clear H1
    obtain rfl := Option.some.inj H
    go_enter Tryd.func19, Tryd.ntmps19
    go_wp2_with (first | ((with_reducible refine gate_callee (f := 30) rfl ?_); refine goesL_ (some 7) rfl rfl Tryd.func30 (by kernel_rfl) rfl #[.string a0] rfl (by (try simp only [List.map_toArray, List.map_cons, List.map_nil]); first | done | rfl | (simp only [List.length_drop, List.length_take]; rfl)) ?_; (with_reducible refine (verb_Find.calls a0 t104 t105 t106 t107 true _ A2.out).mono ?_); rintro e w4 ⟨rfl, hb⟩; refine ⟨_, rfl, ?_⟩; have n0_ := Aside0.mk (below_step (by repeat (first | (with_reducible first | exact HB.out | apply below_alloc | apply pw_below_drewN | apply below_drew1) | exact HB.out)) hb); clear HB; have HB := n0_; clear n0_; (try clear hb); (try clear hb2); (try clear hk); (try clear hi)) | ((with_reducible refine gate_dst (N := 3) rfl ?_); refine box_event ?hg (N := 3) ?hd (cs := #[.string (⟨#[]⟩ : ByteArray), .int .i64 0, .int .i64 0, .bool false]) (t := 35) ?hr ?_; (case hd => rfl); (case hg => rfl); (case hr => first | (go_simp; done) | (go_simp; rfl)); intro gb109 hg w5 hbox hb; have n0_ := Aside0.mk (below_step (by repeat (first | (with_reducible first | exact HB.out | apply below_alloc | apply pw_below_drewN | apply below_drew1) | exact HB.out)) hb); have n1_ := Aside0.mk (hbox); have n2_ := Aside0.mk ((by rw [hg]; exact (below_size (by repeat (first | (with_reducible first | exact HB.out | apply below_alloc | apply pw_below_drewN | apply below_drew1) | exact HB.out))) : w.heap.size ≤ gb109)); have n3_ := Aside0.mk ((by rw [hg]; exact (below_size (by repeat (first | (with_reducible first | exact HB.out | apply below_alloc | apply pw_below_drewN | apply below_drew1) | exact HB.out))) : w.heap.size ≤ gb109)); clear HB; have HB := n0_; have BK109 := n1_; have GW109 := n2_; have GE109 := n3_; clear n0_ n1_ n2_ n3_; clear hb hbox hg; have hcz6_0 : w5.cell? ⟨gb109, 0, none⟩ = some (.string (⟨#[]⟩ : ByteArray)) := (blk_cell BK109.out 0).trans rfl; have hcz6_1 : w5.cell? ⟨gb109, 1, none⟩ = some (.int .i64 0) := (blk_cell BK109.out 1).trans rfl; have hcz6_2 : w5.cell? ⟨gb109, 2, none⟩ = some (.int .i64 0) := (blk_cell BK109.out 2).trans rfl; have hcz6_3 : w5.cell? ⟨gb109, 3, none⟩ = some (.bool false) := (blk_cell BK109.out 3).trans rfl; have hfz6_0 := blk_frozen BK109.out 0; have hfz6_1 := blk_frozen BK109.out 1; have hfz6_2 := blk_frozen BK109.out 2; have hfz6_3 := blk_frozen BK109.out 3))
    go_ret
    exact ⟨by first | rfl | (simp [errW_none, errW_some] <;> rfl) | (simp [*, errW_none, errW_some] <;> rfl), by repeat (first | (with_reducible first | exact HB.out | apply below_alloc | apply pw_below_drewN | apply below_drew1 | refine below_set ?_ GE109.out) | exact HB.out)⟩
  · replace c3 := Bool.eq_false_iff.mpr c3
    subst c3
    have H1 : (some false) = some r := by rw [if_neg (show ¬ (false = true) by decide)] at H; exact H
    clear H
    have H := H1
    clear H1
    obtain rfl := Option.some.inj H
    go_enter Tryd.func19, Tryd.ntmps19
    go_wp2_with (first | ((with_reducible refine gate_callee (f := 30) rfl ?_); refine goesL_ (some 7) rfl rfl Tryd.func30 (by kernel_rfl) rfl #[.string a0] rfl (by (try simp only [List.map_toArray, List.map_cons, List.map_nil]); first | done | rfl | (simp only [List.length_drop, List.length_take]; rfl)) ?_; (with_reducible refine (verb_Find.calls a0 t104 t105 t106 t107 false _ A2.out).mono ?_); rintro e w7 ⟨rfl, hb⟩; refine ⟨_, rfl, ?_⟩; have n0_ := Aside0.mk (below_step (by repeat (first | (with_reducible first | exact HB.out | apply below_alloc | apply pw_below_drewN | apply below_drew1) | exact HB.out)) hb); clear HB; have HB := n0_; clear n0_; (try clear hb); (try clear hb2); (try clear hk); (try clear hi)) | ((with_reducible refine gate_dst (N := 3) rfl ?_); refine box_event ?hg (N := 3) ?hd (cs := #[.string (⟨#[]⟩ : ByteArray), .int .i64 0, .int .i64 0, .bool false]) (t := 35) ?hr ?_; (case hd => rfl); (case hg => rfl); (case hr => first | (go_simp; done) | (go_simp; rfl)); intro gb109 hg w8 hbox hb; have n0_ := Aside0.mk (below_step (by repeat (first | (with_reducible first | exact HB.out | apply below_alloc | apply pw_below_drewN | apply below_drew1) | exact HB.out)) hb); have n1_ := Aside0.mk (hbox); have n2_ := Aside0.mk ((by rw [hg]; exact (below_size (by repeat (first | (with_reducible first | exact HB.out | apply below_alloc | apply pw_below_drewN | apply below_drew1) | exact HB.out))) : w.heap.size ≤ gb109)); have n3_ := Aside0.mk ((by rw [hg]; exact (below_size (by repeat (first | (with_reducible first | exact HB.out | apply below_alloc | apply pw_below_drewN | apply below_drew1) | exact HB.out))) : w.heap.size ≤ gb109)); clear HB; have HB := n0_; have BK109 := n1_; have GW109 := n2_; have GE109 := n3_; clear n0_ n1_ n2_ n3_; clear hb hbox hg; have hcz9_0 : w8.cell? ⟨gb109, 0, none⟩ = some (.string (⟨#[]⟩ : ByteArray)) := (blk_cell BK109.out 0).trans rfl; have hcz9_1 : w8.cell? ⟨gb109, 1, none⟩ = some (.int .i64 0) := (blk_cell BK109.out 1).trans rfl; have hcz9_2 : w8.cell? ⟨gb109, 2, none⟩ = some (.int .i64 0) := (blk_cell BK109.out 2).trans rfl; have hcz9_3 : w8.cell? ⟨gb109, 3, none⟩ = some (.bool false) := (blk_cell BK109.out 3).trans rfl; have hfz9_0 := blk_frozen BK109.out 0; have hfz9_1 := blk_frozen BK109.out 1; have hfz9_2 := blk_frozen BK109.out 2; have hfz9_3 := blk_frozen BK109.out 3))
    go_ret
    exact ⟨by first | rfl | (simp [errW_none, errW_some] <;> rfl) | (simp [*, errW_none, errW_some] <;> rfl), by repeat (first | (with_reducible first | exact HB.out | apply below_alloc | apply pw_below_drewN | apply below_drew1 | refine below_set ?_ GE109.out) | exact HB.out)⟩

end Go.Proofs.YtdemfgijfnicpaaDoor.Q

namespace Go.Proofs.YtdemfgijfnicpaaDoor.Q
open Go.RowKit Go.Proofs.YtdemfgijfnicpaaDoor.AclMet Go.Proofs.YtdemfgijfnicpaaDoorW.PrintWords Go.Proofs.YtdemfgijfnicpaaDoorW.PrintLast Go.Proofs.YtdemfgijfnicpaaDoorW.PrintMore
attribute [local go_sem] max2_int min2_int max_two min_two max_three min_three max_four min_four   -- for this text's walks alone
set_option linter.unusedVariables false
set_option linter.unusedSimpArgs false

/-! ### acl_May: function 11 -/
def acl_May.l0 : Nat → List (S28) → List (S28) → Int → Int → Option (Bool)
  | 0, _, _, _, _ => none
  | k + 1, x0, x5, x6, x7 => if x7 < x6 then (if 0 ≤ x7 then (if x7 < (x5.length : Int) then (if ((rd_T28 x5 x7).f1).toList = ([] : List UInt8) then ((path_May.f ((rd_T28 x5 x7).f2)).bind fun t112 => (if t112 = true then (acl_May.l0 k x0 x5 x6 (wrap64 (x7 + 1))) else (some false))) else ((acl_known.f ((rd_T28 x5 x7).f1)).bind fun t113 => (if t113 = true then ((path_May.f ((rd_T28 x5 x7).f2)).bind fun t114 => (if t114 = true then (acl_May.l0 k x0 x5 x6 (wrap64 (x7 + 1))) else (some false))) else (some false)))) else (none)) else (none)) else (some (decide ((x0.length : Int) ≤ 8)))
def acl_May.f (k : Nat) (l0 : List (S28)) : Option (Bool) := acl_May.l0 k l0 l0 (l0.length : Int) 0
theorem acl_May.mono_l : ∀ k, (∀ y0 y1 y2 y3, LeO (acl_May.l0 k y0 y1 y2 y3) (acl_May.l0 (k + 1) y0 y1 y2 y3))
  | 0 => fun _ _ _ _ r h => by simp [acl_May.l0] at h
  | k + 1 => by
    have ih0 := acl_May.mono_l k
    · intro y0 y1 y2 y3
      unfold acl_May.l0
      repeat' first
      | (with_reducible exact ih0 _ _ _ _)
      | (with_reducible exact LeO.refl _)
      | (with_reducible exact LeO.none _)
      | (with_reducible refine LeO.ite ?_ ?_)
      | (with_reducible refine LeO.bind ?_ (fun _ => ?_))
      | exact ih0 _ _ _ _
      | exact LeO.none _
      | refine LeO.ite ?_ ?_
      | refine LeO.bind ?_ (fun _ => ?_)
theorem acl_May.mono : ∀ a0 k, LeO (acl_May.f k a0) (acl_May.f (k + 1) a0) := by
  intro a0 k
  have ih0 := acl_May.mono_l k
  unfold acl_May.f
  repeat' first
      | (with_reducible exact ih0 _ _ _ _)
      | (with_reducible exact LeO.refl _)
      | (with_reducible exact LeO.none _)
      | (with_reducible refine LeO.ite ?_ ?_)
      | (with_reducible refine LeO.bind ?_ (fun _ => ?_))
      | exact ih0 _ _ _ _
      | exact LeO.none _
      | refine LeO.ite ?_ ?_
      | refine LeO.bind ?_ (fun _ => ?_)
set_option maxHeartbeats 8000000 in
set_option maxRecDepth 100000 in
theorem acl_May.calls (k : Nat) (A0 : Option Addr) (c0 : Nat) (l0 : List (S28)) (r : Bool) (w : World) (hr0 : Kd.C k28 w A0 l0.length l0) (hc0 : l0.length ≤ c0) (hmet : WMet w) (h : acl_May.f k l0 = some r) :
    Calls Tryd.prog 11 #[.slice A0 l0.length c0] w fun e w' => e = .returned (.bool r) ∧ Below w.heap.size w w' := by
  have HMET := Aside0.mk hmet
  clear hmet
  have hu28 := Tryd.underlying28
  have HR0 := Aside0.mk hr0
  have HC0 := Aside0.mk hc0
  clear hr0 hc0
  have HB := Aside0.mk (Below.refl w.heap.size w)
  have H : (acl_May.l0 k l0 l0 (l0.length : Int) 0) = some r := h
  clear h
  have H' := Aside0.mk H
  clear H
  go_enter Tryd.func11, Tryd.ntmps11
  go_wp2
  go_loopg [7] k (fun kq v7 w' => ∃ (x7_1 : Int), v7 = .int .i64 x7_1 ∧ Aside0 (acl_May.l0 kq l0 l0 (l0.length : Int) x7_1 = some r) ∧ Aside0 (kq ≤ k) ∧ Aside0 (Below w.heap.size w w'))
  case atStart => exact ⟨(0), (by first | rfl | (simp; done) | (simp [*]; done)), H', ⟨Nat.le_refl _⟩, ⟨by repeat (first | (with_reducible first | exact HB.out | apply below_alloc | apply pw_below_drewN | apply below_drew1) | exact HB.out)⟩⟩
  case round =>
    clear H'
    try clear c1
    obtain ⟨x7_1, rfl, HA, HK1, HB⟩ := hrel
    cases gk with
    | zero => exact absurd HA.out (by simp [acl_May.l0])
    | succ k1 =>
      have H := HA.out
      clear HA
      simp only [acl_May.l0] at H
      by_cases c2 : x7_1 < (l0.length : Int)
      · rw [if_pos c2] at H
        have c2b0 : decide (x7_1 < (l0.length : Int)) = true := decide_eq_true c2
        clear c2
        by_cases c3 : 0 ≤ x7_1
        · rw [if_pos c3] at H
          have c3b0 : decide (0 ≤ x7_1) = true := decide_eq_true c3
          clear c3
          by_cases c4 : x7_1 < (l0.length : Int)
          · rw [if_pos c4] at H
            have c4b0 : decide (x7_1 < (l0.length : Int)) = true := decide_eq_true c4
            clear c4
            by_cases c5 : ((rd_T28 l0 x7_1).f1).toList = ([] : List UInt8)
            · rw [if_pos c5] at H
              have c5b0 : (((rd_T28 l0 x7_1).f1).toList == ([] : List UInt8)) = true := beq_iff_eq.mpr c5
              have c5b1 : (((rd_T28 l0 x7_1).f1).toList != ([] : List UInt8)) = false := bne_eq_false_iff_eq.mpr c5
              clear c5
              replace H := Option.bind_eq_some_iff.mp H
              obtain ⟨t112, A60, H⟩ := H
              replace H : (if t112 = true then (acl_May.l0 k1 l0 l0 (l0.length : Int) (wrap64 (x7_1 + 1))) else (some false)) = some r := H
              have A6 := Aside0.mk A60
              clear A60
              by_cases c7 : t112 = true
              · subst c7
                have H1 : (acl_May.l0 k1 l0 l0 (l0.length : Int) (wrap64 (x7_1 + 1))) = some r := by rw [if_pos rfl] at H; exact H
                clear H
                have H := H1
                clear H1
                have H' := Aside0.mk H
                clear H
                have p110 : 0 ≤ (x7_1 : Int) := of_decide_eq_true (by first | (with_reducible assumption) | assumption)
                have q110 : x7_1 < (l0.length : Int) := of_decide_eq_true (by first | (with_reducible assumption) | assumption)
                obtain ⟨ad110, e110, hx110_0, hx110_1, hx110_2⟩ := at_T28 HR0.out x7_1 p110 q110
                cases e110
                replace hx110_0 := (HB.out.cell (World.block_lt_of_cell? w _ hx110_0)).trans hx110_0
                replace hx110_1 := (HB.out.cell (World.block_lt_of_cell? w _ hx110_1)).trans hx110_1
                replace hx110_2 := (HB.out.cell (World.block_lt_of_cell? w _ hx110_2)).trans hx110_2
                replace p110 := eq_true p110
                replace q110 := eq_true q110
                go_wp2_with (first | ((with_reducible refine gate_dst (N := 4) rfl ?_); refine box_event ?hg (N := 4) ?hd (cs := #[.bool false, .string (⟨#[]⟩ : ByteArray), .string (⟨#[]⟩ : ByteArray)]) (t := 28) ?hr ?_; (case hd => rfl); (case hg => rfl); (case hr => first | (go_simp; done) | (go_simp; rfl)); intro gb111 hg w8 hbox hb; have n0_ := Aside0.mk (below_step (by repeat (first | (with_reducible first | exact HB.out | apply below_alloc | apply pw_below_drewN | apply below_drew1) | exact HB.out)) hb); have n1_ := Aside0.mk (hbox); have n2_ := Aside0.mk ((by rw [hg]; exact (below_size (by repeat (first | (with_reducible first | exact HB.out | apply below_alloc | apply pw_below_drewN | apply below_drew1) | exact HB.out))) : w.heap.size ≤ gb111)); have n3_ := Aside0.mk ((by rw [hg]; exact (below_size (by repeat (first | (with_reducible first | exact HB.out | apply below_alloc | apply pw_below_drewN | apply below_drew1) | exact HB.out))) : w.heap.size ≤ gb111)); clear HB; have HB := n0_; have BK111 := n1_; have GW111 := n2_; have GE111 := n3_; clear n0_ n1_ n2_ n3_; clear hb hbox hg; have hcz9_0 : w8.cell? ⟨gb111, 0, none⟩ = some (.bool false) := (blk_cell BK111.out 0).trans rfl; have hcz9_1 : w8.cell? ⟨gb111, 1, none⟩ = some (.string (⟨#[]⟩ : ByteArray)) := (blk_cell BK111.out 1).trans rfl; have hcz9_2 : w8.cell? ⟨gb111, 2, none⟩ = some (.string (⟨#[]⟩ : ByteArray)) := (blk_cell BK111.out 2).trans rfl; have hfz9_0 := blk_frozen BK111.out 0; have hfz9_1 := blk_frozen BK111.out 1; have hfz9_2 := blk_frozen BK111.out 2) | (go_at_call 15; (with_reducible refine (path_May.calls ((rd_T28 l0 x7_1).f2) true _ ?side1 A6.out).mono ?_); (case side1 => exact HMET.out.below (by repeat (first | (with_reducible first | exact HB.out | apply below_alloc | apply pw_below_drewN | apply below_drew1 | refine below_set ?_ GE111.out) | exact HB.out))); rintro e w10 ⟨rfl, hb⟩; have n0_ := Aside0.mk (blk_below (g := gb111) (o := .cells #[.bool ((rd_T28 l0 x7_1).f0), .string ((rd_T28 l0 x7_1).f1), .string ((rd_T28 l0 x7_1).f2)] 28 (0, 0)) (by (with_reducible repeat (first | refine blk_drewN ?_ _ | refine blk_drew ?_ | refine blk_alloc ?_ _)); refine blk_put (cs := #[.bool ((rd_T28 l0 x7_1).f0), .string ((rd_T28 l0 x7_1).f1), .string (⟨#[]⟩ : ByteArray)]) ?_ 2 _ rfl; (with_reducible repeat (first | refine blk_drewN ?_ _ | refine blk_drew ?_ | refine blk_alloc ?_ _)); refine blk_put (cs := #[.bool ((rd_T28 l0 x7_1).f0), .string (⟨#[]⟩ : ByteArray), .string (⟨#[]⟩ : ByteArray)]) ?_ 1 _ rfl; (with_reducible repeat (first | refine blk_drewN ?_ _ | refine blk_drew ?_ | refine blk_alloc ?_ _)); refine blk_put (cs := #[.bool false, .string (⟨#[]⟩ : ByteArray), .string (⟨#[]⟩ : ByteArray)]) ?_ 0 _ rfl; (with_reducible repeat (first | refine blk_drewN ?_ _ | refine blk_drew ?_ | refine blk_alloc ?_ _)); exact BK111.out) hb); have n1_ := Aside0.mk (below_step (by repeat (first | (with_reducible first | exact HB.out | apply below_alloc | apply pw_below_drewN | apply below_drew1 | refine below_set ?_ GE111.out) | exact HB.out)) hb); clear BK111; clear HB; have BK111 := n0_; have HB := n1_; clear n0_ n1_; (try clear hb); (try clear hb2); (try clear hk); (try clear hi)))
                go_roundg k1
                case measure => have := HK1.out; omega
                case rel => exact ⟨(wrap64 (x7_1 + 1)), (by first | rfl | (simp; done) | (simp [*]; done)), H', ⟨by have := HK1.out; omega⟩, ⟨by repeat (first | (with_reducible first | exact HB.out | apply below_alloc | apply pw_below_drewN | apply below_drew1 | refine below_set ?_ GE111.out) | exact HB.out)⟩⟩
              · replace c7 := Bool.eq_false_iff.mpr c7
                subst c7
                have H1 : (some false) = some r := by rw [if_neg (show ¬ (false = true) by decide)] at H; exact H
                clear H
                have H := H1
                clear H1
                obtain rfl := Option.some.inj H
                have p110 : 0 ≤ (x7_1 : Int) := of_decide_eq_true (by first | (with_reducible assumption) | assumption)
                have q110 : x7_1 < (l0.length : Int) := of_decide_eq_true (by first | (with_reducible assumption) | assumption)
                obtain ⟨ad110, e110, hx110_0, hx110_1, hx110_2⟩ := at_T28 HR0.out x7_1 p110 q110
                cases e110
                replace hx110_0 := (HB.out.cell (World.block_lt_of_cell? w _ hx110_0)).trans hx110_0
                replace hx110_1 := (HB.out.cell (World.block_lt_of_cell? w _ hx110_1)).trans hx110_1
                replace hx110_2 := (HB.out.cell (World.block_lt_of_cell? w _ hx110_2)).trans hx110_2
                replace p110 := eq_true p110
                replace q110 := eq_true q110
                go_wp2_with (first | ((with_reducible refine gate_dst (N := 4) rfl ?_); refine box_event ?hg (N := 4) ?hd (cs := #[.bool false, .string (⟨#[]⟩ : ByteArray), .string (⟨#[]⟩ : ByteArray)]) (t := 28) ?hr ?_; (case hd => rfl); (case hg => rfl); (case hr => first | (go_simp; done) | (go_simp; rfl)); intro gb111 hg w11 hbox hb; have n0_ := Aside0.mk (below_step (by repeat (first | (with_reducible first | exact HB.out | apply below_alloc | apply pw_below_drewN | apply below_drew1) | exact HB.out)) hb); have n1_ := Aside0.mk (hbox); have n2_ := Aside0.mk ((by rw [hg]; exact (below_size (by repeat (first | (with_reducible first | exact HB.out | apply below_alloc | apply pw_below_drewN | apply below_drew1) | exact HB.out))) : w.heap.size ≤ gb111)); have n3_ := Aside0.mk ((by rw [hg]; exact (below_size (by repeat (first | (with_reducible first | exact HB.out | apply below_alloc | apply pw_below_drewN | apply below_drew1) | exact HB.out))) : w.heap.size ≤ gb111)); clear HB; have HB := n0_; have BK111 := n1_; have GW111 := n2_; have GE111 := n3_; clear n0_ n1_ n2_ n3_; clear hb hbox hg; have hcz12_0 : w11.cell? ⟨gb111, 0, none⟩ = some (.bool false) := (blk_cell BK111.out 0).trans rfl; have hcz12_1 : w11.cell? ⟨gb111, 1, none⟩ = some (.string (⟨#[]⟩ : ByteArray)) := (blk_cell BK111.out 1).trans rfl; have hcz12_2 : w11.cell? ⟨gb111, 2, none⟩ = some (.string (⟨#[]⟩ : ByteArray)) := (blk_cell BK111.out 2).trans rfl; have hfz12_0 := blk_frozen BK111.out 0; have hfz12_1 := blk_frozen BK111.out 1; have hfz12_2 := blk_frozen BK111.out 2) | (go_at_call 15; (with_reducible refine (path_May.calls ((rd_T28 l0 x7_1).f2) false _ ?side1 A6.out).mono ?_); (case side1 => exact HMET.out.below (by repeat (first | (with_reducible first | exact HB.out | apply below_alloc | apply pw_below_drewN | apply below_drew1 | refine below_set ?_ GE111.out) | exact HB.out))); rintro e w13 ⟨rfl, hb⟩; have n0_ := Aside0.mk (blk_below (g := gb111) (o := .cells #[.bool ((rd_T28 l0 x7_1).f0), .string ((rd_T28 l0 x7_1).f1), .string ((rd_T28 l0 x7_1).f2)] 28 (0, 0)) (by (with_reducible repeat (first | refine blk_drewN ?_ _ | refine blk_drew ?_ | refine blk_alloc ?_ _)); refine blk_put (cs := #[.bool ((rd_T28 l0 x7_1).f0), .string ((rd_T28 l0 x7_1).f1), .string (⟨#[]⟩ : ByteArray)]) ?_ 2 _ rfl; (with_reducible repeat (first | refine blk_drewN ?_ _ | refine blk_drew ?_ | refine blk_alloc ?_ _)); refine blk_put (cs := #[.bool ((rd_T28 l0 x7_1).f0), .string (⟨#[]⟩ : ByteArray), .string (⟨#[]⟩ : ByteArray)]) ?_ 1 _ rfl; (with_reducible repeat (first | refine blk_drewN ?_ _ | refine blk_drew ?_ | refine blk_alloc ?_ _)); refine blk_put (cs := #[.bool false, .string (⟨#[]⟩ : ByteArray), .string (⟨#[]⟩ : ByteArray)]) ?_ 0 _ rfl; (with_reducible repeat (first | refine blk_drewN ?_ _ | refine blk_drew ?_ | refine blk_alloc ?_ _)); exact BK111.out) hb); have n1_ := Aside0.mk (below_step (by repeat (first | (with_reducible first | exact HB.out | apply below_alloc | apply pw_below_drewN | apply below_drew1 | refine below_set ?_ GE111.out) | exact HB.out)) hb); clear BK111; clear HB; have BK111 := n0_; have HB := n1_; clear n0_ n1_; (try clear hb); (try clear hb2); (try clear hk); (try clear hi)))
                go_ret
                exact ⟨by first | rfl | (simp [errW_none, errW_some] <;> rfl) | (simp [*, errW_none, errW_some] <;> rfl), by repeat (first | (with_reducible first | exact HB.out | apply below_alloc | apply pw_below_drewN | apply below_drew1 | refine below_set ?_ GE111.out) | exact HB.out)⟩
            · rw [if_neg c5] at H
              have c5b0 : (((rd_T28 l0 x7_1).f1).toList == ([] : List UInt8)) = false := beq_eq_false_iff_ne.mpr c5
              have c5b1 : (((rd_T28 l0 x7_1).f1).toList != ([] : List UInt8)) = true := bne_iff_ne.mpr c5
              replace H := Option.bind_eq_some_iff.mp H
              obtain ⟨t113, A140, H⟩ := H
              replace H : (if t113 = true then ((path_May.f ((rd_T28 l0 x7_1).f2)).bind fun t114 => (if t114 = true then (acl_May.l0 k1 l0 l0 (l0.length : Int) (wrap64 (x7_1 + 1))) else (some false))) else (some false)) = some r := H
              have A14 := Aside0.mk A140
              clear A140
              by_cases c15 : t113 = true
              · subst c15
                have H1 : ((path_May.f ((rd_T28 l0 x7_1).f2)).bind fun t114 => (if t114 = true then (acl_May.l0 k1 l0 l0 (l0.length : Int) (wrap64 (x7_1 + 1))) else (some false))) = some r := by rw [if_pos rfl] at H; exact H
                clear H
                have H := H1
                clear H1
                replace H := Option.bind_eq_some_iff.mp H
                obtain ⟨t114, A160, H⟩ := H
                replace H : (if t114 = true then (acl_May.l0 k1 l0 l0 (l0.length : Int) (wrap64 (x7_1 + 1))) else (some false)) = some r := H
                have A16 := Aside0.mk A160
                clear A160
                by_cases c17 : t114 = true
                · subst c17
                  have H1 : (acl_May.l0 k1 l0 l0 (l0.length : Int) (wrap64 (x7_1 + 1))) = some r := by rw [if_pos rfl] at H; exact H
                  clear H
                  have H := H1
                  clear H1
                  have H' := Aside0.mk H
                  clear H
                  have p110 : 0 ≤ (x7_1 : Int) := of_decide_eq_true (by first | (with_reducible assumption) | assumption)
                  have q110 : x7_1 < (l0.length : Int) := of_decide_eq_true (by first | (with_reducible assumption) | assumption)
                  obtain ⟨ad110, e110, hx110_0, hx110_1, hx110_2⟩ := at_T28 HR0.out x7_1 p110 q110
                  cases e110
                  replace hx110_0 := (HB.out.cell (World.block_lt_of_cell? w _ hx110_0)).trans hx110_0
                  replace hx110_1 := (HB.out.cell (World.block_lt_of_cell? w _ hx110_1)).trans hx110_1
                  replace hx110_2 := (HB.out.cell (World.block_lt_of_cell? w _ hx110_2)).trans hx110_2
                  replace p110 := eq_true p110
                  replace q110 := eq_true q110
                  go_wp2_with (first | ((with_reducible refine gate_dst (N := 4) rfl ?_); refine box_event ?hg (N := 4) ?hd (cs := #[.bool false, .string (⟨#[]⟩ : ByteArray), .string (⟨#[]⟩ : ByteArray)]) (t := 28) ?hr ?_; (case hd => rfl); (case hg => rfl); (case hr => first | (go_simp; done) | (go_simp; rfl)); intro gb111 hg w18 hbox hb; have n0_ := Aside0.mk (below_step (by repeat (first | (with_reducible first | exact HB.out | apply below_alloc | apply pw_below_drewN | apply below_drew1) | exact HB.out)) hb); have n1_ := Aside0.mk (hbox); have n2_ := Aside0.mk ((by rw [hg]; exact (below_size (by repeat (first | (with_reducible first | exact HB.out | apply below_alloc | apply pw_below_drewN | apply below_drew1) | exact HB.out))) : w.heap.size ≤ gb111)); have n3_ := Aside0.mk ((by rw [hg]; exact (below_size (by repeat (first | (with_reducible first | exact HB.out | apply below_alloc | apply pw_below_drewN | apply below_drew1) | exact HB.out))) : w.heap.size ≤ gb111)); clear HB; have HB := n0_; have BK111 := n1_; have GW111 := n2_; have GE111 := n3_; clear n0_ n1_ n2_ n3_; clear hb hbox hg; have hcz19_0 : w18.cell? ⟨gb111, 0, none⟩ = some (.bool false) := (blk_cell BK111.out 0).trans rfl; have hcz19_1 : w18.cell? ⟨gb111, 1, none⟩ = some (.string (⟨#[]⟩ : ByteArray)) := (blk_cell BK111.out 1).trans rfl; have hcz19_2 : w18.cell? ⟨gb111, 2, none⟩ = some (.string (⟨#[]⟩ : ByteArray)) := (blk_cell BK111.out 2).trans rfl; have hfz19_0 := blk_frozen BK111.out 0; have hfz19_1 := blk_frozen BK111.out 1; have hfz19_2 := blk_frozen BK111.out 2) | (go_at_call 19; (with_reducible refine (acl_known.calls ((rd_T28 l0 x7_1).f1) true _ A14.out).mono ?_); rintro e w20 ⟨rfl, hb⟩; have n0_ := Aside0.mk (blk_below (g := gb111) (o := .cells #[.bool ((rd_T28 l0 x7_1).f0), .string ((rd_T28 l0 x7_1).f1), .string ((rd_T28 l0 x7_1).f2)] 28 (0, 0)) (by (with_reducible repeat (first | refine blk_drewN ?_ _ | refine blk_drew ?_ | refine blk_alloc ?_ _)); refine blk_put (cs := #[.bool ((rd_T28 l0 x7_1).f0), .string ((rd_T28 l0 x7_1).f1), .string (⟨#[]⟩ : ByteArray)]) ?_ 2 _ rfl; (with_reducible repeat (first | refine blk_drewN ?_ _ | refine blk_drew ?_ | refine blk_alloc ?_ _)); refine blk_put (cs := #[.bool ((rd_T28 l0 x7_1).f0), .string (⟨#[]⟩ : ByteArray), .string (⟨#[]⟩ : ByteArray)]) ?_ 1 _ rfl; (with_reducible repeat (first | refine blk_drewN ?_ _ | refine blk_drew ?_ | refine blk_alloc ?_ _)); refine blk_put (cs := #[.bool false, .string (⟨#[]⟩ : ByteArray), .string (⟨#[]⟩ : ByteArray)]) ?_ 0 _ rfl; (with_reducible repeat (first | refine blk_drewN ?_ _ | refine blk_drew ?_ | refine blk_alloc ?_ _)); exact BK111.out) hb); have n1_ := Aside0.mk (below_step (by repeat (first | (with_reducible first | exact HB.out | apply below_alloc | apply pw_below_drewN | apply below_drew1 | refine below_set ?_ GE111.out) | exact HB.out)) hb); clear BK111; clear HB; have BK111 := n0_; have HB := n1_; clear n0_ n1_; (try clear hb); (try clear hb2); (try clear hk); (try clear hi); have hcz21_0 : w20.cell? ⟨gb111, 0, none⟩ = some (.bool ((rd_T28 l0 x7_1).f0)) := (blk_cell BK111.out 0).trans rfl; have hcz21_1 : w20.cell? ⟨gb111, 1, none⟩ = some (.string ((rd_T28 l0 x7_1).f1)) := (blk_cell BK111.out 1).trans rfl; have hcz21_2 : w20.cell? ⟨gb111, 2, none⟩ = some (.string ((rd_T28 l0 x7_1).f2)) := (blk_cell BK111.out 2).trans rfl; have hfz21_0 := blk_frozen BK111.out 0; have hfz21_1 := blk_frozen BK111.out 1; have hfz21_2 := blk_frozen BK111.out 2) | (go_at_call 15; (with_reducible refine (path_May.calls ((rd_T28 l0 x7_1).f2) true _ ?side1 A16.out).mono ?_); (case side1 => exact HMET.out.below (by repeat (first | (with_reducible first | exact HB.out | apply below_alloc | apply pw_below_drewN | apply below_drew1 | refine below_set ?_ GE111.out) | exact HB.out))); rintro e w22 ⟨rfl, hb⟩; have n0_ := Aside0.mk (blk_below (g := gb111) (o := .cells #[.bool ((rd_T28 l0 x7_1).f0), .string ((rd_T28 l0 x7_1).f1), .string ((rd_T28 l0 x7_1).f2)] 28 (0, 0)) (by (with_reducible repeat (first | refine blk_drewN ?_ _ | refine blk_drew ?_ | refine blk_alloc ?_ _)); exact BK111.out) hb); have n1_ := Aside0.mk (below_step (by repeat (first | (with_reducible first | exact HB.out | apply below_alloc | apply pw_below_drewN | apply below_drew1 | refine below_set ?_ GE111.out) | exact HB.out)) hb); clear BK111; clear HB; have BK111 := n0_; have HB := n1_; clear n0_ n1_; (try clear hb); (try clear hb2); (try clear hk); (try clear hi)))
                  go_roundg k1
                  case measure => have := HK1.out; omega
                  case rel => exact ⟨(wrap64 (x7_1 + 1)), (by first | rfl | (simp; done) | (simp [*]; done)), H', ⟨by have := HK1.out; omega⟩, ⟨by repeat (first | (with_reducible first | exact HB.out | apply below_alloc | apply pw_below_drewN | apply below_drew1 | refine below_set ?_ GE111.out) | exact HB.out)⟩⟩
                · replace c17 := Bool.eq_false_iff.mpr c17
                  subst c17
                  have H1 : (some false) = some r := by rw [if_neg (show ¬ (false = true) by decide)] at H; exact H
                  clear H
                  have H := H1
                  clear H1
                  obtain rfl := Option.some.inj H
                  have p110 : 0 ≤ (x7_1 : Int) := of_decide_eq_true (by first | (with_reducible assumption) | assumption)
                  have q110 : x7_1 < (l0.length : Int) := of_decide_eq_true (by first | (with_reducible assumption) | assumption)
                  obtain ⟨ad110, e110, hx110_0, hx110_1, hx110_2⟩ := at_T28 HR0.out x7_1 p110 q110
                  cases e110
                  replace hx110_0 := (HB.out.cell (World.block_lt_of_cell? w _ hx110_0)).trans hx110_0
                  replace hx110_1 := (HB.out.cell (World.block_lt_of_cell? w _ hx110_1)).trans hx110_1
                  replace hx110_2 := (HB.out.cell (World.block_lt_of_cell? w _ hx110_2)).trans hx110_2
                  replace p110 := eq_true p110
                  replace q110 := eq_true q110
                  go_wp2_with (first | ((with_reducible refine gate_dst (N := 4) rfl ?_); refine box_event ?hg (N := 4) ?hd (cs := #[.bool false, .string (⟨#[]⟩ : ByteArray), .string (⟨#[]⟩ : ByteArray)]) (t := 28) ?hr ?_; (case hd => rfl); (case hg => rfl); (case hr => first | (go_simp; done) | (go_simp; rfl)); intro gb111 hg w23 hbox hb; have n0_ := Aside0.mk (below_step (by repeat (first | (with_reducible first | exact HB.out | apply below_alloc | apply pw_below_drewN | apply below_drew1) | exact HB.out)) hb); have n1_ := Aside0.mk (hbox); have n2_ := Aside0.mk ((by rw [hg]; exact (below_size (by repeat (first | (with_reducible first | exact HB.out | apply below_alloc | apply pw_below_drewN | apply below_drew1) | exact HB.out))) : w.heap.size ≤ gb111)); have n3_ := Aside0.mk ((by rw [hg]; exact (below_size (by repeat (first | (with_reducible first | exact HB.out | apply below_alloc | apply pw_below_drewN | apply below_drew1) | exact HB.out))) : w.heap.size ≤ gb111)); clear HB; have HB := n0_; have BK111 := n1_; have GW111 := n2_; have GE111 := n3_; clear n0_ n1_ n2_ n3_; clear hb hbox hg; have hcz24_0 : w23.cell? ⟨gb111, 0, none⟩ = some (.bool false) := (blk_cell BK111.out 0).trans rfl; have hcz24_1 : w23.cell? ⟨gb111, 1, none⟩ = some (.string (⟨#[]⟩ : ByteArray)) := (blk_cell BK111.out 1).trans rfl; have hcz24_2 : w23.cell? ⟨gb111, 2, none⟩ = some (.string (⟨#[]⟩ : ByteArray)) := (blk_cell BK111.out 2).trans rfl; have hfz24_0 := blk_frozen BK111.out 0; have hfz24_1 := blk_frozen BK111.out 1; have hfz24_2 := blk_frozen BK111.out 2) | (go_at_call 19; (with_reducible refine (acl_known.calls ((rd_T28 l0 x7_1).f1) true _ A14.out).mono ?_); rintro e w25 ⟨rfl, hb⟩; have n0_ := Aside0.mk (blk_below (g := gb111) (o := .cells #[.bool ((rd_T28 l0 x7_1).f0), .string ((rd_T28 l0 x7_1).f1), .string ((rd_T28 l0 x7_1).f2)] 28 (0, 0)) (by (with_reducible repeat (first | refine blk_drewN ?_ _ | refine blk_drew ?_ | refine blk_alloc ?_ _)); refine blk_put (cs := #[.bool ((rd_T28 l0 x7_1).f0), .string ((rd_T28 l0 x7_1).f1), .string (⟨#[]⟩ : ByteArray)]) ?_ 2 _ rfl; (with_reducible repeat (first | refine blk_drewN ?_ _ | refine blk_drew ?_ | refine blk_alloc ?_ _)); refine blk_put (cs := #[.bool ((rd_T28 l0 x7_1).f0), .string (⟨#[]⟩ : ByteArray), .string (⟨#[]⟩ : ByteArray)]) ?_ 1 _ rfl; (with_reducible repeat (first | refine blk_drewN ?_ _ | refine blk_drew ?_ | refine blk_alloc ?_ _)); refine blk_put (cs := #[.bool false, .string (⟨#[]⟩ : ByteArray), .string (⟨#[]⟩ : ByteArray)]) ?_ 0 _ rfl; (with_reducible repeat (first | refine blk_drewN ?_ _ | refine blk_drew ?_ | refine blk_alloc ?_ _)); exact BK111.out) hb); have n1_ := Aside0.mk (below_step (by repeat (first | (with_reducible first | exact HB.out | apply below_alloc | apply pw_below_drewN | apply below_drew1 | refine below_set ?_ GE111.out) | exact HB.out)) hb); clear BK111; clear HB; have BK111 := n0_; have HB := n1_; clear n0_ n1_; (try clear hb); (try clear hb2); (try clear hk); (try clear hi); have hcz26_0 : w25.cell? ⟨gb111, 0, none⟩ = some (.bool ((rd_T28 l0 x7_1).f0)) := (blk_cell BK111.out 0).trans rfl; have hcz26_1 : w25.cell? ⟨gb111, 1, none⟩ = some (.string ((rd_T28 l0 x7_1).f1)) := (blk_cell BK111.out 1).trans rfl; have hcz26_2 : w25.cell? ⟨gb111, 2, none⟩ = some (.string ((rd_T28 l0 x7_1).f2)) := (blk_cell BK111.out 2).trans rfl; have hfz26_0 := blk_frozen BK111.out 0; have hfz26_1 := blk_frozen BK111.out 1; have hfz26_2 := blk_frozen BK111.out 2) | (go_at_call 15; (with_reducible refine (path_May.calls ((rd_T28 l0 x7_1).f2) false _ ?side1 A16.out).mono ?_); (case side1 => exact HMET.out.below (by repeat (first | (with_reducible first | exact HB.out | apply below_alloc | apply pw_below_drewN | apply below_drew1 | refine below_set ?_ GE111.out) | exact HB.out))); rintro e w27 ⟨rfl, hb⟩; have n0_ := Aside0.mk (blk_below (g := gb111) (o := .cells #[.bool ((rd_T28 l0 x7_1).f0), .string ((rd_T28 l0 x7_1).f1), .string ((rd_T28 l0 x7_1).f2)] 28 (0, 0)) (by (with_reducible repeat (first | refine blk_drewN ?_ _ | refine blk_drew ?_ | refine blk_alloc ?_ _)); exact BK111.out) hb); have n1_ := Aside0.mk (below_step (by repeat (first | (with_reducible first | exact HB.out | apply below_alloc | apply pw_below_drewN | apply below_drew1 | refine below_set ?_ GE111.out) | exact HB.out)) hb); clear BK111; clear HB; have BK111 := n0_; have HB := n1_; clear n0_ n1_; (try clear hb); (try clear hb2); (try clear hk); (try clear hi)))
                  go_ret
                  exact ⟨by first | rfl | (simp [errW_none, errW_some] <;> rfl) | (simp [*, errW_none, errW_some] <;> rfl), by repeat (first | (with_reducible first | exact HB.out | apply below_alloc | apply pw_below_drewN | apply below_drew1 | refine below_set ?_ GE111.out) | exact HB.out)⟩
              · replace c15 := Bool.eq_false_iff.mpr c15
                subst c15
                have H1 : (some false) = some r := by rw [if_neg (show ¬ (false = true) by decide)] at H; exact H
                clear H
                have H := H1
                clear H1
                obtain rfl := Option.some.inj H
                have p110 : 0 ≤ (x7_1 : Int) := of_decide_eq_true (by first | (with_reducible assumption) | assumption)
                have q110 : x7_1 < (l0.length : Int) := of_decide_eq_true (by first | (with_reducible assumption) | assumption)
                obtain ⟨ad110, e110, hx110_0, hx110_1, hx110_2⟩ := at_T28 HR0.out x7_1 p110 q110
                cases e110
                replace hx110_0 := (HB.out.cell (World.block_lt_of_cell? w _ hx110_0)).trans hx110_0
                replace hx110_1 := (HB.out.cell (World.block_lt_of_cell? w _ hx110_1)).trans hx110_1
                replace hx110_2 := (HB.out.cell (World.block_lt_of_cell? w _ hx110_2)).trans hx110_2
                replace p110 := eq_true p110
                replace q110 := eq_true q110
                go_wp2_with (first | ((with_reducible refine gate_dst (N := 4) rfl ?_); refine box_event ?hg (N := 4) ?hd (cs := #[.bool false, .string (⟨#[]⟩ : ByteArray), .string (⟨#[]⟩ : ByteArray)]) (t := 28) ?hr ?_; (case hd => rfl); (case hg => rfl); (case hr => first | (go_simp; done) | (go_simp; rfl)); intro gb111 hg w28 hbox hb; have n0_ := Aside0.mk (below_step (by repeat (first | (with_reducible first | exact HB.out | apply below_alloc | apply pw_below_drewN | apply below_drew1) | exact HB.out)) hb); have n1_ := Aside0.mk (hbox); have n2_ := Aside0.mk ((by rw [hg]; exact (below_size (by repeat (first | (with_reducible first | exact HB.out | apply below_alloc | apply pw_below_drewN | apply below_drew1) | exact HB.out))) : w.heap.size ≤ gb111)); have n3_ := Aside0.mk ((by rw [hg]; exact (below_size (by repeat (first | (with_reducible first | exact HB.out | apply below_alloc | apply pw_below_drewN | apply below_drew1) | exact HB.out))) : w.heap.size ≤ gb111)); clear HB; have HB := n0_; have BK111 := n1_; have GW111 := n2_; have GE111 := n3_; clear n0_ n1_ n2_ n3_; clear hb hbox hg; have hcz29_0 : w28.cell? ⟨gb111, 0, none⟩ = some (.bool false) := (blk_cell BK111.out 0).trans rfl; have hcz29_1 : w28.cell? ⟨gb111, 1, none⟩ = some (.string (⟨#[]⟩ : ByteArray)) := (blk_cell BK111.out 1).trans rfl; have hcz29_2 : w28.cell? ⟨gb111, 2, none⟩ = some (.string (⟨#[]⟩ : ByteArray)) := (blk_cell BK111.out 2).trans rfl; have hfz29_0 := blk_frozen BK111.out 0; have hfz29_1 := blk_frozen BK111.out 1; have hfz29_2 := blk_frozen BK111.out 2) | (go_at_call 19; (with_reducible refine (acl_known.calls ((rd_T28 l0 x7_1).f1) false _ A14.out).mono ?_); rintro e w30 ⟨rfl, hb⟩; have n0_ := Aside0.mk (blk_below (g := gb111) (o := .cells #[.bool ((rd_T28 l0 x7_1).f0), .string ((rd_T28 l0 x7_1).f1), .string ((rd_T28 l0 x7_1).f2)] 28 (0, 0)) (by (with_reducible repeat (first | refine blk_drewN ?_ _ | refine blk_drew ?_ | refine blk_alloc ?_ _)); refine blk_put (cs := #[.bool ((rd_T28 l0 x7_1).f0), .string ((rd_T28 l0 x7_1).f1), .string (⟨#[]⟩ : ByteArray)]) ?_ 2 _ rfl; (with_reducible repeat (first | refine blk_drewN ?_ _ | refine blk_drew ?_ | refine blk_alloc ?_ _)); refine blk_put (cs := #[.bool ((rd_T28 l0 x7_1).f0), .string (⟨#[]⟩ : ByteArray), .string (⟨#[]⟩ : ByteArray)]) ?_ 1 _ rfl; (with_reducible repeat (first | refine blk_drewN ?_ _ | refine blk_drew ?_ | refine blk_alloc ?_ _)); refine blk_put (cs := #[.bool false, .string (⟨#[]⟩ : ByteArray), .string (⟨#[]⟩ : ByteArray)]) ?_ 0 _ rfl; (with_reducible repeat (first | refine blk_drewN ?_ _ | refine blk_drew ?_ | refine blk_alloc ?_ _)); exact BK111.out) hb); have n1_ := Aside0.mk (below_step (by repeat (first | (with_reducible first | exact HB.out | apply below_alloc | apply pw_below_drewN | apply below_drew1 | refine below_set ?_ GE111.out) | exact HB.out)) hb); clear BK111; clear HB; have BK111 := n0_; have HB := n1_; clear n0_ n1_; (try clear hb); (try clear hb2); (try clear hk); (try clear hi)))
                go_ret
                exact ⟨by first | rfl | (simp [errW_none, errW_some] <;> rfl) | (simp [*, errW_none, errW_some] <;> rfl), by repeat (first | (with_reducible first | exact HB.out | apply below_alloc | apply pw_below_drewN | apply below_drew1 | refine below_set ?_ GE111.out) | exact HB.out)⟩
          · rw [if_neg c4] at H
            exact absurd H (by simp)
        · rw [if_neg c3] at H
          exact absurd H (by simp)
      · rw [if_neg c2] at H
        have c2b0 : decide (x7_1 < (l0.length : Int)) = false := decide_eq_false c2
        clear c2
        obtain rfl := Option.some.inj H
        go_wp2
        go_ret
        exact ⟨by first | rfl | (simp [errW_none, errW_some] <;> rfl) | (simp [*, errW_none, errW_some] <;> rfl), by repeat (first | (with_reducible first | exact HB.out | apply below_alloc | apply pw_below_drewN | apply below_drew1) | exact HB.out)⟩

end Go.Proofs.YtdemfgijfnicpaaDoor.Q

namespace Go.Proofs.YtdemfgijfnicpaaDoor.Q
open Go.RowKit Go.Proofs.YtdemfgijfnicpaaDoor.AclMet Go.Proofs.YtdemfgijfnicpaaDoorW.PrintWords Go.Proofs.YtdemfgijfnicpaaDoorW.PrintLast Go.Proofs.YtdemfgijfnicpaaDoorW.PrintMore
attribute [local go_sem] max2_int min2_int max_two min_two max_three min_three max_four min_four   -- for this text's walks alone
set_option linter.unusedVariables false
set_option linter.unusedSimpArgs false

/-! ### acl_Allowed: function 14 -/
def acl_Allowed.f (l0 : List (S28)) (a1 : ByteArray) (a2 : ByteArray) : Option (Bool) := (acl_Which.f l0 a1 a2).bind fun t115 => (if t115 ≥ 0 then (if 0 ≤ t115 then (if t115 < (l0.length : Int) then (some ((rd_T28 l0 t115).f0)) else (none)) else (none)) else (some false))
set_option maxHeartbeats 8000000 in
set_option maxRecDepth 100000 in
theorem acl_Allowed.calls (A0 : Option Addr) (c0 : Nat) (l0 : List (S28)) (a1 : ByteArray) (a2 : ByteArray) (r : Bool) (w : World) (hr0 : Kd.C k28 w A0 l0.length l0) (hc0 : l0.length ≤ c0) (hmet : WMet w) (h : acl_Allowed.f l0 a1 a2 = some r) :
    Calls Tryd.prog 14 #[.slice A0 l0.length c0, .string a1, .string a2] w fun e w' => e = .returned (.bool r) ∧ Below w.heap.size w w' := by
  have HMET := Aside0.mk hmet
  clear hmet
  have HR0 := Aside0.mk hr0
  have HC0 := Aside0.mk hc0
  clear hr0 hc0
  have HB := Aside0.mk (Below.refl w.heap.size w)
  have H : ((acl_Which.f l0 a1 a2).bind fun t115 => (if t115 ≥ 0 then (if 0 ≤ t115 then (if t115 < (l0.length : Int) then (some ((rd_T28 l0 t115).f0)) else (none)) else (none)) else (some false))) = some r := h
  clear h
  replace H := Option.bind_eq_some_iff.mp H
  obtain ⟨t115, A40, H⟩ := H
  replace H : (if t115 ≥ 0 then (if 0 ≤ t115 then (if t115 < (l0.length : Int) then (some ((rd_T28 l0 t115).f0)) else (none)) else (none)) else (some false)) = some r := H
  have A4 := Aside0.mk A40
  clear A40
  by_cases c5 : t115 ≥ 0
  · rw [if_pos c5] at H
    have c5b0 : decide (0 ≤ t115) = true := decide_eq_true c5
    clear c5
    by_cases c6 : 0 ≤ t115
    · rw [if_pos c6] at H
      have c6b0 : decide (0 ≤ t115) = true := decide_eq_true c6
      clear c6
      by_cases c7 : t115 < (l0.length : Int)
      · rw [if_pos c7] at H
        have c7b0 : decide (t115 < (l0.length : Int)) = true := decide_eq_true c7
        clear c7
        obtain rfl := Option.some.inj H
        go_enter Tryd.func14, Tryd.ntmps14
        go_wp2_with (first | ((with_reducible refine gate_callee (f := 12) rfl ?_); refine goesL_ (some 11) rfl rfl Tryd.func12 (by kernel_rfl) rfl #[.slice A0 l0.length c0, .string a1, .string a2] rfl (by (try simp only [List.map_toArray, List.map_cons, List.map_nil]); first | done | rfl | (simp only [List.length_drop, List.length_take]; rfl)) ?_; (with_reducible refine (acl_Which.calls _ _ l0 a1 a2 t115 _ ?side1 ?side2 ?side3 A4.out).mono ?_); (case side1 => repeat (first | exact HR0.out | (with_reducible refine Kd.C_alloc ?_ _) | (with_reducible refine Kd.C_drewN ?_ _) | (with_reducible refine Kd.C_drew ?_))); (case side2 => exact HC0.out); (case side3 => exact HMET.out.below (by repeat (first | (with_reducible first | exact HB.out | apply below_alloc | apply pw_below_drewN | apply below_drew1) | exact HB.out))); rintro e w8 ⟨rfl, hb⟩; refine ⟨_, rfl, ?_⟩; have n0_ := Aside0.mk (below_step (by repeat (first | (with_reducible first | exact HB.out | apply below_alloc | apply pw_below_drewN | apply below_drew1) | exact HB.out)) hb); clear HB; have HB := n0_; clear n0_; (try clear hb); (try clear hb2); (try clear hk); (try clear hi); have p116 : 0 ≤ (t115 : Int) := of_decide_eq_true (by first | (with_reducible assumption) | assumption); have q116 : t115 < (l0.length : Int) := of_decide_eq_true (by first | (with_reducible assumption) | assumption); obtain ⟨ad116, e116, hx116_0, hx116_1, hx116_2⟩ := at_T28 HR0.out t115 p116 q116; cases e116; replace hx116_0 := (HB.out.cell (World.block_lt_of_cell? w _ hx116_0)).trans hx116_0; replace hx116_1 := (HB.out.cell (World.block_lt_of_cell? w _ hx116_1)).trans hx116_1; replace hx116_2 := (HB.out.cell (World.block_lt_of_cell? w _ hx116_2)).trans hx116_2; replace p116 := eq_true p116; replace q116 := eq_true q116))
        go_ret
        exact ⟨by first | rfl | (simp [errW_none, errW_some] <;> rfl) | (simp [*, errW_none, errW_some] <;> rfl), by repeat (first | (with_reducible first | exact HB.out | apply below_alloc | apply pw_below_drewN | apply below_drew1) | exact HB.out)⟩
      · rw [if_neg c7] at H
        exact absurd H (by simp)
    · rw [if_neg c6] at H
      exact absurd H (by simp)
  · rw [if_neg c5] at H
    have c5b0 : decide (0 ≤ t115) = false := decide_eq_false c5
    clear c5
    obtain rfl := Option.some.inj H
    go_enter Tryd.func14, Tryd.ntmps14
    go_wp2_with (first | ((with_reducible refine gate_callee (f := 12) rfl ?_); refine goesL_ (some 11) rfl rfl Tryd.func12 (by kernel_rfl) rfl #[.slice A0 l0.length c0, .string a1, .string a2] rfl (by (try simp only [List.map_toArray, List.map_cons, List.map_nil]); first | done | rfl | (simp only [List.length_drop, List.length_take]; rfl)) ?_; (with_reducible refine (acl_Which.calls _ _ l0 a1 a2 t115 _ ?side1 ?side2 ?side3 A4.out).mono ?_); (case side1 => repeat (first | exact HR0.out | (with_reducible refine Kd.C_alloc ?_ _) | (with_reducible refine Kd.C_drewN ?_ _) | (with_reducible refine Kd.C_drew ?_))); (case side2 => exact HC0.out); (case side3 => exact HMET.out.below (by repeat (first | (with_reducible first | exact HB.out | apply below_alloc | apply pw_below_drewN | apply below_drew1) | exact HB.out))); rintro e w9 ⟨rfl, hb⟩; refine ⟨_, rfl, ?_⟩; have n0_ := Aside0.mk (below_step (by repeat (first | (with_reducible first | exact HB.out | apply below_alloc | apply pw_below_drewN | apply below_drew1) | exact HB.out)) hb); clear HB; have HB := n0_; clear n0_; (try clear hb); (try clear hb2); (try clear hk); (try clear hi)))
    go_ret
    exact ⟨by first | rfl | (simp [errW_none, errW_some] <;> rfl) | (simp [*, errW_none, errW_some] <;> rfl), by repeat (first | (with_reducible first | exact HB.out | apply below_alloc | apply pw_below_drewN | apply below_drew1) | exact HB.out)⟩

end Go.Proofs.YtdemfgijfnicpaaDoor.Q
