/- The contracts of ext's errors: form, number. -/
import Derived.Test.YtfbjejkmjbknaaaDoorErrIs
import Derived.Test.YtfbjejkmjbknaaaDoorExtText
import Derived.Stop.IfaceNil
namespace Go.Proofs.YtfbjejkmjbknaaaDoor.Ext
open Go Go.RowKit Go.Proofs.YtfbjejkmjbknaaaDoorW.PrintWords Go.Proofs.YtfbjejkmjbknaaaDoorW.PrintLast Go.Proofs.YtfbjejkmjbknaaaDoorW.PrintMore Go.Proofs.YtfbjejkmjbknaaaDoor.Dig Go.Proofs.YtfbjejkmjbknaaaDoor.Quad Go.Proofs.YtfbjejkmjbknaaaDoor.ExtP
set_option linter.unusedVariables false
set_option linter.unusedSimpArgs false

def TB : TypeId := 71
/-- What the listed variables hold: the errors' two pointers, the handle of the type error. -/
structure Ex (w : World) (ak af : Addr) : Prop where
  kind : w.cell? ⟨0, 0, none⟩ = some (.iface 126 (.pointer (some ak)))
  form : w.cell? ⟨1, 0, none⟩ = some (.iface 126 (.pointer (some af)))
  type : w.cell? ⟨2, 0, none⟩ = some (.iface 100 (.agg #[.pointer (some ⟨6, 47, none⟩)]))
  ne : af ≠ ak
  bk : ∃ cs t, w.heap[ak.block]? = some (.cells cs t (0, 0))
  bf : ∃ cs t, w.heap[af.block]? = some (.cells cs t (0, 0))
theorem Ex.below {w w' : World} {ak af : Addr} (h : Ex w ak af) (hb : Below w.heap.size w w') : Ex w' ak af := by
  obtain ⟨ck, tk, hk⟩ := h.bk
  obtain ⟨cf, tf, hf⟩ := h.bf
  exact ⟨(hb.cell (World.block_lt_of_cell? w _ h.kind)).trans h.kind, (hb.cell (World.block_lt_of_cell? w _ h.form)).trans h.form, (hb.cell (World.block_lt_of_cell? w _ h.type)).trans h.type, h.ne, ⟨ck, tk, blk_below hk hb⟩, ⟨cf, tf, blk_below hf hb⟩⟩

set_option maxHeartbeats 1000000 in
set_option maxRecDepth 100000 in
theorem form_calls (w : World) (af : Addr) (hx : w.cell? ⟨1, 0, none⟩ = some (.iface 126 (.pointer (some af)))) :
    Calls Tryd.prog 38 #[] w fun e w' => e = .returned (.iface 71 (.pointer (some ⟨w.heap.size, 0, none⟩))) ∧ w' = w.alloc (.cells #[.int .i64 2, .iface 126 (.pointer (some af))] 73) := by
  go_enter Tryd.func38, Tryd.ntmps38
  go_wp2
  go_ret
  exact ⟨rfl, rfl⟩

/-- errors.As at a *bad, by what it leaves. -/
theorem as_calls (e t : Addr) (w : World) (hg : w.cell? ⟨2, 0, none⟩ = some (.iface 100 (.agg #[.pointer (some ⟨6, 47, none⟩)]))) (ht : w.heap[t.block]? = some (.cells #[.pointer none] 71 (0, 0))) (ht0 : t.off = 0) (htp : t.spot = none) :
    Calls Tryd.prog 42 #[.iface 71 (.pointer (some e)), .iface 76 (.pointer (some t))] w fun ev w' => ev = .returned (.bool true) ∧ w'.heap[t.block]? = some (.cells #[.pointer (some e)] 71 (0, 0)) ∧ ∀ B, B ≤ t.block → Below B w w' := by
  obtain ⟨b, o, pt⟩ := t
  simp only at ht0 htp ht
  subst ht0 htp
  refine (Err.as_hit e ⟨b, 0, none⟩ (.pointer none) w hg ((blk_cell ht 0).trans rfl) (blk_frozen ht 0)).mono ?_
  rintro ev w' ⟨hev, rfl⟩
  refine ⟨hev, ?_, fun B hB => ?_⟩
  · exact blk_put (blk_alloc (blk_alloc (blk_alloc (blk_alloc ht _) _) _) _) 0 _ rfl
  · have hs := blk_lt ht
    replace hB : B ≤ b := hB
    replace hs : b < w.heap.size := hs
    exact ((((((Below.refl B w).alloc (by omega) _).alloc (by simp; omega) _).alloc (by simp; omega) _).alloc (by simp; omega) _)).setCell hB _

/-- How an error comes back: nil (0), the kind's (8), or the form's, with its number. -/
inductive ErrIs (w : World) (ak af : Addr) : Int → Value → Prop
  | nil : ErrIs w ak af 0 .nilIface
  | kind {e : Value} (pb : Nat) (no : Int) : e = .iface 71 (.pointer (some ⟨pb, 0, none⟩)) → w.heap[pb]? = some (.cells #[.int .i64 no, .iface 126 (.pointer (some ak))] 73 (0, 0)) → ErrIs w ak af 8 e
  | form {e : Value} (pb : Nat) (no : Int) : e = .iface 71 (.pointer (some ⟨pb, 0, none⟩)) → w.heap[pb]? = some (.cells #[.int .i64 no, .iface 126 (.pointer (some af))] 73 (0, 0)) → ErrIs w ak af no e
theorem ErrIs.below {w w' : World} {ak af : Addr} {n : Int} {e : Value} (h : ErrIs w ak af n e) (hb : Below w.heap.size w w') : ErrIs w' ak af n e := by
  cases h with
  | nil => exact .nil
  | kind pb no he hk => exact .kind pb no he (blk_below hk hb)
  | form pb no he hk => exact .form pb _ he (blk_below hk hb)

theorem isIfaceE : Tryd.prog.isIface 47 = true := by kernel_rfl
set_option maxHeartbeats 1000000 in
set_option maxRecDepth 100000 in
theorem number_calls (w : World) (ak af : Addr) (hx : Ex w ak af) (n : Int) (e : Value) (he : ErrIs w ak af n e) :
    Calls Tryd.prog 24 #[e] w fun ev w' => ev = .returned (.int .i64 n) ∧ Below w.heap.size w w' := by
  cases he with
  | nil =>
    have hif := isIfaceE
    go_enter Tryd.func24, Tryd.ntmps24
    go_wp2
    go_ret
    exact ⟨rfl, (Below.refl _ _).alloc (Nat.le_refl _) _⟩
  | kind pb no he hk =>
    subst he
    have hif := isIfaceE
    have hX := Aside0.mk hx
    have hK := Aside0.mk hk
    have hc1 := (((Below.refl w.heap.size w).alloc (Nat.le_refl _) (.cells #[.pointer none] 71)).cell (World.block_lt_of_cell? w _ hx.kind)).trans hx.kind
    clear hx hk
    go_enter Tryd.func24, Tryd.ntmps24
    go_wp2_with (go_at_call 41; refine (Err.is_wrap_same pb 0 ak _ ((blk_cell (blk_alloc hK.out _) 1).trans rfl)).mono ?_; rintro e w2 ⟨rfl, hw⟩; obtain rfl := hw.symm)
    go_ret
    exact ⟨rfl, (Below.refl _ _).alloc (Nat.le_refl _) _⟩
  | form pb no he hk =>
    subst he
    have hif := isIfaceE
    have hX := Aside0.mk hx
    have hK := Aside0.mk hk
    have hc1 := (((Below.refl w.heap.size w).alloc (Nat.le_refl _) (.cells #[.pointer none] 71)).cell (World.block_lt_of_cell? w _ hx.kind)).trans hx.kind
    clear hx hk
    go_enter Tryd.func24, Tryd.ntmps24
    go_wp2_with (first
      | (go_at_call 41; obtain ⟨ck, tk, hbk⟩ := hX.out.bk; obtain ⟨cf, tf, hbf⟩ := hX.out.bf; refine (Err.is_wrap_other pb 0 ak af _ _ _ _ _ ((blk_cell (blk_alloc hK.out _) 1).trans rfl) hX.out.ne (blk_alloc hbf _) (blk_alloc hbk _)).mono ?_; rintro e w2 ⟨rfl, hw⟩; obtain rfl := hw.symm)
      | (go_at_call 42
         refine (as_calls ⟨pb, 0, none⟩ ⟨w.heap.size, 0, none⟩ _ ((((Below.refl w.heap.size w).alloc (Nat.le_refl _) _).cell (World.block_lt_of_cell? w _ hX.out.type)).trans hX.out.type) (blk_new w _) rfl rfl).mono ?_
         rintro e w3 ⟨rfl, ht, hb⟩
         have HB := Aside0.mk (((Below.refl w.heap.size w).alloc (Nat.le_refl _) _).trans (hb _ (Nat.le_refl _)))
         clear hb
         have hl1 := (blk_cell ht 0).trans rfl
         have hl2 := (blk_cell (blk_below hK.out HB.out) 0).trans rfl))
    go_ret
    exact ⟨rfl, HB.out⟩
theorem form_callsO (ak af : Addr) (w : World) (hx : Ex w ak af) :
    Calls Tryd.prog 38 #[] w fun e w' => ∃ x, e = .returned x ∧ ErrIs w' ak af 2 x ∧ Below w.heap.size w w' := by
  refine (form_calls w af hx.form).mono ?_
  rintro e w' ⟨rfl, rfl⟩
  exact ⟨_, rfl, .form _ 2 rfl (blk_new _ _), (Below.refl _ _).alloc (Nat.le_refl _) _⟩
theorem ErrIs.put {w : World} {ak af : Addr} {n : Int} {e : Value} (h : ErrIs w ak af n e) {H : Nat} {cs : Array Value} (hz : w.heap[H]? = some (.cells cs 25 (0, 0))) (j : Nat) (v : Value) : ErrIs (w.setCell ⟨H, j, none⟩ v) ak af n e := by
  have hne : ∀ pb c, w.heap[pb]? = some (.cells c 73 (0, 0)) → pb ≠ H := by
    rintro pb c hp rfl
    rw [hz] at hp
    cases hp
  cases h with
  | nil => exact .nil
  | kind pb no he hk => exact .kind pb no he (blk_far hk (hne _ _ hk) v)
  | form pb no he hk => exact .form pb _ he (blk_far hk (hne _ _ hk) v)
end Go.Proofs.YtfbjejkmjbknaaaDoor.Ext
