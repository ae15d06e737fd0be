/- The contract of ext.read. -/
/- The contract of ext.read, where the text begins with a mark. -/
/- The contract of ext.read, where the text begins with a mark. -/
/- The contract of ext.Read. -/
import Derived.Test.YtfbjejkmjbknaaaDoorExtErr
import Derived.Test.YtfbjejkmjbknaaaDoorExtFind
import Derived.Deep.RegionWith
namespace Go.Proofs.YtfbjejkmjbknaaaDoor.Ext
open Go Go.RowKit Go.Proofs.YtfbjejkmjbknaaaDoorW.PrintWords Go.Proofs.YtfbjejkmjbknaaaDoorW.PrintLast Go.Proofs.YtfbjejkmjbknaaaDoorW.PrintMore Go.Proofs.YtfbjejkmjbknaaaDoor.Dig Go.Proofs.YtfbjejkmjbknaaaDoor.Quad Go.Proofs.YtfbjejkmjbknaaaDoor.ExtP Go.Proofs.YtfbjejkmjbknaaaDoor.SixP
set_option linter.unusedVariables false
set_option linter.unusedSimpArgs false

theorem wp_at {P : Program} {c : Code} {Q : Exit → Act → World → Prop} {a : Act} {w : World} (K : World → Prop) (h : K w) (hk : ∀ W, K W → Code.wp P c Q a W) : Code.wp P c Q a w := hk w h
def outV : Out → Value
  | .ok a b c d p => .agg #[.int .u8 a, .int .u8 b, .int .u8 c, .int .u8 d, .int .i64 p]
  | _ => .agg #[.int .u8 0, .int .u8 0, .int .u8 0, .int .u8 0, .int .i64 0]
def outN : Out → Int
  | .ok _ _ _ _ _ => 0
  | .form => 2
  | .kind => 8
theorem res_read (tmps : Array Value) (W : World) (H : Nat) (a b c d p : Int) (e : Value) (h2 : tmps.getD 2 undef = .pointer (some ⟨H, 0, none⟩)) (h3 : tmps.getD 3 undef = e) (hh : W.heap[H]? = some (.cells #[.int .u8 a, .int .u8 b, .int .u8 c, .int .u8 d, .int .i64 p] 25 (0, 0))) :
   (results Tryd.f23 tmps).run Tryd.prog W = .ok (.tuple #[.agg #[.int .u8 a, .int .u8 b, .int .u8 c, .int .u8 d, .int .i64 p], e]) W := by
  have c0 : W.cell? ⟨H, 0, none⟩ = some (.int .u8 a) := (blk_cell hh 0).trans rfl
  have c1 : W.cell? ⟨H, 1, none⟩ = some (.int .u8 b) := (blk_cell hh 1).trans rfl
  have c2 : W.cell? ⟨H, 2, none⟩ = some (.int .u8 c) := (blk_cell hh 2).trans rfl
  have c3 : W.cell? ⟨H, 3, none⟩ = some (.int .u8 d) := (blk_cell hh 3).trans rfl
  have c4 : W.cell? ⟨H, 4, none⟩ = some (.int .i64 p) := (blk_cell hh 4).trans rfl
  rw [Array.getD_eq_getD_getElem?] at h2 h3
  simp [results, show Tryd.f23.results = #[.cell 2 25, .tmp 3] from rfl, h2, h3, go_sem, c0, c1, c2, c3, c4]
/-- The result, still zero, in a block of the call's own. -/
def Rd (w W : World) : Prop := Below w.heap.size w W ∧ W.heap[w.heap.size]? = some (.cells #[.int .u8 0, .int .u8 0, .int .u8 0, .int .u8 0, .int .i64 0] 25 (0, 0))
theorem Rd.start (w : World) : Rd w (w.alloc (.cells #[.int .u8 0, .int .u8 0, .int .u8 0, .int .u8 0, .int .i64 0] 25)) := ⟨(Below.refl _ _).alloc (Nat.le_refl _) _, blk_new w _⟩
theorem Rd.drew {w W : World} (h : Rd w W) : Rd w { W with drawn := W.drawn + 1 } := ⟨h.1.drew, h.2⟩
theorem Rd.below {w W W' : World} (h : Rd w W) (hb : Below W.heap.size W W') : Rd w W' := ⟨h.1.trans (hb.mono h.1.size), blk_below h.2 hb⟩
theorem Rd.facts {w W : World} (h : Rd w W) : W.cell? ⟨w.heap.size, 0, none⟩ = some (.int .u8 0) ∧ W.cell? ⟨w.heap.size, 1, none⟩ = some (.int .u8 0) ∧ W.cell? ⟨w.heap.size, 2, none⟩ = some (.int .u8 0) ∧ W.cell? ⟨w.heap.size, 3, none⟩ = some (.int .u8 0) ∧ W.cell? ⟨w.heap.size, 4, none⟩ = some (.int .i64 0) ∧ W.frozen? ⟨w.heap.size, 0, none⟩ = false ∧ W.frozen? ⟨w.heap.size, 1, none⟩ = false ∧ W.frozen? ⟨w.heap.size, 2, none⟩ = false ∧ W.frozen? ⟨w.heap.size, 3, none⟩ = false ∧ W.frozen? ⟨w.heap.size, 4, none⟩ = false := ⟨(blk_cell h.2 0).trans rfl, (blk_cell h.2 1).trans rfl, (blk_cell h.2 2).trans rfl, (blk_cell h.2 3).trans rfl, (blk_cell h.2 4).trans rfl, blk_frozen h.2 0, blk_frozen h.2 1, blk_frozen h.2 2, blk_frozen h.2 3, blk_frozen h.2 4⟩
theorem Rd.putV {w W : World} (h : Rd w W) (a b c d p : Int) : ((((((W.setCell ⟨w.heap.size, 0, none⟩ (.int .u8 a)).setCell ⟨w.heap.size, 1, none⟩ (.int .u8 b)).setCell ⟨w.heap.size, 2, none⟩ (.int .u8 c)).setCell ⟨w.heap.size, 3, none⟩ (.int .u8 d)).setCell ⟨w.heap.size, 4, none⟩ (.int .i64 p))).heap[w.heap.size]? = some (.cells #[.int .u8 a, .int .u8 b, .int .u8 c, .int .u8 d, .int .i64 p] 25 (0, 0)) := blk_put (blk_put (blk_put (blk_put (blk_put h.2 0 _ rfl) 1 _ rfl) 2 _ rfl) 3 _ rfl) 4 _ rfl
theorem Rd.putB {w W : World} (h : Rd w W) (a b c d p : Int) : Below w.heap.size w ((((((W.setCell ⟨w.heap.size, 0, none⟩ (.int .u8 a)).setCell ⟨w.heap.size, 1, none⟩ (.int .u8 b)).setCell ⟨w.heap.size, 2, none⟩ (.int .u8 c)).setCell ⟨w.heap.size, 3, none⟩ (.int .u8 d)).setCell ⟨w.heap.size, 4, none⟩ (.int .i64 p))) := ((((h.1.setCell (Nat.le_refl _) _).setCell (Nat.le_refl _) _).setCell (Nat.le_refl _) _).setCell (Nat.le_refl _) _).setCell (Nat.le_refl _) _
theorem Rd.putE {w W : World} (h : Rd w W) {ak af : Addr} {n : Int} {e : Value} (he : ErrIs W ak af n e) (a b c d p : Int) : ErrIs ((((((W.setCell ⟨w.heap.size, 0, none⟩ (.int .u8 a)).setCell ⟨w.heap.size, 1, none⟩ (.int .u8 b)).setCell ⟨w.heap.size, 2, none⟩ (.int .u8 c)).setCell ⟨w.heap.size, 3, none⟩ (.int .u8 d)).setCell ⟨w.heap.size, 4, none⟩ (.int .i64 p))) ak af n e :=
  ((((he.put h.2 0 _).put (blk_put h.2 0 _ rfl) 1 _).put (blk_put (blk_put h.2 0 _ rfl) 1 _ rfl) 2 _).put (blk_put (blk_put (blk_put h.2 0 _ rfl) 1 _ rfl) 2 _ rfl) 3 _).put (blk_put (blk_put (blk_put (blk_put h.2 0 _ rfl) 1 _ rfl) 2 _ rfl) 3 _ rfl) 4 _
/-- What reads so. -/
def ReadIs (w : World) (ak af : Addr) (o : Out) (ev : Ending) (w' : World) : Prop := ∃ e, ev = .returned (.tuple #[outV o, e]) ∧ ErrIs w' ak af (outN o) e ∧ Below w.heap.size w w'

set_option maxHeartbeats 4000000 in
set_option maxRecDepth 100000 in
theorem read_short (s : ByteArray) (w : World) (ak af : Addr) (hx : Ex w ak af) (h : s.data.toList = [] ∨ ∃ m l, s.data.toList = m :: l ∧ isMark m = false) :
    Calls Tryd.prog 23 #[.string s] w (ReadIs w ak af (readE s.data.toList)) := by
  have HX := Aside0.mk hx
  clear hx
  rcases h with h | ⟨m, l, h, hk⟩
  · have HF := Aside0.mk (show readE s.data.toList = .form from by rw [h]; rfl)
    have hemp : s.toList = [] := by rw [ByteArray.toList_eq]; exact h
    clear h
    go_enter Tryd.func23, Tryd.ntmps23
    go_wp2
    refine wp_at (fun W => Rd w W) (Rd.start w) (fun W0 hR0 => ?_)
    have HR := Aside0.mk hR0
    clear hR0
    obtain ⟨qc0, qc1, qc2, qc3, qc4, qf0, qf1, qf2, qf3, qf4⟩ := HR.out.facts
    go_region_with (go_at_call 38; refine (form_callsO ak af _ (HX.out.below HR.out.drew.1)).mono ?_; rintro ev w9 ⟨x, rfl, hx9, hb9⟩; have HX9 := Aside0.mk hx9; have HR9 := Aside0.mk (HR.out.drew.below hb9); clear hx9 hb9; obtain ⟨yc0, yc1, yc2, yc3, yc4, yf0, yf1, yf2, yf3, yf4⟩ := HR9.out.facts)
    all_goals
      go_wp2
      try simp only [Exit.inBlock, Exit.then]
      refine bodyPost_ret (res_read _ _ w.heap.size 0 0 0 0 0 x rfl rfl (HR9.out.putV 0 0 0 0 0)) rfl ⟨x, ?_, ?_, ?_⟩
      · first | (rw [HF.out]; rfl) | rfl
      · rw [HF.out]; exact HR9.out.putE HX9.out 0 0 0 0 0
      · exact HR9.out.putB 0 0 0 0 0
  · have HF := Aside0.mk (show readE s.data.toList = .form from by rw [h]; exact if_pos hk)
    have hne : s.toList.isEmpty = false := by rw [ByteArray.toList_eq, h]; rfl
    have h0s : 0 < s.size := by rw [← data_length, h]; exact Nat.succ_pos _
    have h0c : ∀ h : 0 < s.size, ((s[0]'h).toNat : Int) = (m.toNat : Int) := fun hh => by have e := bt_byte s 0 (by rw [h]; simp); simp only [h, List.getElem_cons_zero] at e; rw [← e]; exact bt_at s 0 hh
    have HK := Aside0.mk (fun W => mark_calls m W)
    rw [hk] at HK
    obtain ⟨x, hx⟩ : ∃ x, x = m.toNat := ⟨_, rfl⟩
    rw [← hx] at h0c HK
    clear h hk hx
    go_enter Tryd.func23, Tryd.ntmps23
    go_wp2_with (go_at_call 30; refine (HK.out _).mono ?_; rintro e w3 ⟨rfl, hw⟩; obtain rfl := hw.symm)
    refine wp_at (fun W => Rd w W) (Rd.start w) (fun W0 hR0 => ?_)
    have HR := Aside0.mk hR0
    clear hR0
    obtain ⟨qc0, qc1, qc2, qc3, qc4, qf0, qf1, qf2, qf3, qf4⟩ := HR.out.facts
    go_region_with (go_at_call 38; refine (form_callsO ak af _ (HX.out.below HR.out.drew.1)).mono ?_; rintro ev w9 ⟨x, rfl, hx9, hb9⟩; have HX9 := Aside0.mk hx9; have HR9 := Aside0.mk (HR.out.drew.below hb9); clear hx9 hb9; obtain ⟨yc0, yc1, yc2, yc3, yc4, yf0, yf1, yf2, yf3, yf4⟩ := HR9.out.facts)
    all_goals
      go_wp2
      try simp only [Exit.inBlock, Exit.then]
      refine bodyPost_ret (res_read _ _ w.heap.size 0 0 0 0 0 x rfl rfl (HR9.out.putV 0 0 0 0 0)) rfl ⟨x, ?_, ?_, ?_⟩
      · first | (rw [HF.out]; rfl) | rfl
      · rw [HF.out]; exact HR9.out.putE HX9.out 0 0 0 0 0
      · exact HR9.out.putB 0 0 0 0 0
end Go.Proofs.YtfbjejkmjbknaaaDoor.Ext

namespace Go.Proofs.YtfbjejkmjbknaaaDoor.Ext
open Go Go.RowKit Go.Proofs.YtfbjejkmjbknaaaDoorW.PrintWords Go.Proofs.YtfbjejkmjbknaaaDoorW.PrintLast Go.Proofs.YtfbjejkmjbknaaaDoorW.PrintMore Go.Proofs.YtfbjejkmjbknaaaDoor.Dig Go.Proofs.YtfbjejkmjbknaaaDoor.Quad Go.Proofs.YtfbjejkmjbknaaaDoor.ExtP Go.Proofs.YtfbjejkmjbknaaaDoor.SixP
set_option linter.unusedVariables false
set_option linter.unusedSimpArgs false

theorem read_parts {l : List UInt8} {m : UInt8} {r : List UInt8} (h : l = m :: r) (hk : isMark m = true) : readE l = match Cut.cut m l with
    | [_, k, h, n, t] => five k h n t
    | _ => .form := by
  subst h
  show (if isMark m = false then Out.form else _) = _
  rw [if_neg (by rw [hk]; decide)]
  rfl
theorem cut_le {c : UInt8} : ∀ {l p : List UInt8}, p ∈ Cut.cut c l → p.length ≤ l.length
  | [], p, h => by simp [Cut.cut] at h; simp [h]
  | b :: l, p, h => by
    unfold Cut.cut at h
    split at h
    · rcases List.mem_cons.1 h with rfl | h
      · simp
      · exact Nat.le_succ_of_le (cut_le h)
    · match hq : Cut.cut c l, h with
      | [], h => simp at h; simp [h]
      | q :: r, h =>
        rcases List.mem_cons.1 h with rfl | h
        · have := cut_le (show q ∈ Cut.cut c l from by rw [hq]; exact List.mem_cons_self ..)
          simpa using this
        · exact Nat.le_succ_of_le (cut_le (show p ∈ Cut.cut c l from by rw [hq]; exact List.mem_cons_of_mem _ h))
theorem read_not5 {l : List UInt8} {m : UInt8} {r : List UInt8} (h : l = m :: r) (hk : isMark m = true) (h5 : (Cut.cut m l).length ≠ 5) : readE l = .form := by
  rw [read_parts h hk]
  split
  · rename_i hc; rw [hc] at h5; exact absurd rfl h5
  · rfl
theorem new_at (w : World) (o : Obj) (n : Nat) (h : n = w.heap.size) : (w.alloc o).heap[n]? = some o := h ▸ blk_new w o
theorem set_same {cs : Array Value} {j : Nat} {v : Value} (h : cs[j]? = some v) : cs.setIfInBounds j v = cs := by
  apply Array.ext'
  rw [Array.toList_setIfInBounds]
  have : cs.toList[j]? = some v := by rw [Array.getElem?_toList]; exact h
  obtain ⟨hj, he⟩ := List.getElem?_eq_some_iff.1 this
  rw [← he, List.set_getElem_self]
theorem Rd.one {w W : World} (h : Rd w W) : Below w.heap.size w W := h.1
theorem Rd.two {w W : World} (h : Rd w W) : W.heap[w.heap.size]? = some (.cells #[.int .u8 0, .int .u8 0, .int .u8 0, .int .u8 0, .int .i64 0] 25 (0, 0)) := h.2
theorem Rd.drewW {w W : World} (h : Rd w W) : Rd w W.drew := h.drew
theorem Rd.alloc {w W : World} (h : Rd w W) (o : Obj) : Rd w (W.alloc o) := h.below ((Below.refl _ _).alloc (Nat.le_refl _) _)
theorem Rd.same {w W : World} (h : Rd w W) (j : Nat) (v : Value) (hv : (#[.int .u8 0, .int .u8 0, .int .u8 0, .int .u8 0, .int .i64 0] : Array Value)[j]? = some v) : Rd w (W.setCell ⟨w.heap.size, j, none⟩ v) := by
  refine ⟨h.1.setCell (Nat.le_refl _) _, ?_⟩
  exact blk_put h.2 j v (set_same hv)
theorem size_alloc (w : World) (o : Obj) : (w.alloc o).heap.size = w.heap.size + 1 := by simp

set_option maxHeartbeats 4000000 in
set_option maxRecDepth 100000 in
theorem read_one (s : ByteArray) (w : World) (ak af : Addr) (HX : Aside0 (Ex w ak af)) (HM : Aside0 (Mx w)) (hne : s.toList.isEmpty = false) (h0s : 0 < s.size) (x : Nat) (HK : Aside0 (∀ W, Calls Tryd.prog 30 #[.int .u8 (x : Int)] W fun e w' => e = .returned (.bool true) ∧ w' = W)) (h0c : ∀ h : 0 < s.size, ((s[0]'h).toNat : Int) = (x : Int)) (X : ByteArray) (hsl : ∀ W, (Instr.slice 9 (.string s) none (some (.int .i64 1)) none).run Tryd.prog W = .ok (.string X) W) (p0 p1 p2 p3 p4 : ByteArray)
    (HSP : Aside0 (∀ W, Mx W → Calls Tryd.prog 39 #[.string s, .string X] W fun e w' => e = .returned (.slice (some ⟨W.heap.size, 0, none⟩) 5 5) ∧ Below W.heap.size W w' ∧ w'.heap[W.heap.size]? = some (.cells #[.string p0, .string p1, .string p2, .string p3, .string p4] 9 (0, 0))))
    (HG1 : Aside0 (∀ W, Calls Tryd.prog 33 #[.string p1, .int .i64 9] W fun e w' => e = .returned (.tuple #[.int .i64 1, .bool true]) ∧ w' = W))
    (HG3 : Aside0 (∀ W, Calls Tryd.prog 33 #[.string p3, .int .i64 65535] W fun e w' => e = .returned (.tuple #[.int .i64 (Dig.get p3.data.toList 65535).1, .bool (Dig.get p3.data.toList 65535).2]) ∧ w' = W))
    (hg3 : Dig.get p3.data.toList ((65535 : Nat) : Int) = match getMost 65535 p3.data.toList with | some n => ((n : Int), true) | none => (0, false))
    (HQ : Aside0 (∀ W, Mx W → Calls Tryd.prog 40 #[.string p2] W fun e w' => e = .returned (readR (readN p2.data.toList)) ∧ Below W.heap.size W w')) (h4e : p4.toList = [])
    (HP5 : Aside0 (readE s.data.toList = match readN p2.data.toList, getMost 65535 p3.data.toList with | some (a, b, c, d), some p => if p = 0 then .form else .ok a b c d p | _, _ => .form)) :
    Calls Tryd.prog 23 #[.string s] w (ReadIs w ak af (readE s.data.toList)) := by
  cases hr : readN p2.data.toList with
  | none =>
    rw [hr] at HQ HP5
    have HF := Aside0.mk (show readE s.data.toList = .form from HP5.out)
    obtain ⟨g, b, hgb⟩ : ∃ g b, Dig.get p3.data.toList 65535 = (g, b) := ⟨_, _, rfl⟩
    rw [hgb] at HG3
    clear hg3 hgb hr HP5
    go_enter Tryd.func23, Tryd.ntmps23
    go_wp2_with (first
      | (go_at_call 30; refine (HK.out _).mono ?_; rintro e w3 ⟨rfl, hw⟩; obtain rfl := hw.symm)
      | (go_at_call 39; refine (HSP.out _ (HM.out.below (Rd.start w).1)).mono ?_; rintro e w1 ⟨rfl, hb1, hg1⟩; rw [size_alloc] at hg1; have HR := Aside0.mk ((Rd.start w).below hb1); have HG := Aside0.mk hg1; clear hb1 hg1; have g1 : w1.cell? ⟨w.heap.size + 1, 1, none⟩ = some (.string p1) := (blk_cell HG.out 1).trans rfl; have g2 : w1.cell? ⟨w.heap.size + 1, 2, none⟩ = some (.string p2) := (blk_cell HG.out 2).trans rfl; have g4 : w1.cell? ⟨w.heap.size + 1, 4, none⟩ = some (.string p4) := (blk_cell HG.out 4).trans rfl)
      | (go_at_call 33; with_reducible refine (HG1.out _).mono ?_; rintro e w3 ⟨rfl, hw⟩; obtain rfl := hw.symm)
      | (go_at_call 40; refine (HQ.out _ (HM.out.below HR.out.1)).mono ?_; rintro e w5 ⟨rfl, hb5⟩; replace HR := Aside0.mk (HR.out.below hb5); replace HG := Aside0.mk (blk_below HG.out hb5); clear hb5; have g3 : ∀ o, (w5.alloc o).cell? ⟨w.heap.size + 1, 3, none⟩ = some (.string p3) := fun o => (blk_cell (blk_alloc HG.out o) 3).trans rfl; have hlt5 := Aside0.mk (blk_lt HG.out); have hne1 : w.heap.size + 1 ≠ w5.heap.size := Nat.ne_of_lt hlt5.out; have hne2 : w5.heap.size ≠ w.heap.size + 1 := Nat.ne_of_gt hlt5.out; simp only [readR])
      | (go_at_call 33; with_reducible refine (HG3.out _).mono ?_; rintro e w3 ⟨rfl, hw⟩; obtain rfl := hw.symm))
    refine wp_at (fun W => Rd w W) (HR.out.alloc _) (fun W0 hR0 => ?_)
    replace HR := Aside0.mk hR0
    clear hR0
    obtain ⟨qc0, qc1, qc2, qc3, qc4, qf0, qf1, qf2, qf3, qf4⟩ := HR.out.facts
    go_region_with (go_at_call 38; refine (form_callsO ak af _ (HX.out.below HR.out.drew.1)).mono ?_; rintro ev w9 ⟨x, rfl, hx9, hb9⟩; have HX9 := Aside0.mk hx9; have HR9 := Aside0.mk (HR.out.drew.below hb9); clear hx9 hb9; obtain ⟨yc0, yc1, yc2, yc3, yc4, yf0, yf1, yf2, yf3, yf4⟩ := HR9.out.facts)
    all_goals
      go_wp2
      try simp only [Exit.inBlock, Exit.then]
      refine bodyPost_ret (res_read _ _ w.heap.size 0 0 0 0 0 x rfl rfl (HR9.out.putV 0 0 0 0 0)) rfl ⟨x, ?_, ?_, ?_⟩
      · first | (rw [HF.out]; rfl) | rfl
      · rw [HF.out]; exact HR9.out.putE HX9.out 0 0 0 0 0
      · exact HR9.out.putB 0 0 0 0 0

  | some t =>
    obtain ⟨a, b, c, d⟩ := t
    rw [hr] at HQ HP5
    have hpl : HQ.out = HQ.out := rfl
    cases hn : getMost 65535 p3.data.toList with
    | none =>
      rw [hn] at hg3 HP5
      have HF := Aside0.mk (show readE s.data.toList = .form from HP5.out)
      rw [show Dig.get p3.data.toList 65535 = _ from hg3] at HG3
      clear hg3 hn hr HP5 hpl
      go_enter Tryd.func23, Tryd.ntmps23
      go_wp2_with (first
        | (go_at_call 30; refine (HK.out _).mono ?_; rintro e w3 ⟨rfl, hw⟩; obtain rfl := hw.symm)
        | (go_at_call 39; refine (HSP.out _ (HM.out.below (Rd.start w).1)).mono ?_; rintro e w1 ⟨rfl, hb1, hg1⟩; rw [size_alloc] at hg1; have HR := Aside0.mk ((Rd.start w).below hb1); have HG := Aside0.mk hg1; clear hb1 hg1; have g1 : w1.cell? ⟨w.heap.size + 1, 1, none⟩ = some (.string p1) := (blk_cell HG.out 1).trans rfl; have g2 : w1.cell? ⟨w.heap.size + 1, 2, none⟩ = some (.string p2) := (blk_cell HG.out 2).trans rfl; have g4 : w1.cell? ⟨w.heap.size + 1, 4, none⟩ = some (.string p4) := (blk_cell HG.out 4).trans rfl)
        | (go_at_call 33; with_reducible refine (HG1.out _).mono ?_; rintro e w3 ⟨rfl, hw⟩; obtain rfl := hw.symm)
        | (go_at_call 40; refine (HQ.out _ (HM.out.below HR.out.1)).mono ?_; rintro e w5 ⟨rfl, hb5⟩; replace HR := Aside0.mk (HR.out.below hb5); replace HG := Aside0.mk (blk_below HG.out hb5); clear hb5; have g3 : ∀ o, (w5.alloc o).cell? ⟨w.heap.size + 1, 3, none⟩ = some (.string p3) := fun o => (blk_cell (blk_alloc HG.out o) 3).trans rfl; have hlt5 := Aside0.mk (blk_lt HG.out); have hne1 : w.heap.size + 1 ≠ w5.heap.size := Nat.ne_of_lt hlt5.out; have hne2 : w5.heap.size ≠ w.heap.size + 1 := Nat.ne_of_gt hlt5.out; simp only [readR])
        | (go_at_call 33; with_reducible refine (HG3.out _).mono ?_; rintro e w3 ⟨rfl, hw⟩; obtain rfl := hw.symm))
      refine wp_at (fun W => Rd w W) (HR.out.alloc _) (fun W0 hR0 => ?_)
      replace HR := Aside0.mk hR0
      clear hR0
      obtain ⟨qc0, qc1, qc2, qc3, qc4, qf0, qf1, qf2, qf3, qf4⟩ := HR.out.facts
      go_region_with (go_at_call 38; refine (form_callsO ak af _ (HX.out.below HR.out.drew.1)).mono ?_; rintro ev w9 ⟨x, rfl, hx9, hb9⟩; have HX9 := Aside0.mk hx9; have HR9 := Aside0.mk (HR.out.drew.below hb9); clear hx9 hb9; obtain ⟨yc0, yc1, yc2, yc3, yc4, yf0, yf1, yf2, yf3, yf4⟩ := HR9.out.facts)
      all_goals
        go_wp2
        try simp only [Exit.inBlock, Exit.then]
        refine bodyPost_ret (res_read _ _ w.heap.size 0 0 0 0 0 x rfl rfl (HR9.out.putV 0 0 0 0 0)) rfl ⟨x, ?_, ?_, ?_⟩
        · first | (rw [HF.out]; rfl) | rfl
        · rw [HF.out]; exact HR9.out.putE HX9.out 0 0 0 0 0
        · exact HR9.out.putB 0 0 0 0 0

    | some n =>
      rw [hn] at hg3 HP5
      rw [show Dig.get p3.data.toList 65535 = _ from hg3] at HG3
      have hn5 := ((getMost_iff 65535 (by decide) _ _).1 hn).2
      have HP6 := Aside0.mk (show readE s.data.toList = if n = 0 then .form else .ok a b c d n from HP5.out)
      clear hg3 hn hr HP5 hpl
      by_cases h0 : n = 0
      · subst h0
        have HF := Aside0.mk (show readE s.data.toList = .form from HP6.out)
        have HPT := Aside0.mk (fun W => port_calls ((0 : Nat) : Int) W)
        rw [show decide (0 < ((0 : Nat) : Int) ∧ ((0 : Nat) : Int) ≤ 65535) = false from rfl] at HPT
        clear HP6
        go_enter Tryd.func23, Tryd.ntmps23
        go_wp2_with (first
          | (go_at_call 30; refine (HK.out _).mono ?_; rintro e w3 ⟨rfl, hw⟩; obtain rfl := hw.symm)
          | (go_at_call 39; refine (HSP.out _ (HM.out.below (Rd.start w).1)).mono ?_; rintro e w1 ⟨rfl, hb1, hg1⟩; rw [size_alloc] at hg1; have HR := Aside0.mk ((Rd.start w).below hb1); have HG := Aside0.mk hg1; clear hb1 hg1; have g1 : w1.cell? ⟨w.heap.size + 1, 1, none⟩ = some (.string p1) := (blk_cell HG.out 1).trans rfl; have g2 : w1.cell? ⟨w.heap.size + 1, 2, none⟩ = some (.string p2) := (blk_cell HG.out 2).trans rfl; have g4 : w1.cell? ⟨w.heap.size + 1, 4, none⟩ = some (.string p4) := (blk_cell HG.out 4).trans rfl)
          | (go_at_call 33; with_reducible refine (HG1.out _).mono ?_; rintro e w3 ⟨rfl, hw⟩; obtain rfl := hw.symm)
          | (go_at_call 40; refine (HQ.out _ (HM.out.below HR.out.1)).mono ?_; rintro e w5 ⟨rfl, hb5⟩; replace HR := Aside0.mk (HR.out.below hb5); replace HG := Aside0.mk (blk_below HG.out hb5); clear hb5; have g3 : ∀ o, (w5.alloc o).cell? ⟨w.heap.size + 1, 3, none⟩ = some (.string p3) := fun o => (blk_cell (blk_alloc HG.out o) 3).trans rfl; have hlt5 := Aside0.mk (blk_lt HG.out); have hne1 : w.heap.size + 1 ≠ w5.heap.size := Nat.ne_of_lt hlt5.out; have hne2 : w5.heap.size ≠ w.heap.size + 1 := Nat.ne_of_gt hlt5.out; simp only [readR])
          | (go_at_call 33; with_reducible refine (HG3.out _).mono ?_; rintro e w3 ⟨rfl, hw⟩; obtain rfl := hw.symm)
          | (go_at_call 17; refine (HPT.out _).mono ?_; rintro e w6 ⟨rfl, hw⟩; obtain rfl := hw.symm))
        refine wp_at (fun W => Rd w W) (HR.out.alloc _) (fun W0 hR0 => ?_)
        replace HR := Aside0.mk hR0
        clear hR0
        obtain ⟨qc0, qc1, qc2, qc3, qc4, qf0, qf1, qf2, qf3, qf4⟩ := HR.out.facts
        go_region_with (go_at_call 38; refine (form_callsO ak af _ (HX.out.below HR.out.drew.1)).mono ?_; rintro ev w9 ⟨x, rfl, hx9, hb9⟩; have HX9 := Aside0.mk hx9; have HR9 := Aside0.mk (HR.out.drew.below hb9); clear hx9 hb9; obtain ⟨yc0, yc1, yc2, yc3, yc4, yf0, yf1, yf2, yf3, yf4⟩ := HR9.out.facts)
        all_goals
          go_wp2
          try simp only [Exit.inBlock, Exit.then]
          refine bodyPost_ret (res_read _ _ w.heap.size 0 0 0 0 0 x rfl rfl (HR9.out.putV 0 0 0 0 0)) rfl ⟨x, ?_, ?_, ?_⟩
          · first | (rw [HF.out]; rfl) | rfl
          · rw [HF.out]; exact HR9.out.putE HX9.out 0 0 0 0 0
          · exact HR9.out.putB 0 0 0 0 0

      · have HF := Aside0.mk (show readE s.data.toList = .ok a b c d n from by rw [HP6.out, if_neg h0])
        have HPT := Aside0.mk (fun W => port_calls (n : Int) W)
        rw [decide_eq_true (show 0 < (n : Int) ∧ (n : Int) ≤ 65535 from by omega)] at HPT
        clear HP6
        go_enter Tryd.func23, Tryd.ntmps23
        go_wp2_with (first
          | (go_at_call 30; refine (HK.out _).mono ?_; rintro e w3 ⟨rfl, hw⟩; obtain rfl := hw.symm)
          | (go_at_call 39; refine (HSP.out _ (HM.out.below (Rd.start w).1)).mono ?_; rintro e w1 ⟨rfl, hb1, hg1⟩; rw [size_alloc] at hg1; have HR := Aside0.mk ((Rd.start w).below hb1); have HG := Aside0.mk hg1; clear hb1 hg1; have g1 : w1.cell? ⟨w.heap.size + 1, 1, none⟩ = some (.string p1) := (blk_cell HG.out 1).trans rfl; have g2 : w1.cell? ⟨w.heap.size + 1, 2, none⟩ = some (.string p2) := (blk_cell HG.out 2).trans rfl; have g4 : w1.cell? ⟨w.heap.size + 1, 4, none⟩ = some (.string p4) := (blk_cell HG.out 4).trans rfl)
          | (go_at_call 33; with_reducible refine (HG1.out _).mono ?_; rintro e w3 ⟨rfl, hw⟩; obtain rfl := hw.symm)
          | (go_at_call 40; refine (HQ.out _ (HM.out.below HR.out.1)).mono ?_; rintro e w5 ⟨rfl, hb5⟩; replace HR := Aside0.mk (HR.out.below hb5); replace HG := Aside0.mk (blk_below HG.out hb5); clear hb5; have g3 : ∀ o, (w5.alloc o).cell? ⟨w.heap.size + 1, 3, none⟩ = some (.string p3) := fun o => (blk_cell (blk_alloc HG.out o) 3).trans rfl; have hlt5 := Aside0.mk (blk_lt HG.out); have hne1 : w.heap.size + 1 ≠ w5.heap.size := Nat.ne_of_lt hlt5.out; have hne2 : w5.heap.size ≠ w.heap.size + 1 := Nat.ne_of_gt hlt5.out; simp only [readR]; obtain ⟨yc0, yc1, yc2, yc3, yc4, yf0, yf1, yf2, yf3, yf4⟩ := (HR.out.alloc (.cells #[.int .u8 a, .int .u8 b, .int .u8 c, .int .u8 d] 23)).facts)
          | (go_at_call 33; with_reducible refine (HG3.out _).mono ?_; rintro e w3 ⟨rfl, hw⟩; obtain rfl := hw.symm)
          | (go_at_call 17; refine (HPT.out _).mono ?_; rintro e w6 ⟨rfl, hw⟩; obtain rfl := hw.symm))
        try simp only [Exit.inBlock, Exit.then]
        refine bodyPost_ret (res_read _ _ w.heap.size a b c d n _ rfl rfl ((HR.out.alloc _).putV a b c d n)) rfl ⟨.nilIface, ?_, ?_, ?_⟩
        · first | (rw [HF.out]; rfl) | rfl
        · rw [HF.out]; exact .nil
        · exact (HR.out.alloc _).putB a b c d n


end Go.Proofs.YtfbjejkmjbknaaaDoor.Ext

namespace Go.Proofs.YtfbjejkmjbknaaaDoor.Ext
open Go Go.RowKit Go.Proofs.YtfbjejkmjbknaaaDoorW.PrintWords Go.Proofs.YtfbjejkmjbknaaaDoorW.PrintLast Go.Proofs.YtfbjejkmjbknaaaDoorW.PrintMore Go.Proofs.YtfbjejkmjbknaaaDoor.Dig Go.Proofs.YtfbjejkmjbknaaaDoor.Quad Go.Proofs.YtfbjejkmjbknaaaDoor.ExtP Go.Proofs.YtfbjejkmjbknaaaDoor.SixP
set_option linter.unusedVariables false
set_option linter.unusedSimpArgs false

set_option maxHeartbeats 4000000 in
set_option maxRecDepth 100000 in
theorem read_not (s : ByteArray) (hs : s.size ≤ 1000000) (w : World) (hm : Mx w) (ak af : Addr) (hx : Ex w ak af) (m : UInt8) (l : List UInt8) (h : s.data.toList = m :: l) (hk : isMark m = true) (h5 : (Cut.cut m s.data.toList).length ≠ 5) :
    Calls Tryd.prog 23 #[.string s] w (ReadIs w ak af (readE s.data.toList)) := by
  have HX := Aside0.mk hx
  have HM := Aside0.mk hm
  clear hx hm
  have hne : s.toList.isEmpty = false := by rw [ByteArray.toList_eq, h]; rfl
  have h0s : 0 < s.size := by rw [← data_length, h]; exact Nat.succ_pos _
  have h0c : ∀ h : 0 < s.size, ((s[0]'h).toNat : Int) = (m.toNat : Int) := fun hh => by have e := bt_byte s 0 (by rw [h]; simp); simp only [h, List.getElem_cons_zero] at e; rw [← e]; exact bt_at s 0 hh
  have HK := Aside0.mk (fun W => mark_calls m W)
  rw [hk] at HK
  obtain ⟨x, hx⟩ : ∃ x, x = m.toNat := ⟨_, rfl⟩
  rw [← hx] at h0c HK
  obtain ⟨X, hX⟩ : ∃ X : ByteArray, X = ⟨#[m]⟩ := ⟨_, rfl⟩
  have hsl : ∀ W, (Instr.slice 9 (.string s) none (some (.int .i64 1)) none).run Tryd.prog W = .ok (.string X) W := slice_1 s X h0s (by rw [h, hX]; rfl)
  obtain ⟨ps, hps, hsp⟩ := split_calls m s (by omega)
  obtain ⟨N, hN⟩ : ∃ N, N = ps.length := ⟨_, rfl⟩
  have hN5 : ((N : Int) != 5) = true := by
    rw [bne_iff_ne]
    have := congrArg List.length hps
    rw [List.length_map] at this
    omega
  have HSP := Aside0.mk (show ∀ W, Mx W → Calls Tryd.prog 39 #[.string s, .string X] W fun e w' => e = .returned (.slice (some ⟨W.heap.size, 0, none⟩) N N) ∧ Below W.heap.size W w' ∧ True from fun W hW => by
    rw [hX, hN]
    refine (hsp W hW).mono ?_
    rintro e w' ⟨he, rfl⟩
    exact ⟨he, (Below.refl _ _).alloc (Nat.le_refl _) _, trivial⟩)
  have HF := Aside0.mk (read_not5 h hk h5)
  clear hps hsp h hk h5 hx hX hN hs
  go_enter Tryd.func23, Tryd.ntmps23
  go_wp2_with (first
    | (go_at_call 30; refine (HK.out _).mono ?_; rintro e w3 ⟨rfl, hw⟩; obtain rfl := hw.symm)
    | (go_at_call 39; refine (HSP.out _ (HM.out.below (Rd.start w).1)).mono ?_; rintro e w1 ⟨rfl, hb1, hg1⟩; have HR := Aside0.mk ((Rd.start w).below hb1); have HG := Aside0.mk hg1; clear hb1 hg1))
  refine wp_at (fun W => Rd w W) HR.out (fun W0 hR0 => ?_)
  replace HR := Aside0.mk hR0
  clear hR0
  obtain ⟨qc0, qc1, qc2, qc3, qc4, qf0, qf1, qf2, qf3, qf4⟩ := HR.out.facts
  go_region_with (go_at_call 38; refine (form_callsO ak af _ (HX.out.below HR.out.drew.1)).mono ?_; rintro ev w9 ⟨x, rfl, hx9, hb9⟩; have HX9 := Aside0.mk hx9; have HR9 := Aside0.mk (HR.out.drew.below hb9); clear hx9 hb9; obtain ⟨yc0, yc1, yc2, yc3, yc4, yf0, yf1, yf2, yf3, yf4⟩ := HR9.out.facts)
  all_goals
    go_wp2
    try simp only [Exit.inBlock, Exit.then]
    refine bodyPost_ret (res_read _ _ w.heap.size 0 0 0 0 0 x rfl rfl (HR9.out.putV 0 0 0 0 0)) rfl ⟨x, ?_, ?_, ?_⟩
    · first | (rw [HF.out]; rfl) | rfl
    · rw [HF.out]; exact HR9.out.putE HX9.out 0 0 0 0 0
    · exact HR9.out.putB 0 0 0 0 0

set_option maxHeartbeats 4000000 in
set_option maxRecDepth 100000 in
theorem read_five (s : ByteArray) (hs : s.size ≤ 1000000) (w : World) (hm : Mx w) (ak af : Addr) (hx : Ex w ak af) (m : UInt8) (l : List UInt8) (h : s.data.toList = m :: l) (hk : isMark m = true) (h5 : (Cut.cut m s.data.toList).length = 5) :
    Calls Tryd.prog 23 #[.string s] w (ReadIs w ak af (readE s.data.toList)) := by
  have HX := Aside0.mk hx
  have HM := Aside0.mk hm
  clear hx hm
  have hne : s.toList.isEmpty = false := by rw [ByteArray.toList_eq, h]; rfl
  have h0s : 0 < s.size := by rw [← data_length, h]; exact Nat.succ_pos _
  have h0c : ∀ h : 0 < s.size, ((s[0]'h).toNat : Int) = (m.toNat : Int) := fun hh => by have e := bt_byte s 0 (by rw [h]; simp); simp only [h, List.getElem_cons_zero] at e; rw [← e]; exact bt_at s 0 hh
  have HK := Aside0.mk (fun W => mark_calls m W)
  rw [hk] at HK
  obtain ⟨x, hx⟩ : ∃ x, x = m.toNat := ⟨_, rfl⟩
  rw [← hx] at h0c HK
  obtain ⟨X, hX⟩ : ∃ X : ByteArray, X = ⟨#[m]⟩ := ⟨_, rfl⟩
  have hsl : ∀ W, (Instr.slice 9 (.string s) none (some (.int .i64 1)) none).run Tryd.prog W = .ok (.string X) W := slice_1 s X h0s (by rw [h, hX]; rfl)
  obtain ⟨ps, hps, hsp⟩ := split_calls m s (by omega)
  have hpl : ps.length = 5 := by rw [← h5, ← hps, List.length_map]
  have hle : ∀ p ∈ ps, p.size ≤ 1000000 := fun p hp => by
    have hmem : p.data.toList ∈ Cut.cut m s.data.toList := by rw [← hps]; exact List.mem_map_of_mem hp
    have := cut_le hmem
    rw [data_length, data_length] at this; omega
  match ps, hpl, hps, hsp, hle with
  | [p0, p1, p2, p3, p4], _, hps, hsp, hle =>
    have HSP := Aside0.mk (show ∀ W, Mx W → Calls Tryd.prog 39 #[.string s, .string X] W fun e w' => e = .returned (.slice (some ⟨W.heap.size, 0, none⟩) 5 5) ∧ Below W.heap.size W w' ∧ w'.heap[W.heap.size]? = some (.cells #[.string p0, .string p1, .string p2, .string p3, .string p4] 9 (0, 0)) from fun W hW => by
      rw [hX]
      refine (hsp W hW).mono ?_
      rintro e w' ⟨he, rfl⟩
      exact ⟨he, (Below.refl _ _).alloc (Nat.le_refl _) _, blk_new _ _⟩)
    have HP := Aside0.mk (show readE s.data.toList = five p1.data.toList p2.data.toList p3.data.toList p4.data.toList from by
      rw [read_parts h hk, ← hps]; rfl)
    have HG1 := Aside0.mk (fun W => get_calls p1 9 W)
    have HG3 := Aside0.mk (fun W => get_calls p3 65535 W)
    have hg1 := getMost_get 9 p1.data.toList
    have hg3 := getMost_get 65535 p3.data.toList
    have HQ := Aside0.mk (fun W hW => Quad.read_calls p2 (by have := hle p2 (by simp); omega) W hW)
    clear hps hsp h hk h5 hx hX hs hle
    by_cases h4 : p4.data.toList = []
    · have h4e : p4.toList = [] := by rw [ByteArray.toList_eq]; exact h4
      have HP4 := Aside0.mk (show readE s.data.toList = five p1.data.toList p2.data.toList p3.data.toList [] from by rw [HP.out, h4])
      clear h4
      cases hk1 : getMost 9 p1.data.toList with
      | none =>
        rw [hk1] at hg1
        rw [show Dig.get p1.data.toList 9 = _ from hg1] at HG1
        have HF := Aside0.mk (show readE s.data.toList = .form from by rw [HP4.out, five, if_neg (by simp), hk1])
        clear hg1 hg3 hk1
        go_enter Tryd.func23, Tryd.ntmps23
        go_wp2_with (first
          | (go_at_call 30; refine (HK.out _).mono ?_; rintro e w3 ⟨rfl, hw⟩; obtain rfl := hw.symm)
          | (go_at_call 39; refine (HSP.out _ (HM.out.below (Rd.start w).1)).mono ?_; rintro e w1 ⟨rfl, hb1, hg1⟩; rw [size_alloc] at hg1; have HR := Aside0.mk ((Rd.start w).below hb1); have HG := Aside0.mk hg1; clear hb1 hg1; have g1 : w1.cell? ⟨w.heap.size + 1, 1, none⟩ = some (.string p1) := (blk_cell HG.out 1).trans rfl; have g4 : w1.cell? ⟨w.heap.size + 1, 4, none⟩ = some (.string p4) := (blk_cell HG.out 4).trans rfl)
          | (go_at_call 33; with_reducible refine (HG1.out _).mono ?_; rintro e w3 ⟨rfl, hw⟩; obtain rfl := hw.symm))
        refine wp_at (fun W => Rd w W) HR.out (fun W0 hR0 => ?_)
        replace HR := Aside0.mk hR0
        clear hR0
        obtain ⟨qc0, qc1, qc2, qc3, qc4, qf0, qf1, qf2, qf3, qf4⟩ := HR.out.facts
        go_region_with (go_at_call 38; refine (form_callsO ak af _ (HX.out.below HR.out.drew.1)).mono ?_; rintro ev w9 ⟨x, rfl, hx9, hb9⟩; have HX9 := Aside0.mk hx9; have HR9 := Aside0.mk (HR.out.drew.below hb9); clear hx9 hb9; obtain ⟨yc0, yc1, yc2, yc3, yc4, yf0, yf1, yf2, yf3, yf4⟩ := HR9.out.facts)
        all_goals
          go_wp2
          try simp only [Exit.inBlock, Exit.then]
          refine bodyPost_ret (res_read _ _ w.heap.size 0 0 0 0 0 x rfl rfl (HR9.out.putV 0 0 0 0 0)) rfl ⟨x, ?_, ?_, ?_⟩
          · first | (rw [HF.out]; rfl) | rfl
          · rw [HF.out]; exact HR9.out.putE HX9.out 0 0 0 0 0
          · exact HR9.out.putB 0 0 0 0 0
      | some k =>
        rw [hk1] at hg1
        rw [show Dig.get p1.data.toList 9 = _ from hg1] at HG1
        have hk9 := ((getMost_iff 9 (by decide) _ _).1 hk1).2
        match k, hk1, HG1, hk9 with
        | 0, hk1, HG1, hk9 =>
          have HF := Aside0.mk (show readE s.data.toList = .form from by rw [HP4.out, five, if_neg (by simp), hk1]; rfl)
          clear hg1 hg3 hk1
          go_enter Tryd.func23, Tryd.ntmps23
          go_wp2_with (first
            | (go_at_call 30; refine (HK.out _).mono ?_; rintro e w3 ⟨rfl, hw⟩; obtain rfl := hw.symm)
            | (go_at_call 39; refine (HSP.out _ (HM.out.below (Rd.start w).1)).mono ?_; rintro e w1 ⟨rfl, hb1, hg1⟩; rw [size_alloc] at hg1; have HR := Aside0.mk ((Rd.start w).below hb1); have HG := Aside0.mk hg1; clear hb1 hg1; have g1 : w1.cell? ⟨w.heap.size + 1, 1, none⟩ = some (.string p1) := (blk_cell HG.out 1).trans rfl; have g4 : w1.cell? ⟨w.heap.size + 1, 4, none⟩ = some (.string p4) := (blk_cell HG.out 4).trans rfl)
            | (go_at_call 33; with_reducible refine (HG1.out _).mono ?_; rintro e w3 ⟨rfl, hw⟩; obtain rfl := hw.symm))
          refine wp_at (fun W => Rd w W) HR.out (fun W0 hR0 => ?_)
          replace HR := Aside0.mk hR0
          clear hR0
          obtain ⟨qc0, qc1, qc2, qc3, qc4, qf0, qf1, qf2, qf3, qf4⟩ := HR.out.facts
          go_region_with (go_at_call 38; refine (form_callsO ak af _ (HX.out.below HR.out.drew.1)).mono ?_; rintro ev w9 ⟨x, rfl, hx9, hb9⟩; have HX9 := Aside0.mk hx9; have HR9 := Aside0.mk (HR.out.drew.below hb9); clear hx9 hb9; obtain ⟨yc0, yc1, yc2, yc3, yc4, yf0, yf1, yf2, yf3, yf4⟩ := HR9.out.facts)
          all_goals
            go_wp2
            try simp only [Exit.inBlock, Exit.then]
            refine bodyPost_ret (res_read _ _ w.heap.size 0 0 0 0 0 x rfl rfl (HR9.out.putV 0 0 0 0 0)) rfl ⟨x, ?_, ?_, ?_⟩
            · first | (rw [HF.out]; rfl) | rfl
            · rw [HF.out]; exact HR9.out.putE HX9.out 0 0 0 0 0
            · exact HR9.out.putB 0 0 0 0 0
        | k + 2, hk1, HG1, hk9 =>
          have HF := Aside0.mk (show readE s.data.toList = .kind from by rw [HP4.out, five, if_neg (by simp), hk1]; rfl)
          obtain ⟨q, hq⟩ : ∃ q, q = k + 2 := ⟨_, rfl⟩
          rw [← hq] at HG1
          have hq0 : ((q : Int) == 0) = false := beq_eq_false_iff_ne.2 (by omega)
          have hq1 : ((q : Int) != 1) = true := bne_iff_ne.2 (by omega)
          have hq2 : ¬ q = 0 := by omega
          clear hg1 hg3 hk1 hq hk9
          go_enter Tryd.func23, Tryd.ntmps23
          go_wp2_with (first
            | (go_at_call 30; refine (HK.out _).mono ?_; rintro e w3 ⟨rfl, hw⟩; obtain rfl := hw.symm)
            | (go_at_call 39; refine (HSP.out _ (HM.out.below (Rd.start w).1)).mono ?_; rintro e w1 ⟨rfl, hb1, hg1⟩; rw [size_alloc] at hg1; have HR := Aside0.mk ((Rd.start w).below hb1); have HG := Aside0.mk hg1; clear hb1 hg1; have g1 : w1.cell? ⟨w.heap.size + 1, 1, none⟩ = some (.string p1) := (blk_cell HG.out 1).trans rfl; have g4 : w1.cell? ⟨w.heap.size + 1, 4, none⟩ = some (.string p4) := (blk_cell HG.out 4).trans rfl)
            | (go_at_call 33; with_reducible refine (HG1.out _).mono ?_; rintro e w3 ⟨rfl, hw⟩; obtain rfl := hw.symm))
          refine wp_at (fun W => Rd w W) HR.out (fun W0 hR0 => ?_)
          replace HR := Aside0.mk hR0
          clear hR0
          obtain ⟨qc0, qc1, qc2, qc3, qc4, qf0, qf1, qf2, qf3, qf4⟩ := HR.out.facts
          obtain ⟨yc0, yc1, yc2, yc3, yc4, yf0, yf1, yf2, yf3, yf4⟩ := (HR.out.below ((Below.refl W0.heap.size W0).alloc (Nat.le_refl _) (.cells #[.int .i64 8, .iface 126 (.pointer (some ak))] 73))).facts
          have hgl := (HX.out.below HR.out.1).kind
          have hpos : 0 < w.heap.size := World.block_lt_of_cell? w _ HX.out.kind
          have hn1 : ¬ w.heap.size = 0 := by omega
          have hn2 : ¬ 0 = w.heap.size := by omega
          have hn3 : W0.heap.size ≠ w.heap.size := Nat.ne_of_gt (blk_lt HR.out.2)
          go_region
          all_goals
            go_wp2
            try simp only [Exit.inBlock, Exit.then]
            refine bodyPost_ret (res_read _ _ w.heap.size 0 0 0 0 0 _ rfl rfl (Rd.two ?_)) rfl ⟨.iface 71 (.pointer (some ⟨W0.heap.size, 0, none⟩)), ?_, ?_, Rd.one (w := w) ?_⟩
            rotate_left
            · rw [HF.out]; rfl
            · rw [HF.out]
              refine .kind W0.heap.size 8 rfl ?_
              repeat first | with_reducible refine blk_far ?_ hn3 _ | with_reducible refine blk_drew ?_ | exact new_at _ _ _ (by simp)
            all_goals
              repeat first | with_reducible exact HR.out | with_reducible refine Rd.same ?_ _ _ rfl | with_reducible refine Rd.alloc ?_ _ | with_reducible refine Rd.drewW ?_
        | 1, hk1, HG1, hk9 =>
          have HP5 := Aside0.mk (show readE s.data.toList = match readN p2.data.toList, getMost 65535 p3.data.toList with | some (a, b, c, d), some p => if p = 0 then .form else .ok a b c d p | _, _ => .form from by rw [HP4.out, five, if_neg (by simp), hk1]; rfl)
          clear hg1 hk1 hk9 HP4
          exact read_one s w ak af HX HM hne h0s x HK h0c X hsl p0 p1 p2 p3 p4 HSP HG1 HG3 hg3 HQ h4e HP5
    · have h4e : p4.toList.isEmpty = false := by rw [ByteArray.toList_eq]; exact List.isEmpty_eq_false_iff.2 h4
      have HF := Aside0.mk (show readE s.data.toList = .form from by rw [HP.out]; exact if_pos h4)
      clear hg1 hg3 h4
      go_enter Tryd.func23, Tryd.ntmps23
      go_wp2_with (first
        | (go_at_call 30; refine (HK.out _).mono ?_; rintro e w3 ⟨rfl, hw⟩; obtain rfl := hw.symm)
        | (go_at_call 39; refine (HSP.out _ (HM.out.below (Rd.start w).1)).mono ?_; rintro e w1 ⟨rfl, hb1, hg1⟩; rw [size_alloc] at hg1; have HR := Aside0.mk ((Rd.start w).below hb1); have HG := Aside0.mk hg1; clear hb1 hg1; have g4 : w1.cell? ⟨w.heap.size + 1, 4, none⟩ = some (.string p4) := (blk_cell HG.out 4).trans rfl))
      refine wp_at (fun W => Rd w W) HR.out (fun W0 hR0 => ?_)
      replace HR := Aside0.mk hR0
      clear hR0
      obtain ⟨qc0, qc1, qc2, qc3, qc4, qf0, qf1, qf2, qf3, qf4⟩ := HR.out.facts
      go_region_with (go_at_call 38; refine (form_callsO ak af _ (HX.out.below HR.out.drew.1)).mono ?_; rintro ev w9 ⟨x, rfl, hx9, hb9⟩; have HX9 := Aside0.mk hx9; have HR9 := Aside0.mk (HR.out.drew.below hb9); clear hx9 hb9; obtain ⟨yc0, yc1, yc2, yc3, yc4, yf0, yf1, yf2, yf3, yf4⟩ := HR9.out.facts)
      all_goals
        go_wp2
        try simp only [Exit.inBlock, Exit.then]
        refine bodyPost_ret (res_read _ _ w.heap.size 0 0 0 0 0 x rfl rfl (HR9.out.putV 0 0 0 0 0)) rfl ⟨x, ?_, ?_, ?_⟩
        · first | (rw [HF.out]; rfl) | rfl
        · rw [HF.out]; exact HR9.out.putE HX9.out 0 0 0 0 0
        · exact HR9.out.putB 0 0 0 0 0
end Go.Proofs.YtfbjejkmjbknaaaDoor.Ext

namespace Go.Proofs.YtfbjejkmjbknaaaDoor.Ext
open Go Go.RowKit Go.Proofs.YtfbjejkmjbknaaaDoorW.PrintWords Go.Proofs.YtfbjejkmjbknaaaDoorW.PrintLast Go.Proofs.YtfbjejkmjbknaaaDoorW.PrintMore Go.Proofs.YtfbjejkmjbknaaaDoor.Dig Go.Proofs.YtfbjejkmjbknaaaDoor.Quad Go.Proofs.YtfbjejkmjbknaaaDoor.ExtP Go.Proofs.YtfbjejkmjbknaaaDoor.SixP
set_option linter.unusedVariables false
set_option linter.unusedSimpArgs false

theorem read_calls (s : ByteArray) (hs : s.size ≤ 1000000) (w : World) (hm : Mx w) (ak af : Addr) (hx : Ex w ak af) :
    Calls Tryd.prog 23 #[.string s] w (ReadIs w ak af (readE s.data.toList)) := by
  match h : s.data.toList with
  | [] => rw [← h]; exact read_short s w ak af hx (.inl h)
  | m :: l =>
    rw [← h]
    cases hk : isMark m with
    | false => exact read_short s w ak af hx (.inr ⟨m, l, h, hk⟩)
    | true =>
      by_cases h5 : (Cut.cut m s.data.toList).length = 5
      · exact read_five s hs w hm ak af hx m l h hk h5
      · exact read_not s hs w hm ak af hx m l h hk h5
theorem outV_form (o : Out) : ∃ a b c d p : Nat, outV o = .agg #[.int .u8 a, .int .u8 b, .int .u8 c, .int .u8 d, .int .i64 p] := by
  cases o with
  | ok a b c d p => exact ⟨a, b, c, d, p, rfl⟩
  | form => exact ⟨0, 0, 0, 0, 0, rfl⟩
  | kind => exact ⟨0, 0, 0, 0, 0, rfl⟩
/-- What Read hands back. -/
def readV (o : Out) : Value := .tuple #[outV o, .int .i64 (outN o)]
theorem res_Read (tmps : Array Value) (W : World) (H : Nat) (a b c d p : Int) (e : Value) (h2 : tmps.getD 2 undef = .pointer (some ⟨H, 0, none⟩)) (h3 : tmps.getD 3 undef = e) (hh : W.heap[H]? = some (.cells #[.int .u8 a, .int .u8 b, .int .u8 c, .int .u8 d, .int .i64 p] 25 (0, 0))) :
   (results Tryd.f11 tmps).run Tryd.prog W = .ok (.tuple #[.agg #[.int .u8 a, .int .u8 b, .int .u8 c, .int .u8 d, .int .i64 p], e]) W := by
  have c0 : W.cell? ⟨H, 0, none⟩ = some (.int .u8 a) := (blk_cell hh 0).trans rfl
  have c1 : W.cell? ⟨H, 1, none⟩ = some (.int .u8 b) := (blk_cell hh 1).trans rfl
  have c2 : W.cell? ⟨H, 2, none⟩ = some (.int .u8 c) := (blk_cell hh 2).trans rfl
  have c3 : W.cell? ⟨H, 3, none⟩ = some (.int .u8 d) := (blk_cell hh 3).trans rfl
  have c4 : W.cell? ⟨H, 4, none⟩ = some (.int .i64 p) := (blk_cell hh 4).trans rfl
  rw [Array.getD_eq_getD_getElem?] at h2 h3
  simp [results, show Tryd.f11.results = #[.cell 2 25, .tmp 3] from rfl, h2, h3, go_sem, c0, c1, c2, c3, c4]
theorem end_cells {W : World} {g : Nat} {a b c d p : Int} (h : W.heap[g]? = some (.cells #[.int .u8 a, .int .u8 b, .int .u8 c, .int .u8 d, .int .i64 p] 25 (0, 0))) : W.cell? ⟨g, 0, none⟩ = some (.int .u8 a) ∧ W.cell? ⟨g, 1, none⟩ = some (.int .u8 b) ∧ W.cell? ⟨g, 2, none⟩ = some (.int .u8 c) ∧ W.cell? ⟨g, 3, none⟩ = some (.int .u8 d) ∧ W.cell? ⟨g, 4, none⟩ = some (.int .i64 p) :=
  ⟨(blk_cell h 0).trans rfl, (blk_cell h 1).trans rfl, (blk_cell h 2).trans rfl, (blk_cell h 3).trans rfl, (blk_cell h 4).trans rfl⟩

set_option maxHeartbeats 4000000 in
set_option maxRecDepth 100000 in
theorem Read_calls (s : ByteArray) (hs : s.size ≤ 1000000) (w : World) (hm : Mx w) (ak af : Addr) (hx : Ex w ak af) :
    Calls Tryd.prog 11 #[.string s] w fun e w' => e = .returned (readV (readE s.data.toList)) ∧ Below w.heap.size w w' := by
  have HRD := Aside0.mk (read_calls s hs (w.alloc (.cells #[.int .u8 0, .int .u8 0, .int .u8 0, .int .u8 0, .int .i64 0] 25)) (hm.below (Rd.start w).1) ak af (hx.below (Rd.start w).1))
  have HX := Aside0.mk hx
  obtain ⟨o, ho⟩ : ∃ o, o = readE s.data.toList := ⟨_, rfl⟩
  rw [← ho] at HRD ⊢
  obtain ⟨a, b, c, d, p, hv⟩ := outV_form o
  obtain ⟨n, hn⟩ : ∃ n, n = outN o := ⟨_, rfl⟩
  have HV := Aside0.mk (And.intro hv hn)
  have HF := Aside0.mk (show readV o = .tuple #[.agg #[.int .u8 a, .int .u8 b, .int .u8 c, .int .u8 d, .int .i64 p], .int .i64 n] from by rw [readV, hv, hn])
  clear hm hx ho hv hn
  go_enter Tryd.func11, Tryd.ntmps11
  go_wp2_with (go_at_call 23; refine HRD.out.mono ?_; rintro ev w1 ⟨e, rfl, he, hb⟩; rw [HV.out.1]; rw [← HV.out.2] at he; have HR := Aside0.mk ((Rd.start w).below hb); have HE := Aside0.mk he; clear he hb)
  refine wp_at (fun W => Rd w W ∧ W.heap[w1.heap.size]? = some (.cells #[.int .u8 a, .int .u8 b, .int .u8 c, .int .u8 d, .int .i64 p] 25 (0, 0)) ∧ ErrIs W ak af n e) ⟨HR.out.alloc _, blk_new _ _, HE.out.below ((Below.refl _ _).alloc (Nat.le_refl _) _)⟩ (fun W0 h0 => ?_)
  have HR0 := Aside0.mk h0.1
  have HC0 := Aside0.mk h0.2.1
  have HE0 := Aside0.mk (h0.2.2.below (Below.refl _ _).drew)
  clear h0 HE
  obtain ⟨qc0, qc1, qc2, qc3, qc4, qf0, qf1, qf2, qf3, qf4⟩ := HR0.out.facts
  obtain ⟨x0, x1, x2, x3, x4⟩ := end_cells HC0.out
  go_region_with (go_at_call 24; refine (number_calls _ ak af (HX.out.below HR0.out.drew.1) n e HE0.out).mono ?_; rintro ev w9 ⟨rfl, hb9⟩; have HR9 := Aside0.mk (HR0.out.drew.below hb9); have HC9 := Aside0.mk (blk_below (blk_drew HC0.out) hb9); clear hb9; obtain ⟨yc0, yc1, yc2, yc3, yc4, yf0, yf1, yf2, yf3, yf4⟩ := HR9.out.facts; obtain ⟨z0, z1, z2, z3, z4⟩ := end_cells HC9.out)
  all_goals
    go_wp2
    try simp only [Exit.inBlock, Exit.then]
    refine bodyPost_ret (res_Read _ _ w.heap.size a b c d p _ rfl rfl (HR9.out.putV a b c d p)) rfl ⟨?_, ?_⟩
    · first | (rw [HF.out]; rfl) | rfl
    · exact HR9.out.putB a b c d p
end Go.Proofs.YtfbjejkmjbknaaaDoor.Ext
