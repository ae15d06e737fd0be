/- Contracts and plain facts that the law's proof needs. -/
import Derived.Test.YtdcbkeihgbekdaaDoorM3
import Derived.Test.YtdcbkeihgbekdaaDoorM2
import Derived.Laws.IdiomStrings
import Derived.Test.YtdcbkeihgbekdaaDoorProg
import Derived.Below
import Derived.Deep.Draws
import Derived.Deep.AppendLies
import Derived.Maps.AppendAt
import Derived.OwnWalk
import Derived.Laws.BytesArg
import Derived.Laws.MakeOwn
import Derived.Laws.OwnMore
import Derived.Deep.OwnRows
import Derived.Tactics
import Derived.Lib.ConvBytes
import Derived.Laws.Slices
import Derived.WalkKit
import Derived.KernelRfl
import Derived.RowKit3
import Derived.Deep.LoopGhost
import Derived.Deep.QuietTactic
import Derived.BigQuiet
import Derived.WideLaws
import Derived.Deep.DeepCutAuto
import Derived.Deep.CutBlock
import Derived.Deep.RegionHeld3
import Derived.Laws.Rows
import Derived.Lib.AppendStr
import Derived.ArgAppend
import Derived.Laws.IdiomCopy
import Derived.OrdersHeld
import Derived.Laws.BitsLemmas
import Derived.RowKit
import Derived.Test.YtdcbkeihgbekdaaDoorM1
namespace Go.Proofs.YtdcbkeihgbekdaaDoor.Q
open Go Go.RowKit Go.Proofs.YtdcbkeihgbekdaaDoorW.PrintWords Go.Proofs.YtdcbkeihgbekdaaDoorW.PrintLast Go.Proofs.YtdcbkeihgbekdaaDoorW.PrintMore
set_option linter.unusedVariables false
set_option linter.unusedSimpArgs false

/-! ### a row with the run-time's mark -/
theorem fblk_cell {w : World} {B : Nat} {C : Array Value} {t : TypeId} {f : Nat × Nat} (h : w.heap[B]? = some (.cells C t f)) (j : Nat) : w.cell? ⟨B, j, none⟩ = C[j]? := by simp [World.cell?, h]
theorem fblk_frozen {w : World} {B N : Nat} {C : Array Value} {t : TypeId} (h : w.heap[B]? = some (.cells C t (N, N + 1))) {j : Nat} (hj : j < N) : w.frozen? ⟨B, j, none⟩ = false := by simp [World.frozen?, h]; omega
theorem fblk_put {w : World} {B : Nat} {C : Array Value} {t : TypeId} {f : Nat × Nat} (h : w.heap[B]? = some (.cells C t f)) (j : Nat) (u : Value) (hu : u.oneCell' = true) : (w.setCell ⟨B, j, none⟩ u).heap[B]? = some (.cells (C.setIfInBounds j u) t f) := by
  simp [World.setCell, Array.getElem?_modify, h]

def upB (c : UInt8) : UInt8 := if 97 ≤ c.toNat ∧ c.toNat ≤ 122 then c - 32 else c
def upper (l : List UInt8) : List UInt8 := l.map upB
theorem not32 (x : Nat) (h1 : 97 ≤ x) (h2 : x ≤ 122) : bits .andNot .u8 (x : Int) 32 = ((x - 32 : Nat) : Int) := by
  have : ∀ y : Fin 26, bits .andNot .u8 ((y.val + 97 : Nat) : Int) 32 = ((y.val + 97 - 32 : Nat) : Int) := by decide +kernel
  have := this ⟨x - 97, by omega⟩
  rwa [show x - 97 + 97 = x from by omega] at this
theorem upB_low (c : UInt8) (h1 : 97 ≤ c.toNat) (h2 : c.toNat ≤ 122) : (upB c).toNat = c.toNat - 32 := by
  rw [upB, if_pos ⟨h1, h2⟩, UInt8.toNat_sub_of_le _ _ (by rw [UInt8.le_iff_toNat_le]; show 32 ≤ _; omega)]; rfl
theorem upB_else (c : UInt8) (h : ¬ (97 ≤ c.toNat ∧ c.toNat ≤ 122)) : upB c = c := by rw [upB, if_neg h]
/-- The bytes behind k rounds. -/
def upTo (l : List UInt8) (k : Nat) : List UInt8 := (l.take k).map upB ++ l.drop k
theorem upTo_at (l : List UInt8) (k : Nat) (hk : k < l.length) : (upTo l k)[k]? = some l[k] := by
  rw [upTo, List.getElem?_append_right (by simp; omega)]
  simp [Nat.min_eq_left (Nat.le_of_lt hk), List.getElem?_eq_getElem hk]
theorem upTo_next (l : List UInt8) (k : Nat) (hk : k < l.length) : upTo l (k + 1) = (upTo l k).set k (upB l[k]) := by
  apply List.ext_getElem?
  intro j
  rw [List.getElem?_set]
  simp only [upTo, List.length_append, List.length_map, List.length_take, List.length_drop]
  by_cases hj : k = j
  · subst hj
    rw [if_pos rfl, if_pos (by omega), List.getElem?_append_left (by simp; omega)]
    simp [hk]
  · rw [if_neg hj]
    by_cases h2 : j < k
    · rw [List.getElem?_append_left (by simp; omega), List.getElem?_append_left (by simp; omega)]
      simp [h2, show j < k + 1 from by omega]
    · rw [List.getElem?_append_right (by simp; omega), List.getElem?_append_right (by simp; omega)]
      simp only [List.length_map, List.length_take, List.getElem?_drop]
      congr 1
      omega
theorem upTo_len (l : List UInt8) (k : Nat) : (upTo l k).length = l.length := by simp [upTo]; omega
/-- What the row holds behind k rounds. -/
def Ups (w : World) (B : Nat) (l : List UInt8) : Prop := ∃ C : Array Value, w.heap[B]? = some (.cells C 5 (C.size, C.size + 1)) ∧ l.length ≤ C.size ∧ ∀ (j : Nat) (c : UInt8), l[j]? = some c → C[j]? = some (Value.int .u8 (c.toNat : Int))
theorem Ups.drew {w : World} {B : Nat} {l : List UInt8} (h : Ups w B l) : Ups w.drew B l := h
theorem Ups.start (w : World) (s : ByteArray) (cap : Nat) : Ups (w.alloc (.cells (bytesRow s cap) 5 ((bytesRow s cap).size, (bytesRow s cap).size + 1))) w.heap.size (upTo s.data.toList 0) := by
  refine ⟨bytesRow s cap, blk_new _ _, ?_, fun j c hj => ?_⟩
  · simp [upTo, bytesRow]
  · have hj' : s.data.toList[j]? = some c := by simpa [upTo] using hj
    have hlt : j < s.data.toList.length := (List.getElem?_eq_some_iff.1 hj').1
    have hs : j < s.data.size := by simpa using hlt
    rw [bytesRow, Array.getElem?_append_left (by simpa using hs)]
    rw [Array.getElem?_map]
    rw [← Array.getElem?_toList, hj']; rfl
theorem Ups.cell {w : World} {B : Nat} {l : List UInt8} (h : Ups w B l) {j : Nat} {c : UInt8} (hj : l[j]? = some c) : w.cell? ⟨B, j, none⟩ = some (.int .u8 (c.toNat : Int)) ∧ w.frozen? ⟨B, j, none⟩ = false := by
  obtain ⟨C, hb, hl, hc⟩ := h
  have hlt := (List.getElem?_eq_some_iff.1 hj).1
  exact ⟨(fblk_cell hb j).trans (hc j c hj), fblk_frozen hb (by omega)⟩
theorem Ups.put {w : World} {B : Nat} {l : List UInt8} (h : Ups w B l) (j : Nat) (c : UInt8) : Ups (w.setCell ⟨B, j, none⟩ (.int .u8 (c.toNat : Int))) B (l.set j c) := by
  obtain ⟨C, hb, hl, hc⟩ := h
  refine ⟨_, by have := fblk_put hb j (Value.int .u8 (c.toNat : Int)) rfl; rw [Array.size_setIfInBounds]; exact this, by simpa using hl, fun i x hi => ?_⟩
  rw [List.getElem?_set] at hi
  rw [Array.getElem?_setIfInBounds]
  split at hi
  · rename_i e
    subst e
    split at hi
    · cases hi
      rw [if_pos rfl, if_pos (by omega)]
    · cases hi
  · rename_i e
    rw [if_neg e]; exact hc i x hi
theorem Ups.reads {w : World} {B : Nat} {l : List UInt8} (h : Ups w B l) (hm : l.length ≤ 9223372036854775807) : ReadsInt w .u8 (some ⟨B, 0, none⟩) l.length (l.map fun c => (c.toNat : Int)) := by
  refine ⟨by simp, hm, fun _ => ⟨_, rfl, fun j hj => ?_⟩⟩
  have e1 : (⟨B, 0, none⟩ : Addr).add j = ⟨B, j, none⟩ := by
    simp [Addr.add]
    try (intro h1; omega)
  rw [e1, (h.cell (List.getElem?_eq_getElem (l := l) (by simpa using hj))).1]
  simp [List.getElem?_eq_getElem (l := l) (by simpa using hj)]
theorem str_upper (l : List UInt8) : strOfNums (l.map fun c => (c.toNat : Int)) = ⟨l.toArray⟩ := by
  apply ByteArray.ext; apply Array.ext'
  rw [strOfNums_data]
  have e : ((fun n : Int => UInt8.ofNat n.toNat) ∘ fun c : UInt8 => (c.toNat : Int)) = id := by funext c; simp
  simp [List.map_map, e]

set_option maxHeartbeats 2000000 in
set_option maxRecDepth 100000 in
theorem Upper_calls (s : ByteArray) (hs : s.size ≤ 1000000) (w : World) :
    Calls Tryd.prog 42 #[.string s] w fun e w' => e = .returned (.string ⟨(upper s.data.toList).toArray⟩) ∧ Below w.heap.size w w' := by
  have hcv := fun (W : World) => run_bytes_of_string (P := Tryd.prog) W 9 83 5 s Tryd.underlying9 Tryd.underlying83 Tryd.underlying5
  have HL := Aside0.mk (data_length s)
  go_enter Tryd.func42, Tryd.ntmps42
  go_wp2
  clear hcv
  go_loopw [10] (fun i wr => ∃ k : Nat, k ≤ s.size ∧ i = .int .i64 k ∧ Aside0 (Ups wr w.heap.size (upTo s.data.toList k)) ∧ Aside0 (Below w.heap.size w wr)) (fun i _ => s.size - (intOf i).toNat)
  case atStart => exact ⟨0, Nat.zero_le _, rfl, ⟨(Ups.start w s _).drew⟩, ⟨((Below.refl _ _).alloc (Nat.le_refl _) _).drew⟩⟩
  case round =>
    obtain ⟨k, hk, rfl, HU, HB⟩ := hrel
    by_cases hlt : k < s.size
    · have hk' : k < s.data.toList.length := by rw [HL.out]; exact hlt
      obtain ⟨c, hc⟩ : ∃ c, c = s.data.toList[k] := ⟨_, rfl⟩
      obtain ⟨y, hy⟩ : ∃ y : Nat, y = c.toNat := ⟨_, rfl⟩
      have hcell := (HU.out.cell (upTo_at _ k hk')).1
      have hfr := (HU.out.cell (upTo_at _ k hk')).2
      rw [← hc, ← hy] at hcell
      have HN := Aside0.mk (upTo_next _ k hk')
      rw [← hc] at HN
      have hy8 : y < 256 := by rw [hy]; exact c.toNat_lt
      by_cases h1 : 97 ≤ c.toNat ∧ c.toNat ≤ 122
      · have hge : decide ((97 : Int) ≤ (y : Int)) = true := decide_eq_true (by omega)
        have hle : decide ((y : Int) ≤ 122) = true := decide_eq_true (by omega)
        have hbits := not32 y (by omega) (by omega)
        obtain ⟨z, hz⟩ : ∃ z : Nat, z = y - 32 := ⟨_, rfl⟩
        rw [← hz] at hbits
        have HZ := Aside0.mk (show z = (upB c).toNat from by rw [upB_low c h1.1 h1.2, hz, hy])
        clear h1 hc hy hz hk'
        go_wp2
        go_roundw
        case rel => exact ⟨k + 1, by omega, by go_num, ⟨by rw [HN.out]; have := HU.out.put k (upB c); rwa [← HZ.out] at this⟩, ⟨HB.out.setCell (Nat.le_refl _) _⟩⟩
        case measure => simp [intOf]; omega
      · have HZ := Aside0.mk (upB_else c h1)
        have HS := Aside0.mk (show (upTo s.data.toList k).set k c = upTo s.data.toList k from by
          apply List.ext_getElem?
          intro j
          rw [List.getElem?_set]
          split
          · rename_i e; subst e
            rw [upTo_at _ _ hk', ← hc, if_pos (by rw [upTo_len]; exact hk')]
          · rfl)
        rw [HZ.out] at HN
        rcases (show (decide ((97 : Int) ≤ (y : Int)) = false) ∨ (decide ((97 : Int) ≤ (y : Int)) = true ∧ decide ((y : Int) ≤ 122) = false) from by
          simp only [decide_eq_true_eq, decide_eq_false_iff_not]; omega) with g1 | ⟨g1, g2⟩
        all_goals
          clear h1 hc hy hk'
          go_wp2
          go_roundw
          case rel => exact ⟨k + 1, by omega, by go_num, ⟨by rw [HN.out, HS.out]; exact HU.out⟩, HB⟩
          case measure => simp [intOf]; omega
    · obtain rfl : k = s.size := by omega
      have hall : upTo s.data.toList s.size = upper s.data.toList := by
        rw [upTo, upper, List.take_of_length_le (by rw [HL.out]; exact Nat.le_refl _), List.drop_of_length_le (by rw [HL.out]; exact Nat.le_refl _), List.append_nil]
      have hlen : (upper s.data.toList).length = s.size := by rw [upper, List.length_map]; exact HL.out
      have hR := HU.out.reads (by rw [upTo_len, HL.out]; omega)
      rw [hall, hlen] at hR
      have hcv : ∀ c, (convert 83 9 (.slice (some ⟨w.heap.size, 0, none⟩) s.size c)).run Tryd.prog wr = .ok (.string ⟨(upper s.data.toList).toArray⟩) wr := fun c => by
        rw [string_of_reads (c := c) Tryd.underlying83 Tryd.underlying5 Tryd.underlying9 hR, str_upper]
      clear hall hlen hR
      go_wp2
      go_ret
      exact ⟨rfl, HB.out⟩
end Go.Proofs.YtdcbkeihgbekdaaDoor.Q

namespace Go.Proofs.YtdcbkeihgbekdaaDoor.Q
open Go Go.RowKit Go.Proofs.YtdcbkeihgbekdaaDoorW.PrintWords Go.Proofs.YtdcbkeihgbekdaaDoorW.PrintLast Go.Proofs.YtdcbkeihgbekdaaDoorW.PrintMore
set_option linter.unusedVariables false
set_option linter.unusedSimpArgs false

end Go.Proofs.YtdcbkeihgbekdaaDoor.Q

namespace Go.Proofs.YtdcbkeihgbekdaaDoor.Q
open Go Go.RowKit Go.Proofs.YtdcbkeihgbekdaaDoorW.PrintWords Go.Proofs.YtdcbkeihgbekdaaDoorW.PrintLast Go.Proofs.YtdcbkeihgbekdaaDoorW.PrintMore
set_option linter.unusedVariables false
set_option linter.unusedSimpArgs false

theorem zeroV (w : World) : (zeroValue 64).run Tryd.prog w = .ok (.agg #[.string ⟨#[]⟩, .int .i64 0, .int .i64 0, .bool false]) w := by kernel_rfl
theorem keyV : MapLaw.KeyOk Tryd.prog 9 Value.string := MapLaw.string_key Tryd.underlying9
def mapOf (l : List S64) : List (ByteArray × Value) := l.foldl (fun m v => MapLaw.put v.f0 (encV v) m) []
theorem mapOf_next (l : List S64) (k : Nat) (hk : k < l.length) : mapOf (l.take (k + 1)) = MapLaw.put (l[k]).f0 (encV l[k]) (mapOf (l.take k)) := by
  rw [List.take_succ_eq_append_getElem hk, mapOf, List.foldl_append]; rfl
theorem at_fold (key : ByteArray) : ∀ (l : List S64) (m : List (ByteArray × Value)), (l.map (·.f0)).Nodup → MapLaw.at_ key (l.foldl (fun m v => MapLaw.put v.f0 (encV v) m) m) = match l.find? (fun v => decide (v.f0 = key)) with | some v => some (encV v) | none => MapLaw.at_ key m
  | [], m, _ => rfl
  | a :: r, m, h => by
    rw [List.map_cons, List.nodup_cons] at h
    rw [List.foldl_cons, at_fold key r _ h.2, List.find?_cons]
    by_cases e : a.f0 = key
    · have hno : r.find? (fun v => decide (v.f0 = key)) = none := by
        rw [List.find?_eq_none]
        intro x hx hd
        exact h.1 (by rw [e, ← of_decide_eq_true hd]; exact List.mem_map.2 ⟨x, hx, rfl⟩)
      rw [hno, decide_eq_true e]
      show MapLaw.at_ key (MapLaw.put a.f0 (encV a) m) = some (encV a)
      rw [MapLaw.at_put, if_pos e.symm]
    · rw [decide_eq_false e]
      cases r.find? (fun v => decide (v.f0 = key)) with
      | some v => rfl
      | none =>
        show MapLaw.at_ key (MapLaw.put a.f0 (encV a) m) = MapLaw.at_ key m
        rw [MapLaw.at_put, if_neg (fun h => e h.symm)]
set_option maxRecDepth 100000 in
theorem table_nodup : (tableS.map (·.f0)).Nodup := by decide +kernel
/-- The verb of a name. -/
def findV (l : List UInt8) : Option S64 := tableS.find? fun v => v.f0.data.toList == upper l
theorem at_table (l : List UInt8) : MapLaw.at_ ⟨(upper l).toArray⟩ (mapOf tableS) = (findV l).map encV := by
  rw [mapOf, at_fold _ _ _ table_nodup, findV]
  have e : (fun v : S64 => decide (v.f0 = ⟨(upper l).toArray⟩)) = fun v => v.f0.data.toList == upper l := by
    funext v
    rw [Bool.eq_iff_iff, decide_eq_true_iff, beq_iff_eq]
    constructor
    · intro h; rw [h]
    · intro h; apply ByteArray.ext; apply Array.ext'; exact h
  rw [e]
  cases tableS.find? fun v => v.f0.data.toList == upper l <;> rfl
def TabAt (w : World) (B : Nat) : Prop := w.heap[B]? = some (.cells (tableS.flatMap encS).toArray 64 (0, 0))

set_option maxHeartbeats 8000000 in
set_option maxRecDepth 100000 in
theorem table_calls (w : World) :
    Calls Tryd.prog 41 #[] w fun e w' => e = .returned (.map (some w.heap.size)) ∧ MapLaw.Is Value.string w' w.heap.size (mapOf tableS) ∧ Below w.heap.size w w' := by
  have hmm := @run_makeMap Tryd.prog
  have HT : ∀ W : World, TabAt (W.alloc (.cells (tableS.flatMap encS).toArray 64)) W.heap.size := fun W => blk_new _ _
  rw [← tableC] at HT
  replace HT := Aside0.mk HT
  go_enter Tryd.func41, Tryd.ntmps41
  go_wp2
  clear hmm
  go_loopw [43] (fun i wr => ∃ k : Nat, k ≤ 36 ∧ i = .int .i64 k ∧ Aside0 (MapLaw.Is Value.string wr w.heap.size (mapOf (tableS.take k))) ∧ Aside0 (TabAt wr (w.heap.size + 1)) ∧ Aside0 (Below w.heap.size w wr)) (fun i _ => 36 - (intOf i).toNat)
  case atStart => exact ⟨0, Nat.zero_le _, rfl, ⟨(MapLaw.Is.made _ _).alloc _⟩, ⟨by have := HT.out (w.alloc (.map #[] 0)); simpa using this⟩, ⟨((Below.refl _ _).alloc (Nat.le_refl _) _).alloc (by simp) _⟩⟩
  case round =>
    clear HT
    obtain ⟨k, hk, rfl, HM, HC, HB⟩ := hrel
    by_cases hlt : k < 36
    · have hC := C_of_blk k64 64 wr (w.heap.size + 1) tableS encS encS_len (fun x _ => k64_mk wr x) (by rw [tableS_len]; decide) rfl HC.out
      have hkl : k < tableS.length := by rw [tableS_len]; exact hlt
      obtain ⟨ad, e, x0, x1, x2, x3⟩ := at_T64 hC (k : Int) (by omega) (by omega)
      obtain rfl := Option.some.inj e
      have hv : rd_T64 tableS (k : Int) = tableS[k] := by
        rw [rd_T64, Int.toNat_natCast, List.getD_eq_getElem?_getD, List.getElem?_eq_getElem hkl]; rfl
      have HN := Aside0.mk (mapOf_next tableS k hkl)
      rw [← hv] at HN
      obtain ⟨v, hv'⟩ : ∃ v, v = rd_T64 tableS (k : Int) := ⟨_, rfl⟩
      rw [← hv'] at x0 x1 x2 x3 HN
      have e0 : ((⟨w.heap.size + 1, 0, none⟩ : Addr).add ((k : Int).toNat * 4)) = ⟨w.heap.size + 1, k * 4, none⟩ := by simp [Addr.add]; try (intro h1; omega)
      rw [e0] at x0 x1 x2 x3
      clear hC e hv hv' hkl e0
      have HSZ := Aside0.mk HB.out.size
      go_wp2_with (at_mapUpdate; refine MapLaw.wp_update _ rfl _ _ _ 87 64 rfl keyV Tryd.underlying87 rfl (HM.out.alloc _) v.f0 rfl (encV v) rfl ?_; intro w1 hm1 hg1)
      go_roundw
      case rel => exact ⟨k + 1, by omega, by go_num, ⟨by rw [HN.out]; exact hm1⟩, ⟨blk_grown (blk_alloc HC.out _) hg1 (by simp)⟩, ⟨(HB.out.alloc HSZ.out _).grown hg1 (HB.out.alloc HSZ.out _).size (fun j hj => by cases hj; exact Nat.le_refl _)⟩⟩
      case measure => simp [intOf]; omega
    · obtain rfl : k = 36 := by omega
      have HM2 : Aside0 (MapLaw.Is Value.string wr w.heap.size (mapOf tableS)) := ⟨by have := HM.out; rwa [List.take_of_length_le (by rw [tableS_len]; exact Nat.le_refl _)] at this⟩
      go_wp2
      go_ret
      exact ⟨rfl, HM2.out, HB.out⟩

end Go.Proofs.YtdcbkeihgbekdaaDoor.Q

namespace Go.Proofs.YtdcbkeihgbekdaaDoor.Q
open Go Go.RowKit Go.Proofs.YtdcbkeihgbekdaaDoorW.PrintWords Go.Proofs.YtdcbkeihgbekdaaDoorW.PrintLast Go.Proofs.YtdcbkeihgbekdaaDoorW.PrintMore
set_option linter.unusedVariables false
set_option linter.unusedSimpArgs false

set_option maxHeartbeats 1000000 in
set_option maxRecDepth 100000 in
theorem Find_calls (s : ByteArray) (hs : s.size ≤ 1000000) (n : ByteArray) (k a : Int) (p z : Bool) (h : (match findV s.data.toList with | some v => (v.f0, v.f1, v.f2, v.f3, true) | none => (⟨#[]⟩, 0, 0, false, false)) = (n, k, a, p, z)) (w : World) :
    Calls Tryd.prog 25 #[.string s] w fun e w' => e = .returned (.tuple #[.agg #[.string n, .int .i64 k, .int .i64 a, .bool p], .bool z]) ∧ Below w.heap.size w w' := by
  have HAT := Aside0.mk (at_table s.data.toList)
  have HV := Aside0.mk (show ((findV s.data.toList).map encV).getD (.agg #[.string ⟨#[]⟩, .int .i64 0, .int .i64 0, .bool false]) = .agg #[.string n, .int .i64 k, .int .i64 a, .bool p] ∧ ((findV s.data.toList).map encV).isSome = z from by
    cases hf : findV s.data.toList with
    | none => rw [hf] at h; cases h; exact ⟨rfl, rfl⟩
    | some v => rw [hf] at h; cases h; exact ⟨rfl, rfl⟩)
  clear h
  have HB := Aside0.mk ((Below.refl w.heap.size w).alloc (Nat.le_refl _) (.cells #[.string ⟨#[]⟩, .int .i64 0, .int .i64 0, .bool false] 64))
  have HK := Aside0.mk (blk_new w (.cells #[.string ⟨#[]⟩, .int .i64 0, .int .i64 0, .bool false] 64))
  go_enter Tryd.func25, Tryd.ntmps25
  go_wp2_with (first
    | (go_at_call 41; with_reducible refine (table_calls _).mono ?_; rintro e w1 ⟨rfl, hm, hb⟩; have HM := Aside0.mk (show MapLaw.Is Value.string w1 (w.heap.size + 1) (mapOf tableS) from by simpa using hm); replace HK := Aside0.mk (blk_below HK.out hb); replace HB := Aside0.mk (HB.out.trans (hb.mono HB.out.size)); clear hm hb)
    | (go_at_call 42; with_reducible refine (Upper_calls s hs _).mono ?_; rintro e w2 ⟨rfl, hb⟩; replace HM := Aside0.mk (HM.out.below hb); replace HK := Aside0.mk (blk_below HK.out hb); replace HB := Aside0.mk (HB.out.trans (hb.mono HB.out.size)); clear hb)
    | (at_lookup; refine MapLaw.wp_lookup _ rfl _ _ 87 64 true rfl keyV Tryd.underlying87 (zeroV _) rfl HM.out ⟨(upper s.data.toList).toArray⟩ rfl ?_; rw [HAT.out, HV.out.1, HV.out.2]; have kc0 : ∀ o, (w2.alloc o).cell? ⟨w.heap.size, 0, none⟩ = some (.string ⟨#[]⟩) := fun o => (blk_cell (blk_alloc HK.out o) 0).trans rfl; have kf0 : ∀ o, (w2.alloc o).frozen? ⟨w.heap.size, 0, none⟩ = false := fun o => blk_frozen (blk_alloc HK.out o) 0; have kc1 : ∀ o, (w2.alloc o).cell? ⟨w.heap.size, 1, none⟩ = some (.int .i64 0) := fun o => (blk_cell (blk_alloc HK.out o) 1).trans rfl; have kf1 : ∀ o, (w2.alloc o).frozen? ⟨w.heap.size, 1, none⟩ = false := fun o => blk_frozen (blk_alloc HK.out o) 1; have kc2 : ∀ o, (w2.alloc o).cell? ⟨w.heap.size, 2, none⟩ = some (.int .i64 0) := fun o => (blk_cell (blk_alloc HK.out o) 2).trans rfl; have kf2 : ∀ o, (w2.alloc o).frozen? ⟨w.heap.size, 2, none⟩ = false := fun o => blk_frozen (blk_alloc HK.out o) 2; have kc3 : ∀ o, (w2.alloc o).cell? ⟨w.heap.size, 3, none⟩ = some (.bool false) := fun o => (blk_cell (blk_alloc HK.out o) 3).trans rfl; have kf3 : ∀ o, (w2.alloc o).frozen? ⟨w.heap.size, 3, none⟩ = false := fun o => blk_frozen (blk_alloc HK.out o) 3))
  refine bodyPost_ret (results_ct rfl _ _ w.heap.size 64 #[.string n, .int .i64 k, .int .i64 a, .bool p] (0, 0) _ rfl (by refine blk_put (cs := #[.string n, .int .i64 k, .int .i64 a, .bool false]) ?_ 3 _ rfl; refine blk_put (cs := #[.string n, .int .i64 k, .int .i64 0, .bool false]) ?_ 2 _ rfl; refine blk_put (cs := #[.string n, .int .i64 0, .int .i64 0, .bool false]) ?_ 1 _ rfl; refine blk_put (cs := #[.string ⟨#[]⟩, .int .i64 0, .int .i64 0, .bool false]) ?_ 0 _ rfl; exact blk_alloc HK.out _) Tryd.underlying64 rfl (by kernel_rfl)) rfl ?_
  exact ⟨rfl, ((((HB.out.alloc HB.out.size _).setCell (Nat.le_refl _) _).setCell (Nat.le_refl _) _).setCell (Nat.le_refl _) _).setCell (Nat.le_refl _) _⟩
end Go.Proofs.YtdcbkeihgbekdaaDoor.Q

namespace Go.Proofs.YtdcbkeihgbekdaaDoor.Q
open Go Go.RowKit Go.Proofs.YtdcbkeihgbekdaaDoorW.PrintWords
set_option linter.unusedVariables false
def quad_Num.f (n : Int) : Option ByteArray := if -9223372036854775808 ≤ n ∧ n ≤ 9223372036854775807 then some ⟨(Dig.numU n).toArray⟩ else none
theorem quad_Num.calls (a0 : Int) (r : ByteArray) (w : World) (h : quad_Num.f a0 = some r) : Calls Tryd.prog 38 #[.int .i64 a0] w fun e w' => e = .returned (.string r) ∧ Below w.heap.size w w' := by
  unfold quad_Num.f at h
  split at h
  · rename_i hb
    obtain rfl := Option.some.inj h
    have := Quad.num_calls a0 hb.1 hb.2 w
    rwa [Dig.numU_eq] at this
  · cases h
end Go.Proofs.YtdcbkeihgbekdaaDoor.Q

namespace Go.Proofs.YtdcbkeihgbekdaaDoor.Q
open Go.RowKit Go.Proofs.YtdcbkeihgbekdaaDoor.Turn Go.Proofs.YtdcbkeihgbekdaaDoorW.PrintWords Go.Proofs.YtdcbkeihgbekdaaDoorW.PrintLast Go.Proofs.YtdcbkeihgbekdaaDoorW.PrintMore
attribute [local go_sem] max2_int min2_int max_two min_two max_three min_three max_four min_four   -- for this text's walks alone
set_option linter.unusedVariables false
set_option linter.unusedSimpArgs false



def errW : Option Int → Value
 | none => .nilIface
 | some c => .iface 0 (.int .i64 c)
theorem errW_none : errW none = .nilIface := rfl
theorem errW_some (c : Int) : errW (some c) = .iface 0 (.int .i64 c) := rfl

-- the values' own types

theorem cl_2 {w : World} {g : Nat} {t : TypeId} (a0 a1 : Value) (h : w.heap[g]? = some (.cells #[a0, a1] t (0, 0))) : w.cell? ⟨g, 0, none⟩ = some a0 ∧ w.cell? ⟨g, 1, none⟩ = some a1 := ⟨(blk_cell h 0).trans rfl, (blk_cell h 1).trans rfl⟩
theorem fz_2 {w : World} {g : Nat} {t : TypeId} {cs : Array Value} (h : w.heap[g]? = some (.cells cs t (0, 0))) : w.frozen? ⟨g, 0, none⟩ = false ∧ w.frozen? ⟨g, 1, none⟩ = false := ⟨blk_frozen h 0, blk_frozen h 1⟩
end Go.Proofs.YtdcbkeihgbekdaaDoor.Q

namespace Go.Proofs.YtdcbkeihgbekdaaDoor.Q
open Go.RowKit Go.Proofs.YtdcbkeihgbekdaaDoor.Turn Go.Proofs.YtdcbkeihgbekdaaDoorW.PrintWords Go.Proofs.YtdcbkeihgbekdaaDoorW.PrintLast Go.Proofs.YtdcbkeihgbekdaaDoorW.PrintMore
attribute [local go_sem] max2_int min2_int max_two min_two max_three min_three max_four min_four   -- for this text's walks alone
set_option linter.unusedVariables false
set_option linter.unusedSimpArgs false

/-! ### cmd_Clean: function 26 -/
def cmd_Clean.l0 : Nat → ByteArray → Int → Int → Option (Bool)
 | 0, _, _, _ => none
 | k + 1, x0, x5, x6 => if x6 < x5 then (if 0 ≤ x6 then (if x6 < (x0.size : Int) then (if (bt x0 x6) < 32 then (some false) else (if (bt x0 x6) > 126 then (some false) else (cmd_Clean.l0 k x0 x5 (wrap64 (x6 + 1))))) else (none)) else (none)) else (some true)
def cmd_Clean.f (k : Nat) (a0 : ByteArray) : Option (Bool) := cmd_Clean.l0 k a0 (a0.size : Int) 0
theorem cmd_Clean.mono_l : ∀ k, (∀ y0 y1 y2, LeO (cmd_Clean.l0 k y0 y1 y2) (cmd_Clean.l0 (k + 1) y0 y1 y2))
 | 0 => fun _ _ _ r h => by simp [cmd_Clean.l0] at h
 | k + 1 => by
  have ih0 := cmd_Clean.mono_l k
  ·
   intro y0 y1 y2
   unfold cmd_Clean.l0
   repeat' first
   | (with_reducible exact ih0 _ _ _)
   | (with_reducible exact LeO.refl _)
   | (with_reducible exact LeO.none _)
   | (with_reducible refine LeO.ite ?_ ?_)
   | (with_reducible refine LeO.bind ?_ (fun _ => ?_))
   | exact ih0 _ _ _
   | exact LeO.none _
   | refine LeO.ite ?_ ?_
   | refine LeO.bind ?_ (fun _ => ?_)
theorem cmd_Clean.mono : ∀ a0 k, LeO (cmd_Clean.f k a0) (cmd_Clean.f (k + 1) a0) := by
 intro a0 k
 have ih0 := cmd_Clean.mono_l k
 unfold cmd_Clean.f
 repeat' first
   | (with_reducible exact ih0 _ _ _)
   | (with_reducible exact LeO.refl _)
   | (with_reducible exact LeO.none _)
   | (with_reducible refine LeO.ite ?_ ?_)
   | (with_reducible refine LeO.bind ?_ (fun _ => ?_))
   | exact ih0 _ _ _
   | exact LeO.none _
   | refine LeO.ite ?_ ?_
   | refine LeO.bind ?_ (fun _ => ?_)
set_option maxHeartbeats 8000000 in
set_option maxRecDepth 100000 in
theorem cmd_Clean.calls (k : Nat) (a0 : ByteArray) (r : Bool) (w : World) (h : cmd_Clean.f k a0 = some r) :
  Calls Tryd.prog 26 #[.string a0] w fun e w' => e = .returned (.bool r) ∧ Drawn0 w w' := by
 have H : (cmd_Clean.l0 k a0 (a0.size : Int) 0) = some r := h
 clear h
 have H' := Aside0.mk H
 clear H
 go_enter Tryd.func26, Tryd.ntmps26
 go_wp2
 go_loopg [6] k (fun kq v6 w' => ∃ (x6_1 : Int), v6 = .int .i64 x6_1 ∧ Aside0 (cmd_Clean.l0 kq a0 (a0.size : Int) x6_1 = some r) ∧ Aside0 (kq ≤ k) ∧ Drawn0 w w')
 case atStart => exact ⟨(0), (by first | rfl | (simp; done) | (simp [*]; done)), H', ⟨Nat.le_refl _⟩, by repeat (first | exact Drawn0.refl _ | apply Drawn0.step)⟩
 case round =>
  clear H'
  obtain ⟨x6_1, rfl, HA, HK1, ⟨m1, rfl⟩⟩ := hrel
  cases gk with
  | zero => exact absurd HA.out (by simp [cmd_Clean.l0])
  | succ k1 =>
   have H := HA.out
   clear HA
   simp only [cmd_Clean.l0] at H
   by_cases c2 : x6_1 < (a0.size : Int)
   ·
    rw [if_pos c2] at H
    have c2b0 : decide (x6_1 < (a0.size : Int)) = true := decide_eq_true c2
    clear c2
    by_cases c3 : 0 ≤ x6_1
    ·
     rw [if_pos c3] at H
     have c3b0 : decide (0 ≤ x6_1) = true := decide_eq_true c3
     clear c3
     by_cases c4 : x6_1 < (a0.size : Int)
     ·
      rw [if_pos c4] at H
      have c4b0 : decide (x6_1 < (a0.size : Int)) = true := decide_eq_true c4
      clear c4
      by_cases c6 : (bt a0 x6_1) < 32
      ·
       rw [if_pos c6] at H
       have c6b0 : decide ((bt a0 x6_1) < 32) = true := decide_eq_true c6
       clear c6
       obtain rfl := Option.some.inj H
       have p5 : 0 ≤ (x6_1 : Int) := of_decide_eq_true (by first | (with_reducible assumption) | assumption)
       have q5 : x6_1 < (a0.size : Int) := of_decide_eq_true (by first | (with_reducible assumption) | assumption)
       have hx5 := bt_at a0 x6_1
       replace p5 := eq_true p5
       replace q5 := eq_true q5
       go_wp2
       go_ret
       exact ⟨by first | rfl | (simp; done) | (simp [*]; done), by repeat (first | exact Drawn0.refl _ | apply Drawn0.step)⟩
      ·
       rw [if_neg c6] at H
       have c6b0 : decide ((bt a0 x6_1) < 32) = false := decide_eq_false c6
       clear c6
       by_cases c8 : (bt a0 x6_1) > 126
       ·
        rw [if_pos c8] at H
        have c8b0 : decide (126 < (bt a0 x6_1)) = true := decide_eq_true c8
        clear c8
        obtain rfl := Option.some.inj H
        have p5 : 0 ≤ (x6_1 : Int) := of_decide_eq_true (by first | (with_reducible assumption) | assumption)
        have q5 : x6_1 < (a0.size : Int) := of_decide_eq_true (by first | (with_reducible assumption) | assumption)
        have hx5 := bt_at a0 x6_1
        replace p5 := eq_true p5
        replace q5 := eq_true q5
        have p7 : 0 ≤ (x6_1 : Int) := of_decide_eq_true (by first | (with_reducible assumption) | assumption)
        have q7 : x6_1 < (a0.size : Int) := of_decide_eq_true (by first | (with_reducible assumption) | assumption)
        have hx7 := bt_at a0 x6_1
        replace p7 := eq_true p7
        replace q7 := eq_true q7
        go_wp2
        go_ret
        exact ⟨by first | rfl | (simp; done) | (simp [*]; done), by repeat (first | exact Drawn0.refl _ | apply Drawn0.step)⟩
       ·
        rw [if_neg c8] at H
        have c8b0 : decide (126 < (bt a0 x6_1)) = false := decide_eq_false c8
        clear c8
        have H' := Aside0.mk H
        clear H
        have p5 : 0 ≤ (x6_1 : Int) := of_decide_eq_true (by first | (with_reducible assumption) | assumption)
        have q5 : x6_1 < (a0.size : Int) := of_decide_eq_true (by first | (with_reducible assumption) | assumption)
        have hx5 := bt_at a0 x6_1
        replace p5 := eq_true p5
        replace q5 := eq_true q5
        have p7 : 0 ≤ (x6_1 : Int) := of_decide_eq_true (by first | (with_reducible assumption) | assumption)
        have q7 : x6_1 < (a0.size : Int) := of_decide_eq_true (by first | (with_reducible assumption) | assumption)
        have hx7 := bt_at a0 x6_1
        replace p7 := eq_true p7
        replace q7 := eq_true q7
        go_wp2
        go_roundg k1
        case measure => have := HK1.out; omega
        case rel => exact ⟨(wrap64 (x6_1 + 1)), (by first | rfl | (simp; done) | (simp [*]; done)), H', ⟨by have := HK1.out; omega⟩, by repeat (first | exact Drawn0.refl _ | apply Drawn0.step)⟩
     ·
      rw [if_neg c4] at H
      exact absurd H (by simp)
    ·
     rw [if_neg c3] at H
     exact absurd H (by simp)
   ·
    rw [if_neg c2] at H
    have c2b0 : decide (x6_1 < (a0.size : Int)) = false := decide_eq_false c2
    clear c2
    obtain rfl := Option.some.inj H
    go_wp2
    go_ret
    exact ⟨by first | rfl | (simp; done) | (simp [*]; done), by repeat (first | exact Drawn0.refl _ | apply Drawn0.step)⟩

end Go.Proofs.YtdcbkeihgbekdaaDoor.Q

namespace Go.Proofs.YtdcbkeihgbekdaaDoor.Q
open Go.RowKit Go.Proofs.YtdcbkeihgbekdaaDoor.Turn Go.Proofs.YtdcbkeihgbekdaaDoorW.PrintWords Go.Proofs.YtdcbkeihgbekdaaDoorW.PrintLast Go.Proofs.YtdcbkeihgbekdaaDoorW.PrintMore
attribute [local go_sem] max2_int min2_int max_two min_two max_three min_three max_four min_four   -- for this text's walks alone
set_option linter.unusedVariables false
set_option linter.unusedSimpArgs false

/-! ### stringslite_HasPrefix: function 67 -/
def stringslite_HasPrefix.f (a0 : ByteArray) (a1 : ByteArray) : Option (Bool) := if (a0.size : Int) ≥ (a1.size : Int) then (if 0 ≤ (a1.size : Int) then (if (a1.size : Int) ≤ (a0.size : Int) then (some ((a0.extract 0 ((a1.size : Int) : Int).toNat).toList == a1.toList)) else (none)) else (none)) else (some false)
set_option maxHeartbeats 8000000 in
set_option maxRecDepth 100000 in
theorem stringslite_HasPrefix.calls (a0 : ByteArray) (a1 : ByteArray) (r : Bool) (w : World) (h : stringslite_HasPrefix.f a0 a1 = some r) :
  Calls Tryd.prog 67 #[.string a0, .string a1] w fun e w' => e = .returned (.bool r) ∧ Drawn0 w w' := by
 have H : (if (a0.size : Int) ≥ (a1.size : Int) then (if 0 ≤ (a1.size : Int) then (if (a1.size : Int) ≤ (a0.size : Int) then (some ((a0.extract 0 ((a1.size : Int) : Int).toNat).toList == a1.toList)) else (none)) else (none)) else (some false)) = some r := h
 clear h
 by_cases c3 : (a0.size : Int) ≥ (a1.size : Int)
 ·
  rw [if_pos c3] at H
  have c3b0 : decide ((a1.size : Int) ≤ (a0.size : Int)) = true := decide_eq_true c3
  have c3b1 : decide (a1.size ≤ a0.size) = true := decide_eq_true (Int.ofNat_le.mp c3)
  clear c3
  by_cases c4 : 0 ≤ (a1.size : Int)
  ·
   rw [if_pos c4] at H
   have c4b0 := eq_true c4
   have c4b1 : decide (0 ≤ (a1.size : Int)) = true := decide_eq_true c4
   clear c4
   by_cases c5 : (a1.size : Int) ≤ (a0.size : Int)
   ·
    rw [if_pos c5] at H
    have c5b0 := eq_true c5
    have c5b1 : decide ((a1.size : Int) ≤ (a0.size : Int)) = true := decide_eq_true c5
    clear c5
    obtain rfl := Option.some.inj H
    go_enter Tryd.func67, Tryd.ntmps67
    go_wp2
    go_ret
    exact ⟨by first | rfl | (simp; done) | (simp [*]; done), by repeat (first | exact Drawn0.refl _ | apply Drawn0.step)⟩
   ·
    rw [if_neg c5] at H
    exact absurd H (by simp)
  ·
   rw [if_neg c4] at H
   exact absurd H (by simp)
 ·
  rw [if_neg c3] at H
  have c3b0 : decide ((a1.size : Int) ≤ (a0.size : Int)) = false := decide_eq_false c3
  have c3b1 : decide (a1.size ≤ a0.size) = false := decide_eq_false (fun h => c3 (Int.ofNat_le.mpr h))
  clear c3
  obtain rfl := Option.some.inj H
  go_enter Tryd.func67, Tryd.ntmps67
  go_wp2
  go_ret
  exact ⟨by first | rfl | (simp; done) | (simp [*]; done), by repeat (first | exact Drawn0.refl _ | apply Drawn0.step)⟩

end Go.Proofs.YtdcbkeihgbekdaaDoor.Q

namespace Go.Proofs.YtdcbkeihgbekdaaDoor.Q
open Go.RowKit Go.Proofs.YtdcbkeihgbekdaaDoor.Turn Go.Proofs.YtdcbkeihgbekdaaDoorW.PrintWords Go.Proofs.YtdcbkeihgbekdaaDoorW.PrintLast Go.Proofs.YtdcbkeihgbekdaaDoorW.PrintMore
attribute [local go_sem] max2_int min2_int max_two min_two max_three min_three max_four min_four   -- for this text's walks alone
set_option linter.unusedVariables false
set_option linter.unusedSimpArgs false

/-! ### stringslite_CutPrefix: function 51 -/
def stringslite_CutPrefix.f (a0 : ByteArray) (a1 : ByteArray) : Option (ByteArray × Bool) := (stringslite_HasPrefix.f a0 a1).bind fun t109 => (if t109 = true then (if 0 ≤ (a1.size : Int) then (if (a1.size : Int) ≤ (a0.size : Int) then (some (a0.extract ((a1.size : Int) : Int).toNat a0.size, true)) else (none)) else (none)) else (some (a0, false)))
set_option maxHeartbeats 8000000 in
set_option maxRecDepth 100000 in
theorem stringslite_CutPrefix.calls (a0 : ByteArray) (a1 : ByteArray) (r1 : ByteArray) (r2 : Bool) (w : World) (h : stringslite_CutPrefix.f a0 a1 = some (r1, r2)) :
  Calls Tryd.prog 51 #[.string a0, .string a1] w fun e w' => e = .returned (.tuple #[.string r1, .bool r2]) ∧ Drawn0 w w' := by
 have H : ((stringslite_HasPrefix.f a0 a1).bind fun t109 => (if t109 = true then (if 0 ≤ (a1.size : Int) then (if (a1.size : Int) ≤ (a0.size : Int) then (some (a0.extract ((a1.size : Int) : Int).toNat a0.size, true)) else (none)) else (none)) else (some (a0, false)))) = some (r1, r2) := h
 clear h
 replace H := Option.bind_eq_some_iff.mp H
 obtain ⟨t109, A30, H⟩ := H
 replace H : (if t109 = true then (if 0 ≤ (a1.size : Int) then (if (a1.size : Int) ≤ (a0.size : Int) then (some (a0.extract ((a1.size : Int) : Int).toNat a0.size, true)) else (none)) else (none)) else (some (a0, false))) = some (r1, r2) := H
 have A3 := Aside0.mk A30
 clear A30
 by_cases c4 : t109 = true
 ·
  subst c4
  have H1 : (if 0 ≤ (a1.size : Int) then (if (a1.size : Int) ≤ (a0.size : Int) then (some (a0.extract ((a1.size : Int) : Int).toNat a0.size, true)) else (none)) else (none)) = some (r1, r2) := by rw [if_pos rfl] at H; exact H
  clear H
  have H := H1
  clear H1
  by_cases c5 : 0 ≤ (a1.size : Int)
  ·
   rw [if_pos c5] at H
   have c5b0 := eq_true c5
   have c5b1 : decide (0 ≤ (a1.size : Int)) = true := decide_eq_true c5
   clear c5
   by_cases c6 : (a1.size : Int) ≤ (a0.size : Int)
   ·
    rw [if_pos c6] at H
    have c6b0 := eq_true c6
    have c6b1 : decide ((a1.size : Int) ≤ (a0.size : Int)) = true := decide_eq_true c6
    clear c6
    simp only [Option.some.injEq, Prod.mk.injEq] at H
    obtain ⟨rfl, rfl⟩ := H
    go_enter Tryd.func51, Tryd.ntmps51
    go_wp2_with (first | ((with_reducible refine gate_callee (f := 67) rfl ?_); refine goesL_ (some 8) rfl rfl Tryd.func67 (by kernel_rfl) rfl #[.string a0, .string a1] rfl (by (try simp only [List.map_toArray, List.map_cons, List.map_nil]); first | done | rfl | (simp only [List.length_drop, List.length_take]; rfl)) ?_; (with_reducible refine (stringslite_HasPrefix.calls a0 a1 true _ A3.out).mono ?_); rintro e w' ⟨rfl, ⟨nd, rfl⟩⟩; refine ⟨_, rfl, ?_⟩))
    go_ret2
    exact ⟨by first | rfl | (simp; done) | (simp [*]; done), by repeat (first | exact Drawn0.refl _ | apply Drawn0.step)⟩
   ·
    rw [if_neg c6] at H
    exact absurd H (by simp)
  ·
   rw [if_neg c5] at H
   exact absurd H (by simp)
 ·
  replace c4 := Bool.eq_false_iff.mpr c4
  subst c4
  have H1 : (some (a0, false)) = some (r1, r2) := by rw [if_neg (show ¬ (false = true) by decide)] at H; exact H
  clear H
  have H := H1
  clear H1
  simp only [Option.some.injEq, Prod.mk.injEq] at H
  obtain ⟨rfl, rfl⟩ := H
  go_enter Tryd.func51, Tryd.ntmps51
  go_wp2_with (first | ((with_reducible refine gate_callee (f := 67) rfl ?_); refine goesL_ (some 8) rfl rfl Tryd.func67 (by kernel_rfl) rfl #[.string a0, .string a1] rfl (by (try simp only [List.map_toArray, List.map_cons, List.map_nil]); first | done | rfl | (simp only [List.length_drop, List.length_take]; rfl)) ?_; (with_reducible refine (stringslite_HasPrefix.calls a0 a1 false _ A3.out).mono ?_); rintro e w' ⟨rfl, ⟨nd, rfl⟩⟩; refine ⟨_, rfl, ?_⟩))
  go_ret2
  exact ⟨by first | rfl | (simp; done) | (simp [*]; done), by repeat (first | exact Drawn0.refl _ | apply Drawn0.step)⟩

end Go.Proofs.YtdcbkeihgbekdaaDoor.Q

namespace Go.Proofs.YtdcbkeihgbekdaaDoor.Q
open Go.RowKit Go.Proofs.YtdcbkeihgbekdaaDoor.Turn Go.Proofs.YtdcbkeihgbekdaaDoorW.PrintWords Go.Proofs.YtdcbkeihgbekdaaDoorW.PrintLast Go.Proofs.YtdcbkeihgbekdaaDoorW.PrintMore
attribute [local go_sem] max2_int min2_int max_two min_two max_three min_three max_four min_four   -- for this text's walks alone
set_option linter.unusedVariables false
set_option linter.unusedSimpArgs false

/-! ### strings_CutPrefix: function 35 -/
def strings_CutPrefix.f (a0 : ByteArray) (a1 : ByteArray) : Option (ByteArray × Bool) := (stringslite_CutPrefix.f a0 a1).bind fun bt110 => (some (bt110.1, bt110.2))
set_option maxHeartbeats 8000000 in
set_option maxRecDepth 100000 in
theorem strings_CutPrefix.calls (a0 : ByteArray) (a1 : ByteArray) (r1 : ByteArray) (r2 : Bool) (w : World) (h : strings_CutPrefix.f a0 a1 = some (r1, r2)) :
  Calls Tryd.prog 35 #[.string a0, .string a1] w fun e w' => e = .returned (.tuple #[.string r1, .bool r2]) ∧ Drawn0 w w' := by
 have H : ((stringslite_CutPrefix.f a0 a1).bind fun bt110 => (some (bt110.1, bt110.2))) = some (r1, r2) := h
 clear h
 replace H := Option.bind_eq_some_iff.mp H
 obtain ⟨⟨t110, t111⟩, A30, H⟩ := H
 replace H : (some (t110, t111)) = some (r1, r2) := H
 have A3 := Aside0.mk A30
 clear A30
 simp only [Option.some.injEq, Prod.mk.injEq] at H
 obtain ⟨rfl, rfl⟩ := H
 go_enter Tryd.func35, Tryd.ntmps35
 go_wp2_with (first | ((with_reducible refine gate_callee (f := 51) rfl ?_); refine goesL_ (some 8) rfl rfl Tryd.func51 (by kernel_rfl) rfl #[.string a0, .string a1] rfl (by (try simp only [List.map_toArray, List.map_cons, List.map_nil]); first | done | rfl | (simp only [List.length_drop, List.length_take]; rfl)) ?_; (with_reducible refine (stringslite_CutPrefix.calls a0 a1 t110 t111 _ A3.out).mono ?_); rintro e w' ⟨rfl, ⟨nd, rfl⟩⟩; refine ⟨_, rfl, ?_⟩))
 go_ret2
 exact ⟨by first | rfl | (simp; done) | (simp [*]; done), by repeat (first | exact Drawn0.refl _ | apply Drawn0.step)⟩

end Go.Proofs.YtdcbkeihgbekdaaDoor.Q

namespace Go.Proofs.YtdcbkeihgbekdaaDoor.Q
open Go.RowKit Go.Proofs.YtdcbkeihgbekdaaDoor.Turn Go.Proofs.YtdcbkeihgbekdaaDoorW.PrintWords Go.Proofs.YtdcbkeihgbekdaaDoorW.PrintLast Go.Proofs.YtdcbkeihgbekdaaDoorW.PrintMore
attribute [local go_sem] max2_int min2_int max_two min_two max_three min_three max_four min_four   -- for this text's walks alone
set_option linter.unusedVariables false
set_option linter.unusedSimpArgs false

/-! ### reply_ends: function 43 -/
def reply_ends.f (a0 : Int) (a1 : ByteArray) : Option (ByteArray × Bool) := (quad_Num.f a0).bind fun t112 => (if a1.toList = t112.toList then (some ((⟨#[]⟩ : ByteArray), true)) else (if t112.size + 1 ≤ 9223372036854775807 then ((strings_CutPrefix.f a1 (t112 ++ (⟨#[32]⟩ : ByteArray))).bind fun bt113 => (some (bt113.1, bt113.2))) else (none)))
set_option maxHeartbeats 8000000 in
set_option maxRecDepth 100000 in
theorem reply_ends.calls (a0 : Int) (a1 : ByteArray) (r1 : ByteArray) (r2 : Bool) (w : World) (h : reply_ends.f a0 a1 = some (r1, r2)) :
  Calls Tryd.prog 43 #[.int .i64 a0, .string a1] w fun e w' => e = .returned (.tuple #[.string r1, .bool r2]) ∧ Below w.heap.size w w' := by
 have HB := Aside0.mk (Below.refl w.heap.size w)
 have H : ((quad_Num.f a0).bind fun t112 => (if a1.toList = t112.toList then (some ((⟨#[]⟩ : ByteArray), true)) else (if t112.size + 1 ≤ 9223372036854775807 then ((strings_CutPrefix.f a1 (t112 ++ (⟨#[32]⟩ : ByteArray))).bind fun bt113 => (some (bt113.1, bt113.2))) else (none)))) = some (r1, r2) := h
 clear h
 replace H := Option.bind_eq_some_iff.mp H
 obtain ⟨t112, A30, H⟩ := H
 replace H : (if a1.toList = t112.toList then (some ((⟨#[]⟩ : ByteArray), true)) else (if t112.size + 1 ≤ 9223372036854775807 then ((strings_CutPrefix.f a1 (t112 ++ (⟨#[32]⟩ : ByteArray))).bind fun bt113 => (some (bt113.1, bt113.2))) else (none))) = some (r1, r2) := H
 have A3 := Aside0.mk A30
 clear A30
 by_cases c4 : a1.toList = t112.toList
 ·
  rw [if_pos c4] at H
  have c4b0 : (a1.toList == t112.toList) = true := beq_iff_eq.mpr c4
  have c4b1 : (a1.toList != t112.toList) = false := bne_eq_false_iff_eq.mpr c4
  clear c4
  simp only [Option.some.injEq, Prod.mk.injEq] at H
  obtain ⟨rfl, rfl⟩ := H
  go_enter Tryd.func43, Tryd.ntmps43
  go_wp2_with (first | ((with_reducible refine gate_callee (f := 38) rfl ?_); refine goesL_ (some 8) rfl rfl Tryd.func38 (by kernel_rfl) rfl #[.int .i64 a0] rfl (by (try simp only [List.map_toArray, List.map_cons, List.map_nil]); first | done | rfl | (simp only [List.length_drop, List.length_take]; rfl)) ?_; (with_reducible refine (quad_Num.calls a0 t112 _ A3.out).mono ?_); rintro e w5 ⟨rfl, hb⟩; refine ⟨_, rfl, ?_⟩; have n0_ := Aside0.mk (below_step (by repeat (first | (with_reducible first | exact HB.out | apply below_alloc | apply pw_below_drewN | apply below_drew1) | exact HB.out)) hb); clear HB; have HB := n0_; clear n0_; (try clear hb); (try clear hb2); (try clear hk); (try clear hi)))
  go_ret2
  exact ⟨by first | rfl | (simp [errW_none, errW_some] <;> rfl) | (simp [*, errW_none, errW_some] <;> rfl), by repeat (first | (with_reducible first | exact HB.out | apply below_alloc | apply pw_below_drewN | apply below_drew1) | exact HB.out)⟩
 ·
  rw [if_neg c4] at H
  have c4b0 : (a1.toList == t112.toList) = false := beq_eq_false_iff_ne.mpr c4
  have c4b1 : (a1.toList != t112.toList) = true := bne_iff_ne.mpr c4
  by_cases c6 : t112.size + 1 ≤ 9223372036854775807
  ·
   rw [if_pos c6] at H
   have c6b0 := eq_true c6
   have c6b1 : decide (t112.size + 1 ≤ 9223372036854775807) = true := decide_eq_true c6
   try have c6b2 : (9223372036854775807 < t112.size + 1) = False := eq_false (Nat.not_lt.2 c6)
   replace H := Option.bind_eq_some_iff.mp H
   obtain ⟨⟨t113, t114⟩, A70, H⟩ := H
   replace H : (some (t113, t114)) = some (r1, r2) := H
   have A7 := Aside0.mk A70
   clear A70
   simp only [Option.some.injEq, Prod.mk.injEq] at H
   obtain ⟨rfl, rfl⟩ := H
   go_enter Tryd.func43, Tryd.ntmps43
   go_wp2_with (first | ((with_reducible refine gate_callee (f := 38) rfl ?_); refine goesL_ (some 8) rfl rfl Tryd.func38 (by kernel_rfl) rfl #[.int .i64 a0] rfl (by (try simp only [List.map_toArray, List.map_cons, List.map_nil]); first | done | rfl | (simp only [List.length_drop, List.length_take]; rfl)) ?_; (with_reducible refine (quad_Num.calls a0 t112 _ A3.out).mono ?_); rintro e w8 ⟨rfl, hb⟩; refine ⟨_, rfl, ?_⟩; have n0_ := Aside0.mk (below_step (by repeat (first | (with_reducible first | exact HB.out | apply below_alloc | apply pw_below_drewN | apply below_drew1) | exact HB.out)) hb); clear HB; have HB := n0_; clear n0_; (try clear hb); (try clear hb2); (try clear hk); (try clear hi)) | ((with_reducible refine gate_callee (f := 35) rfl ?_); refine goesL_ (some 15) rfl rfl Tryd.func35 (by kernel_rfl) rfl #[.string a1, .string (t112 ++ (⟨#[32]⟩ : ByteArray))] rfl (by (try simp only [List.map_toArray, List.map_cons, List.map_nil]); first | done | rfl | (simp only [List.length_drop, List.length_take]; rfl)) ?_; (with_reducible refine (strings_CutPrefix.calls a1 (t112 ++ (⟨#[32]⟩ : ByteArray)) t113 t114 _ A7.out).mono ?_); rintro e w' ⟨rfl, ⟨nd, rfl⟩⟩; refine ⟨_, rfl, ?_⟩))
   go_ret2
   exact ⟨by first | rfl | (simp [errW_none, errW_some] <;> rfl) | (simp [*, errW_none, errW_some] <;> rfl), by repeat (first | (with_reducible first | exact HB.out | apply below_alloc | apply pw_below_drewN | apply below_drew1) | exact HB.out)⟩
  ·
   rw [if_neg c6] at H
   exact absurd H (by simp)

end Go.Proofs.YtdcbkeihgbekdaaDoor.Q

namespace Go.Proofs.YtdcbkeihgbekdaaDoor.Q
open Go.RowKit Go.Proofs.YtdcbkeihgbekdaaDoor.Turn Go.Proofs.YtdcbkeihgbekdaaDoorW.PrintWords Go.Proofs.YtdcbkeihgbekdaaDoorW.PrintLast Go.Proofs.YtdcbkeihgbekdaaDoorW.PrintMore
attribute [local go_sem] max2_int min2_int max_two min_two max_three min_three max_four min_four   -- for this text's walks alone
set_option linter.unusedVariables false
set_option linter.unusedSimpArgs false

/-! ### reply_may: function 27 -/
def reply_may.f (k : Nat) (a0 : Int) (a1 : Int) (a2 : Int) (a3 : ByteArray) : Option (Bool) := (reply_ends.f a0 a3).bind fun bt115 => ((cmd_Clean.f k a3).bind fun t117 => (if t117 = true then (if (a3.size : Int) ≤ 500 then (if a1 = 0 then (some true) else (if a1 = (wrap64 (a2 - 1)) then (some true) else (some (!bt115.2)))) else (some false)) else (some false)))
theorem reply_may.mono : ∀ a0 a1 a2 a3 k, LeO (reply_may.f k a0 a1 a2 a3) (reply_may.f (k + 1) a0 a1 a2 a3) := by
 intro a0 a1 a2 a3 k
 unfold reply_may.f
 repeat' first
   | (with_reducible exact cmd_Clean.mono _ _)
   | (with_reducible exact LeO.refl _)
   | (with_reducible exact LeO.none _)
   | (with_reducible refine LeO.ite ?_ ?_)
   | (with_reducible refine LeO.bind ?_ (fun _ => ?_))
   | exact cmd_Clean.mono _ _
   | exact LeO.none _
   | refine LeO.ite ?_ ?_
   | refine LeO.bind ?_ (fun _ => ?_)
set_option maxHeartbeats 8000000 in
set_option maxRecDepth 100000 in
theorem reply_may.calls (k : Nat) (a0 : Int) (a1 : Int) (a2 : Int) (a3 : ByteArray) (r : Bool) (w : World) (h : reply_may.f k a0 a1 a2 a3 = some r) :
  Calls Tryd.prog 27 #[.int .i64 a0, .int .i64 a1, .int .i64 a2, .string a3] w fun e w' => e = .returned (.bool r) ∧ Below w.heap.size w w' := by
 have HB := Aside0.mk (Below.refl w.heap.size w)
 have H : ((reply_ends.f a0 a3).bind fun bt115 => ((cmd_Clean.f k a3).bind fun t117 => (if t117 = true then (if (a3.size : Int) ≤ 500 then (if a1 = 0 then (some true) else (if a1 = (wrap64 (a2 - 1)) then (some true) else (some (!bt115.2)))) else (some false)) else (some false)))) = some r := h
 clear h
 replace H := Option.bind_eq_some_iff.mp H
 obtain ⟨⟨t115, t116⟩, A50, H⟩ := H
 replace H : ((cmd_Clean.f k a3).bind fun t117 => (if t117 = true then (if (a3.size : Int) ≤ 500 then (if a1 = 0 then (some true) else (if a1 = (wrap64 (a2 - 1)) then (some true) else (some (!t116)))) else (some false)) else (some false))) = some r := H
 have A5 := Aside0.mk A50
 clear A50
 replace H := Option.bind_eq_some_iff.mp H
 obtain ⟨t117, A60, H⟩ := H
 replace H : (if t117 = true then (if (a3.size : Int) ≤ 500 then (if a1 = 0 then (some true) else (if a1 = (wrap64 (a2 - 1)) then (some true) else (some (!t116)))) else (some false)) else (some false)) = some r := H
 have A6 := Aside0.mk A60
 clear A60
 by_cases c7 : t117 = true
 ·
  subst c7
  have H1 : (if (a3.size : Int) ≤ 500 then (if a1 = 0 then (some true) else (if a1 = (wrap64 (a2 - 1)) then (some true) else (some (!t116)))) else (some false)) = some r := by rw [if_pos rfl] at H; exact H
  clear H
  have H := H1
  clear H1
  by_cases c8 : (a3.size : Int) ≤ 500
  ·
   rw [if_pos c8] at H
   have c8b0 : decide ((a3.size : Int) ≤ 500) = true := decide_eq_true c8
   have c8b1 : decide (a3.size ≤ 500) = true := decide_eq_true (by omega)
   clear c8
   by_cases c9 : a1 = 0
   ·
    rw [if_pos c9] at H
    have c9b0 : (a1 == 0) = true := beq_iff_eq.mpr c9
    have c9b1 : (a1 != 0) = false := bne_eq_false_iff_eq.mpr c9
    clear c9
    obtain rfl := Option.some.inj H
    go_enter Tryd.func27, Tryd.ntmps27
    go_wp2_with (first | ((with_reducible refine gate_callee (f := 43) rfl ?_); refine goesL_ (some 14) rfl rfl Tryd.func43 (by kernel_rfl) rfl #[.int .i64 a0, .string a3] rfl (by (try simp only [List.map_toArray, List.map_cons, List.map_nil]); first | done | rfl | (simp only [List.length_drop, List.length_take]; rfl)) ?_; (with_reducible refine (reply_ends.calls a0 a3 t115 t116 _ A5.out).mono ?_); rintro e w10 ⟨rfl, hb⟩; refine ⟨_, rfl, ?_⟩; have n0_ := Aside0.mk (below_step (by repeat (first | (with_reducible first | exact HB.out | apply below_alloc | apply pw_below_drewN | apply below_drew1) | exact HB.out)) hb); clear HB; have HB := n0_; clear n0_; (try clear hb); (try clear hb2); (try clear hk); (try clear hi)) | ((with_reducible refine gate_callee (f := 26) rfl ?_); refine goesL_ (some 18) rfl rfl Tryd.func26 (by kernel_rfl) rfl #[.string a3] rfl (by (try simp only [List.map_toArray, List.map_cons, List.map_nil]); first | done | rfl | (simp only [List.length_drop, List.length_take]; rfl)) ?_; (with_reducible refine (cmd_Clean.calls k a3 true _ A6.out).mono ?_); rintro e w' ⟨rfl, ⟨nd, rfl⟩⟩; refine ⟨_, rfl, ?_⟩))
    go_ret
    exact ⟨by first | rfl | (simp [errW_none, errW_some] <;> rfl) | (simp [*, errW_none, errW_some] <;> rfl), by repeat (first | (with_reducible first | exact HB.out | apply below_alloc | apply pw_below_drewN | apply below_drew1) | exact HB.out)⟩
   ·
    rw [if_neg c9] at H
    have c9b0 : (a1 == 0) = false := beq_eq_false_iff_ne.mpr c9
    have c9b1 : (a1 != 0) = true := bne_iff_ne.mpr c9
    by_cases c11 : a1 = (wrap64 (a2 - 1))
    ·
     rw [if_pos c11] at H
     have c11b0 : (a1 == (wrap64 (a2 - 1))) = true := beq_iff_eq.mpr c11
     have c11b1 : (a1 != (wrap64 (a2 - 1))) = false := bne_eq_false_iff_eq.mpr c11
     clear c11
     obtain rfl := Option.some.inj H
     go_enter Tryd.func27, Tryd.ntmps27
     go_wp2_with (first | ((with_reducible refine gate_callee (f := 43) rfl ?_); refine goesL_ (some 14) rfl rfl Tryd.func43 (by kernel_rfl) rfl #[.int .i64 a0, .string a3] rfl (by (try simp only [List.map_toArray, List.map_cons, List.map_nil]); first | done | rfl | (simp only [List.length_drop, List.length_take]; rfl)) ?_; (with_reducible refine (reply_ends.calls a0 a3 t115 t116 _ A5.out).mono ?_); rintro e w12 ⟨rfl, hb⟩; refine ⟨_, rfl, ?_⟩; have n0_ := Aside0.mk (below_step (by repeat (first | (with_reducible first | exact HB.out | apply below_alloc | apply pw_below_drewN | apply below_drew1) | exact HB.out)) hb); clear HB; have HB := n0_; clear n0_; (try clear hb); (try clear hb2); (try clear hk); (try clear hi)) | ((with_reducible refine gate_callee (f := 26) rfl ?_); refine goesL_ (some 18) rfl rfl Tryd.func26 (by kernel_rfl) rfl #[.string a3] rfl (by (try simp only [List.map_toArray, List.map_cons, List.map_nil]); first | done | rfl | (simp only [List.length_drop, List.length_take]; rfl)) ?_; (with_reducible refine (cmd_Clean.calls k a3 true _ A6.out).mono ?_); rintro e w' ⟨rfl, ⟨nd, rfl⟩⟩; refine ⟨_, rfl, ?_⟩))
     go_ret
     exact ⟨by first | rfl | (simp [errW_none, errW_some] <;> rfl) | (simp [*, errW_none, errW_some] <;> rfl), by repeat (first | (with_reducible first | exact HB.out | apply below_alloc | apply pw_below_drewN | apply below_drew1) | exact HB.out)⟩
    ·
     rw [if_neg c11] at H
     have c11b0 : (a1 == (wrap64 (a2 - 1))) = false := beq_eq_false_iff_ne.mpr c11
     have c11b1 : (a1 != (wrap64 (a2 - 1))) = true := bne_iff_ne.mpr c11
     obtain rfl := Option.some.inj H
     go_enter Tryd.func27, Tryd.ntmps27
     go_wp2_with (first | ((with_reducible refine gate_callee (f := 43) rfl ?_); refine goesL_ (some 14) rfl rfl Tryd.func43 (by kernel_rfl) rfl #[.int .i64 a0, .string a3] rfl (by (try simp only [List.map_toArray, List.map_cons, List.map_nil]); first | done | rfl | (simp only [List.length_drop, List.length_take]; rfl)) ?_; (with_reducible refine (reply_ends.calls a0 a3 t115 t116 _ A5.out).mono ?_); rintro e w13 ⟨rfl, hb⟩; refine ⟨_, rfl, ?_⟩; have n0_ := Aside0.mk (below_step (by repeat (first | (with_reducible first | exact HB.out | apply below_alloc | apply pw_below_drewN | apply below_drew1) | exact HB.out)) hb); clear HB; have HB := n0_; clear n0_; (try clear hb); (try clear hb2); (try clear hk); (try clear hi)) | ((with_reducible refine gate_callee (f := 26) rfl ?_); refine goesL_ (some 18) rfl rfl Tryd.func26 (by kernel_rfl) rfl #[.string a3] rfl (by (try simp only [List.map_toArray, List.map_cons, List.map_nil]); first | done | rfl | (simp only [List.length_drop, List.length_take]; rfl)) ?_; (with_reducible refine (cmd_Clean.calls k a3 true _ A6.out).mono ?_); rintro e w' ⟨rfl, ⟨nd, rfl⟩⟩; refine ⟨_, rfl, ?_⟩))
     go_ret
     exact ⟨by first | rfl | (simp [errW_none, errW_some] <;> rfl) | (simp [*, errW_none, errW_some] <;> rfl), by repeat (first | (with_reducible first | exact HB.out | apply below_alloc | apply pw_below_drewN | apply below_drew1) | exact HB.out)⟩
  ·
   rw [if_neg c8] at H
   have c8b0 : decide ((a3.size : Int) ≤ 500) = false := decide_eq_false c8
   have c8b1 : decide (a3.size ≤ 500) = false := decide_eq_false (by omega)
   clear c8
   obtain rfl := Option.some.inj H
   go_enter Tryd.func27, Tryd.ntmps27
   go_wp2_with (first | ((with_reducible refine gate_callee (f := 43) rfl ?_); refine goesL_ (some 14) rfl rfl Tryd.func43 (by kernel_rfl) rfl #[.int .i64 a0, .string a3] rfl (by (try simp only [List.map_toArray, List.map_cons, List.map_nil]); first | done | rfl | (simp only [List.length_drop, List.length_take]; rfl)) ?_; (with_reducible refine (reply_ends.calls a0 a3 t115 t116 _ A5.out).mono ?_); rintro e w14 ⟨rfl, hb⟩; refine ⟨_, rfl, ?_⟩; have n0_ := Aside0.mk (below_step (by repeat (first | (with_reducible first | exact HB.out | apply below_alloc | apply pw_below_drewN | apply below_drew1) | exact HB.out)) hb); clear HB; have HB := n0_; clear n0_; (try clear hb); (try clear hb2); (try clear hk); (try clear hi)) | ((with_reducible refine gate_callee (f := 26) rfl ?_); refine goesL_ (some 18) rfl rfl Tryd.func26 (by kernel_rfl) rfl #[.string a3] rfl (by (try simp only [List.map_toArray, List.map_cons, List.map_nil]); first | done | rfl | (simp only [List.length_drop, List.length_take]; rfl)) ?_; (with_reducible refine (cmd_Clean.calls k a3 true _ A6.out).mono ?_); rintro e w' ⟨rfl, ⟨nd, rfl⟩⟩; refine ⟨_, rfl, ?_⟩))
   go_ret
   exact ⟨by first | rfl | (simp [errW_none, errW_some] <;> rfl) | (simp [*, errW_none, errW_some] <;> rfl), by repeat (first | (with_reducible first | exact HB.out | apply below_alloc | apply pw_below_drewN | apply below_drew1) | exact HB.out)⟩
 ·
  replace c7 := Bool.eq_false_iff.mpr c7
  subst c7
  have H1 : (some false) = some r := by rw [if_neg (show ¬ (false = true) by decide)] at H; exact H
  clear H
  have H := H1
  clear H1
  obtain rfl := Option.some.inj H
  go_enter Tryd.func27, Tryd.ntmps27
  go_wp2_with (first | ((with_reducible refine gate_callee (f := 43) rfl ?_); refine goesL_ (some 14) rfl rfl Tryd.func43 (by kernel_rfl) rfl #[.int .i64 a0, .string a3] rfl (by (try simp only [List.map_toArray, List.map_cons, List.map_nil]); first | done | rfl | (simp only [List.length_drop, List.length_take]; rfl)) ?_; (with_reducible refine (reply_ends.calls a0 a3 t115 t116 _ A5.out).mono ?_); rintro e w15 ⟨rfl, hb⟩; refine ⟨_, rfl, ?_⟩; have n0_ := Aside0.mk (below_step (by repeat (first | (with_reducible first | exact HB.out | apply below_alloc | apply pw_below_drewN | apply below_drew1) | exact HB.out)) hb); clear HB; have HB := n0_; clear n0_; (try clear hb); (try clear hb2); (try clear hk); (try clear hi)) | ((with_reducible refine gate_callee (f := 26) rfl ?_); refine goesL_ (some 18) rfl rfl Tryd.func26 (by kernel_rfl) rfl #[.string a3] rfl (by (try simp only [List.map_toArray, List.map_cons, List.map_nil]); first | done | rfl | (simp only [List.length_drop, List.length_take]; rfl)) ?_; (with_reducible refine (cmd_Clean.calls k a3 false _ A6.out).mono ?_); rintro e w' ⟨rfl, ⟨nd, rfl⟩⟩; refine ⟨_, rfl, ?_⟩))
  go_ret
  exact ⟨by first | rfl | (simp [errW_none, errW_some] <;> rfl) | (simp [*, errW_none, errW_some] <;> rfl), by repeat (first | (with_reducible first | exact HB.out | apply below_alloc | apply pw_below_drewN | apply below_drew1) | exact HB.out)⟩

end Go.Proofs.YtdcbkeihgbekdaaDoor.Q

namespace Go.Proofs.YtdcbkeihgbekdaaDoor.Q
open Go.RowKit Go.Proofs.YtdcbkeihgbekdaaDoor.Turn Go.Proofs.YtdcbkeihgbekdaaDoorW.PrintWords Go.Proofs.YtdcbkeihgbekdaaDoorW.PrintLast Go.Proofs.YtdcbkeihgbekdaaDoorW.PrintMore
attribute [local go_sem] max2_int min2_int max_two min_two max_three min_three max_four min_four   -- for this text's walks alone
set_option linter.unusedVariables false
set_option linter.unusedSimpArgs false

/-! ### reply_May: function 13 -/
mutual
def reply_May.j0 : Nat → Int → Bool → Int → List ByteArray → Option (Bool)
 | 0, _, _, _, _ => none
 | k + 1, x3, x24, x119000, x119001 => if x24 = true then (some false) else (reply_May.l0 k x3 x119001 (x119001.length : Int) 0 x119000 x119001)
def reply_May.l0 : Nat → Int → List ByteArray → Int → Int → Int → List ByteArray → Option (Bool)
 | 0, _, _, _, _, _, _ => none
 | k + 1, x3, x26, x27, x28, x119000, x119001 => if x28 < x27 then (if 0 ≤ x28 then (if x28 < (x26.length : Int) then ((reply_may.f k x119000 x28 x3 (rdOf ByteArray.empty x26 x28)).bind fun t120 => (if t120 = true then (reply_May.l0 k x3 x26 x27 (wrap64 (x28 + 1)) x119000 x119001) else (some false))) else (none)) else (none)) else (some true)
end
def reply_May.f (k : Nat) (a0_0 : Int) (l0_1 : List ByteArray) : Option (Bool) := if a0_0 < 100 then (reply_May.j0 k (l0_1.length : Int) true a0_0 l0_1) else (if a0_0 > 599 then (reply_May.j0 k (l0_1.length : Int) true a0_0 l0_1) else (if (l0_1.length : Int) = 0 then (reply_May.j0 k (l0_1.length : Int) true a0_0 l0_1) else (reply_May.j0 k (l0_1.length : Int) (decide ((l0_1.length : Int) > 20)) a0_0 l0_1)))
theorem reply_May.mono_l : ∀ k, (∀ y0 y1 y2 y3, LeO (reply_May.j0 k y0 y1 y2 y3) (reply_May.j0 (k + 1) y0 y1 y2 y3)) ∧ (∀ y0 y1 y2 y3 y4 y5, LeO (reply_May.l0 k y0 y1 y2 y3 y4 y5) (reply_May.l0 (k + 1) y0 y1 y2 y3 y4 y5))
 | 0 => ⟨fun _ _ _ _ r h => by simp [reply_May.j0] at h, fun _ _ _ _ _ _ r h => by simp [reply_May.l0] at h⟩
 | k + 1 => by
  obtain ⟨ih0, ih1⟩ := reply_May.mono_l k
  refine ⟨?_, ?_⟩
  ·
   intro y0 y1 y2 y3
   unfold reply_May.j0
   repeat' first
   | (with_reducible exact ih0 _ _ _ _)
   | (with_reducible exact ih1 _ _ _ _ _ _)
   | (with_reducible exact reply_may.mono _ _ _ _ _)
   | (with_reducible exact LeO.refl _)
   | (with_reducible exact LeO.none _)
   | (with_reducible refine LeO.ite ?_ ?_)
   | (with_reducible refine LeO.bind ?_ (fun _ => ?_))
   | exact ih0 _ _ _ _
   | exact ih1 _ _ _ _ _ _
   | exact reply_may.mono _ _ _ _ _
   | exact LeO.none _
   | refine LeO.ite ?_ ?_
   | refine LeO.bind ?_ (fun _ => ?_)
  ·
   intro y0 y1 y2 y3 y4 y5
   unfold reply_May.l0
   repeat' first
   | (with_reducible exact ih0 _ _ _ _)
   | (with_reducible exact ih1 _ _ _ _ _ _)
   | (with_reducible exact reply_may.mono _ _ _ _ _)
   | (with_reducible exact LeO.refl _)
   | (with_reducible exact LeO.none _)
   | (with_reducible refine LeO.ite ?_ ?_)
   | (with_reducible refine LeO.bind ?_ (fun _ => ?_))
   | exact ih0 _ _ _ _
   | exact ih1 _ _ _ _ _ _
   | exact reply_may.mono _ _ _ _ _
   | exact LeO.none _
   | refine LeO.ite ?_ ?_
   | refine LeO.bind ?_ (fun _ => ?_)
theorem reply_May.mono : ∀ a0 a1 k, LeO (reply_May.f k a0 a1) (reply_May.f (k + 1) a0 a1) := by
 intro a0 a1 k
 obtain ⟨ih0, ih1⟩ := reply_May.mono_l k
 unfold reply_May.f
 repeat' first
   | (with_reducible exact ih0 _ _ _ _)
   | (with_reducible exact ih1 _ _ _ _ _ _)
   | (with_reducible exact reply_may.mono _ _ _ _ _)
   | (with_reducible exact LeO.refl _)
   | (with_reducible exact LeO.none _)
   | (with_reducible refine LeO.ite ?_ ?_)
   | (with_reducible refine LeO.bind ?_ (fun _ => ?_))
   | exact ih0 _ _ _ _
   | exact ih1 _ _ _ _ _ _
   | exact reply_may.mono _ _ _ _ _
   | exact LeO.none _
   | refine LeO.ite ?_ ?_
   | refine LeO.bind ?_ (fun _ => ?_)
set_option maxHeartbeats 8000000 in
set_option maxRecDepth 100000 in
theorem reply_May.calls (k : Nat) (a0_0 : Int) (A0_1 : Option Addr) (c0_1 : Nat) (l0_1 : List ByteArray) (r : Bool) (w : World) (hr0_1 : Kd.C Kd.string w A0_1 l0_1.length l0_1) (hc0_1 : l0_1.length ≤ c0_1) (h : reply_May.f k a0_0 l0_1 = some r) :
  Calls Tryd.prog 13 #[.agg #[.int .i64 a0_0, .slice A0_1 l0_1.length c0_1]] w fun e w' => e = .returned (.bool r) ∧ Below w.heap.size w w' := by
 have hu26 := Tryd.underlying26
 have HR0_1 := Aside0.mk hr0_1
 have HC0_1 := Aside0.mk hc0_1
 clear hr0_1 hc0_1
 have HB := Aside0.mk (Below.refl w.heap.size w)
 have H : (if a0_0 < 100 then (reply_May.j0 k (l0_1.length : Int) true a0_0 l0_1) else (if a0_0 > 599 then (reply_May.j0 k (l0_1.length : Int) true a0_0 l0_1) else (if (l0_1.length : Int) = 0 then (reply_May.j0 k (l0_1.length : Int) true a0_0 l0_1) else (reply_May.j0 k (l0_1.length : Int) (decide ((l0_1.length : Int) > 20)) a0_0 l0_1)))) = some r := h
 clear h
 have HC2 := Aside0.mk H
 clear H
 go_enter Tryd.func13, Tryd.ntmps13
 go_upto_region 2 with (first | ((with_reducible refine gate_dst (N := 1) rfl ?_); refine box_event ?hg (N := 1) ?hd (cs := #[.int .i64 a0_0, .slice A0_1 l0_1.length c0_1]) (t := 26) ?hr ?_; (case hd => rfl); (case hg => rfl); (case hr => first | (go_simp; done) | (go_simp; rfl)); intro gb118 hg w3 hbox hb; have n0_ := Aside0.mk (below_step (by repeat (first | (with_reducible first | exact HB.out | apply below_alloc | apply pw_below_drewN | apply below_drew1) | exact HB.out)) hb); have n1_ := Aside0.mk (hbox); have n2_ := Aside0.mk ((by rw [hg]; exact (below_size (by repeat (first | (with_reducible first | exact HB.out | apply below_alloc | apply pw_below_drewN | apply below_drew1) | exact HB.out))) : w.heap.size ≤ gb118)); have n3_ := Aside0.mk ((by rw [hg]; exact (below_size (by repeat (first | (with_reducible first | exact HB.out | apply below_alloc | apply pw_below_drewN | apply below_drew1) | exact HB.out))) : w.heap.size ≤ gb118)); clear HB; have HB := n0_; have BK118 := n1_; have GW118 := n2_; have GE118 := n3_; clear n0_ n1_ n2_ n3_; clear hb hbox hg; obtain ⟨hcz4_0, hcz4_1⟩ := cl_2 (.int .i64 a0_0) (.slice A0_1 l0_1.length c0_1) BK118.out; obtain ⟨hfz4_0, hfz4_1⟩ := fz_2 BK118.out))
 (try simp only [Act.put, List.setIfInBounds_toArray, List.set_cons_zero, List.set_cons_succ])
 go_cut [24] (fun v24 wc => ∃ (kq : Nat) (x24_1 : Bool), v24 = .bool x24_1 ∧ Aside0 (reply_May.j0 kq (l0_1.length : Int) x24_1 a0_0 l0_1 = some r) ∧ Aside0 (kq ≤ k) ∧ Aside0 (wc.heap[gb118]? = some (.cells #[.int .i64 a0_0, (.slice A0_1 l0_1.length c0_1)] 26 (0, 0))) ∧ Aside0 (Below w.heap.size w wc))
 case first =>
  have H := HC2.out
  clear HC2
  by_cases c5 : a0_0 < 100
  ·
   rw [if_pos c5] at H
   have c5b0 : decide (a0_0 < 100) = true := decide_eq_true c5
   clear c5
   (first | rw [c5b0] | (simp only [i64_w, i32_w]; rw [c5b0]) | skip)
   have H' := Aside0.mk H
   clear H
   have hcz6_0 : w3.cell? ⟨gb118, 0, none⟩ = some (.int .i64 a0_0) := (blk_cell BK118.out 0).trans rfl
   have hcz6_1 : w3.cell? ⟨gb118, 1, none⟩ = some (.slice A0_1 l0_1.length c0_1) := (blk_cell BK118.out 1).trans rfl
   have hfz6_0 := blk_frozen BK118.out 0
   have hfz6_1 := blk_frozen BK118.out 1
   go_wp2
   go_meet
   case rel => exact ⟨_, (true), (by first | rfl | (simp; done) | (simp [*]; done)), H', ⟨by first | omega | exact Nat.le_refl _⟩, ⟨by (with_reducible repeat (first | refine blk_drewN ?_ _ | refine blk_drew ?_ | refine blk_alloc ?_ _)); exact BK118.out⟩, ⟨by repeat (first | (with_reducible first | exact HB.out | apply below_alloc | apply pw_below_drewN | apply below_drew1 | refine below_set ?_ GE118.out) | exact HB.out)⟩⟩
  ·
   rw [if_neg c5] at H
   have c5b0 : decide (a0_0 < 100) = false := decide_eq_false c5
   clear c5
   (first | rw [c5b0] | (simp only [i64_w, i32_w]; rw [c5b0]) | skip)
   by_cases c7 : a0_0 > 599
   ·
    rw [if_pos c7] at H
    have c7b0 : decide (599 < a0_0) = true := decide_eq_true c7
    clear c7
    have H' := Aside0.mk H
    clear H
    have hcz8_0 : w3.cell? ⟨gb118, 0, none⟩ = some (.int .i64 a0_0) := (blk_cell BK118.out 0).trans rfl
    have hcz8_1 : w3.cell? ⟨gb118, 1, none⟩ = some (.slice A0_1 l0_1.length c0_1) := (blk_cell BK118.out 1).trans rfl
    have hfz8_0 := blk_frozen BK118.out 0
    have hfz8_1 := blk_frozen BK118.out 1
    go_wp2
    go_meet
    case rel => exact ⟨_, (true), (by first | rfl | (simp; done) | (simp [*]; done)), H', ⟨by first | omega | exact Nat.le_refl _⟩, ⟨by (with_reducible repeat (first | refine blk_drewN ?_ _ | refine blk_drew ?_ | refine blk_alloc ?_ _)); exact BK118.out⟩, ⟨by repeat (first | (with_reducible first | exact HB.out | apply below_alloc | apply pw_below_drewN | apply below_drew1 | refine below_set ?_ GE118.out) | exact HB.out)⟩⟩
   ·
    rw [if_neg c7] at H
    have c7b0 : decide (599 < a0_0) = false := decide_eq_false c7
    clear c7
    by_cases c9 : (l0_1.length : Int) = 0
    ·
     rw [if_pos c9] at H
     have c9b0 : ((l0_1.length : Int) == 0) = true := beq_iff_eq.mpr c9
     have c9b1 : ((l0_1.length : Int) != 0) = false := bne_eq_false_iff_eq.mpr c9
     clear c9
     have H' := Aside0.mk H
     clear H
     have hcz10_0 : w3.cell? ⟨gb118, 0, none⟩ = some (.int .i64 a0_0) := (blk_cell BK118.out 0).trans rfl
     have hcz10_1 : w3.cell? ⟨gb118, 1, none⟩ = some (.slice A0_1 l0_1.length c0_1) := (blk_cell BK118.out 1).trans rfl
     have hfz10_0 := blk_frozen BK118.out 0
     have hfz10_1 := blk_frozen BK118.out 1
     go_wp2
     go_meet
     case rel => exact ⟨_, (true), (by first | rfl | (simp; done) | (simp [*]; done)), H', ⟨by first | omega | exact Nat.le_refl _⟩, ⟨by (with_reducible repeat (first | refine blk_drewN ?_ _ | refine blk_drew ?_ | refine blk_alloc ?_ _)); exact BK118.out⟩, ⟨by repeat (first | (with_reducible first | exact HB.out | apply below_alloc | apply pw_below_drewN | apply below_drew1 | refine below_set ?_ GE118.out) | exact HB.out)⟩⟩
    ·
     rw [if_neg c9] at H
     have c9b0 : ((l0_1.length : Int) == 0) = false := beq_eq_false_iff_ne.mpr c9
     have c9b1 : ((l0_1.length : Int) != 0) = true := bne_iff_ne.mpr c9
     have c9b2 : ¬ (l0_1 = []) := fun h_ => c9 (by rw [h_]; rfl)
     have H' := Aside0.mk H
     clear H
     have hcz11_0 : w3.cell? ⟨gb118, 0, none⟩ = some (.int .i64 a0_0) := (blk_cell BK118.out 0).trans rfl
     have hcz11_1 : w3.cell? ⟨gb118, 1, none⟩ = some (.slice A0_1 l0_1.length c0_1) := (blk_cell BK118.out 1).trans rfl
     have hfz11_0 := blk_frozen BK118.out 0
     have hfz11_1 := blk_frozen BK118.out 1
     go_wp2
     go_meet
     case rel => exact ⟨_, (decide ((l0_1.length : Int) > 20)), (by first | rfl | (simp; done) | (simp [*]; done)), H', ⟨by first | omega | exact Nat.le_refl _⟩, ⟨by (with_reducible repeat (first | refine blk_drewN ?_ _ | refine blk_drew ?_ | refine blk_alloc ?_ _)); exact BK118.out⟩, ⟨by repeat (first | (with_reducible first | exact HB.out | apply below_alloc | apply pw_below_drewN | apply below_drew1 | refine below_set ?_ GE118.out) | exact HB.out)⟩⟩
 case rest =>
  clear HC2
  try clear c1
  try clear p2
  try clear c5
  try clear c5b0
  try clear c7
  try clear c7b0
  try clear c9
  try clear c9b0
  try clear c9b1
  try clear c9b2
  try clear hcz10_0
  try clear hcz10_1
  try clear hcz11_0
  try clear hcz11_1
  try clear hcz4_0
  try clear hcz4_1
  try clear hcz6_0
  try clear hcz6_1
  try clear hcz8_0
  try clear hcz8_1
  try clear hfz10_0
  try clear hfz10_1
  try clear hfz11_0
  try clear hfz11_1
  try clear hfz4_0
  try clear hfz4_1
  try clear hfz6_0
  try clear hfz6_1
  try clear hfz8_0
  try clear hfz8_1
  obtain ⟨kq, x24_1, rfl, HA, HJ1, BK118, HB⟩ := hcut
  cases kq with
  | zero => exact absurd HA.out (by simp [reply_May.j0])
  | succ kj1 =>
   have H := HA.out
   clear HA
   simp only [reply_May.j0] at H
   by_cases c12 : x24_1 = true
   ·
    subst c12
    have H1 : (some false) = some r := by rw [if_pos rfl] at H; exact H
    clear H
    have H := H1
    clear H1
    obtain rfl := Option.some.inj H
    go_wp2
    go_ret
    exact ⟨by first | rfl | (simp [errW_none, errW_some] <;> rfl) | (simp [*, errW_none, errW_some] <;> rfl), by repeat (first | (with_reducible first | exact HB.out | apply below_alloc | apply pw_below_drewN | apply below_drew1 | refine below_set ?_ GE118.out) | exact HB.out)⟩
   ·
    replace c12 := Bool.eq_false_iff.mpr c12
    subst c12
    have H1 : (reply_May.l0 kj1 (l0_1.length : Int) l0_1 (l0_1.length : Int) 0 a0_0 l0_1) = some r := by rw [if_neg (show ¬ (false = true) by decide)] at H; exact H
    clear H
    have H := H1
    clear H1
    have H' := Aside0.mk H
    clear H
    have hcz13_0 : wc.cell? ⟨gb118, 0, none⟩ = some (.int .i64 a0_0) := (blk_cell BK118.out 0).trans rfl
    have hcz13_1 : wc.cell? ⟨gb118, 1, none⟩ = some (.slice A0_1 l0_1.length c0_1) := (blk_cell BK118.out 1).trans rfl
    have hfz13_0 := blk_frozen BK118.out 0
    have hfz13_1 := blk_frozen BK118.out 1
    go_wp2
    go_loopg [28] kj1 (fun kq v28 w' => ∃ (x28_2 : Int), v28 = .int .i64 x28_2 ∧ Aside0 (reply_May.l0 kq (l0_1.length : Int) l0_1 (l0_1.length : Int) x28_2 a0_0 l0_1 = some r) ∧ Aside0 (kq ≤ kj1) ∧ Aside0 (w'.heap[gb118]? = some (.cells #[.int .i64 a0_0, (.slice A0_1 l0_1.length c0_1)] 26 (0, 0))) ∧ Aside0 (Below w.heap.size w w'))
    case atStart => exact ⟨(0), (by first | rfl | (simp; done) | (simp [*]; done)), H', ⟨Nat.le_refl _⟩, ⟨by (with_reducible repeat (first | refine blk_drewN ?_ _ | refine blk_drew ?_ | refine blk_alloc ?_ _)); exact BK118.out⟩, ⟨by repeat (first | (with_reducible first | exact HB.out | apply below_alloc | apply pw_below_drewN | apply below_drew1 | refine below_set ?_ GE118.out) | exact HB.out)⟩⟩
    case round =>
     clear H'
     try clear c1
     try clear p2
     try clear c5
     try clear c5b0
     try clear c7
     try clear c7b0
     try clear c9
     try clear c9b0
     try clear c9b1
     try clear c9b2
     try clear c12
     try clear c13
     try clear hcz10_0
     try clear hcz10_1
     try clear hcz11_0
     try clear hcz11_1
     try clear hcz13_0
     try clear hcz13_1
     try clear hcz4_0
     try clear hcz4_1
     try clear hcz6_0
     try clear hcz6_1
     try clear hcz8_0
     try clear hcz8_1
     try clear hfz10_0
     try clear hfz10_1
     try clear hfz11_0
     try clear hfz11_1
     try clear hfz13_0
     try clear hfz13_1
     try clear hfz4_0
     try clear hfz4_1
     try clear hfz6_0
     try clear hfz6_1
     try clear hfz8_0
     try clear hfz8_1
     try clear p2
     obtain ⟨x28_2, rfl, HA, HK2, BK118, HB⟩ := hrel
     cases gk with
     | zero => exact absurd HA.out (by simp [reply_May.l0])
     | succ k2 =>
      have H := HA.out
      clear HA
      simp only [reply_May.l0] at H
      by_cases c14 : x28_2 < (l0_1.length : Int)
      ·
       rw [if_pos c14] at H
       have c14b0 : decide (x28_2 < (l0_1.length : Int)) = true := decide_eq_true c14
       clear c14
       by_cases c15 : 0 ≤ x28_2
       ·
        rw [if_pos c15] at H
        have c15b0 : decide (0 ≤ x28_2) = true := decide_eq_true c15
        clear c15
        by_cases c16 : x28_2 < (l0_1.length : Int)
        ·
         rw [if_pos c16] at H
         have c16b0 : decide (x28_2 < (l0_1.length : Int)) = true := decide_eq_true c16
         clear c16
         replace H := Option.bind_eq_some_iff.mp H
         obtain ⟨t120, A170, H⟩ := H
         replace H : (if t120 = true then (reply_May.l0 k2 (l0_1.length : Int) l0_1 (l0_1.length : Int) (wrap64 (x28_2 + 1)) a0_0 l0_1) else (some false)) = some r := H
         have A17 := Aside0.mk A170
         clear A170
         by_cases c18 : t120 = true
         ·
          subst c18
          have H1 : (reply_May.l0 k2 (l0_1.length : Int) l0_1 (l0_1.length : Int) (wrap64 (x28_2 + 1)) a0_0 l0_1) = some r := by rw [if_pos rfl] at H; exact H
          clear H
          have H := H1
          clear H1
          have H' := Aside0.mk H
          clear H
          have p119 : 0 ≤ (x28_2 : Int) := of_decide_eq_true (by first | (with_reducible assumption) | assumption)
          have q119 : x28_2 < (l0_1.length : Int) := of_decide_eq_true (by first | (with_reducible assumption) | assumption)
          obtain ⟨ad119, e119, hx119_0⟩ := Kd.at_string HR0_1.out x28_2 p119 q119
          cases e119
          replace hx119_0 := (HB.out.cell (World.block_lt_of_cell? w _ hx119_0)).trans hx119_0
          replace p119 := eq_true p119
          replace q119 := eq_true q119
          have hcz19_0 : wr.cell? ⟨gb118, 0, none⟩ = some (.int .i64 a0_0) := (blk_cell BK118.out 0).trans rfl
          have hcz19_1 : wr.cell? ⟨gb118, 1, none⟩ = some (.slice (some ad119) l0_1.length c0_1) := (blk_cell BK118.out 1).trans rfl
          have hfz19_0 := blk_frozen BK118.out 0
          have hfz19_1 := blk_frozen BK118.out 1
          go_wp2_with (first | ((with_reducible refine gate_callee (f := 27) rfl ?_); refine goesL_ (some 38) rfl rfl Tryd.func27 (by kernel_rfl) rfl #[.int .i64 a0_0, .int .i64 x28_2, .int .i64 (l0_1.length : Int), .string (rdOf ByteArray.empty l0_1 x28_2)] rfl (by (try simp only [List.map_toArray, List.map_cons, List.map_nil]); first | done | rfl | (simp only [List.length_drop, List.length_take]; rfl)) ?_; (with_reducible refine (reply_may.calls k2 a0_0 x28_2 (l0_1.length : Int) (rdOf ByteArray.empty l0_1 x28_2) true _ A17.out).mono ?_); rintro e w20 ⟨rfl, hb⟩; refine ⟨_, rfl, ?_⟩; have n0_ := Aside0.mk (blk_below (g := gb118) (o := .cells #[.int .i64 a0_0, .slice (some ad119) l0_1.length c0_1] 26 (0, 0)) (by (with_reducible repeat (first | refine blk_drewN ?_ _ | refine blk_drew ?_ | refine blk_alloc ?_ _)); exact BK118.out) hb); have n1_ := Aside0.mk (below_step (by repeat (first | (with_reducible first | exact HB.out | apply below_alloc | apply pw_below_drewN | apply below_drew1 | refine below_set ?_ GE118.out) | exact HB.out)) hb); clear BK118; clear HB; have BK118 := n0_; have HB := n1_; clear n0_ n1_; (try clear hb); (try clear hb2); (try clear hk); (try clear hi)))
          go_roundg k2
          case measure => have := HJ1.out; have := HK2.out; omega
          case rel => exact ⟨(wrap64 (x28_2 + 1)), (by first | rfl | (simp; done) | (simp [*]; done)), H', ⟨by have := HJ1.out; have := HK2.out; omega⟩, ⟨by (with_reducible repeat (first | refine blk_drewN ?_ _ | refine blk_drew ?_ | refine blk_alloc ?_ _)); exact BK118.out⟩, ⟨by repeat (first | (with_reducible first | exact HB.out | apply below_alloc | apply pw_below_drewN | apply below_drew1 | refine below_set ?_ GE118.out) | exact HB.out)⟩⟩
         ·
          replace c18 := Bool.eq_false_iff.mpr c18
          subst c18
          have H1 : (some false) = some r := by rw [if_neg (show ¬ (false = true) by decide)] at H; exact H
          clear H
          have H := H1
          clear H1
          obtain rfl := Option.some.inj H
          have p119 : 0 ≤ (x28_2 : Int) := of_decide_eq_true (by first | (with_reducible assumption) | assumption)
          have q119 : x28_2 < (l0_1.length : Int) := of_decide_eq_true (by first | (with_reducible assumption) | assumption)
          obtain ⟨ad119, e119, hx119_0⟩ := Kd.at_string HR0_1.out x28_2 p119 q119
          cases e119
          replace hx119_0 := (HB.out.cell (World.block_lt_of_cell? w _ hx119_0)).trans hx119_0
          replace p119 := eq_true p119
          replace q119 := eq_true q119
          have hcz21_0 : wr.cell? ⟨gb118, 0, none⟩ = some (.int .i64 a0_0) := (blk_cell BK118.out 0).trans rfl
          have hcz21_1 : wr.cell? ⟨gb118, 1, none⟩ = some (.slice (some ad119) l0_1.length c0_1) := (blk_cell BK118.out 1).trans rfl
          have hfz21_0 := blk_frozen BK118.out 0
          have hfz21_1 := blk_frozen BK118.out 1
          go_wp2_with (first | ((with_reducible refine gate_callee (f := 27) rfl ?_); refine goesL_ (some 38) rfl rfl Tryd.func27 (by kernel_rfl) rfl #[.int .i64 a0_0, .int .i64 x28_2, .int .i64 (l0_1.length : Int), .string (rdOf ByteArray.empty l0_1 x28_2)] rfl (by (try simp only [List.map_toArray, List.map_cons, List.map_nil]); first | done | rfl | (simp only [List.length_drop, List.length_take]; rfl)) ?_; (with_reducible refine (reply_may.calls k2 a0_0 x28_2 (l0_1.length : Int) (rdOf ByteArray.empty l0_1 x28_2) false _ A17.out).mono ?_); rintro e w22 ⟨rfl, hb⟩; refine ⟨_, rfl, ?_⟩; have n0_ := Aside0.mk (blk_below (g := gb118) (o := .cells #[.int .i64 a0_0, .slice (some ad119) l0_1.length c0_1] 26 (0, 0)) (by (with_reducible repeat (first | refine blk_drewN ?_ _ | refine blk_drew ?_ | refine blk_alloc ?_ _)); exact BK118.out) hb); have n1_ := Aside0.mk (below_step (by repeat (first | (with_reducible first | exact HB.out | apply below_alloc | apply pw_below_drewN | apply below_drew1 | refine below_set ?_ GE118.out) | exact HB.out)) hb); clear BK118; clear HB; have BK118 := n0_; have HB := n1_; clear n0_ n1_; (try clear hb); (try clear hb2); (try clear hk); (try clear hi)))
          go_ret
          exact ⟨by first | rfl | (simp [errW_none, errW_some] <;> rfl) | (simp [*, errW_none, errW_some] <;> rfl), by repeat (first | (with_reducible first | exact HB.out | apply below_alloc | apply pw_below_drewN | apply below_drew1 | refine below_set ?_ GE118.out) | exact HB.out)⟩
        ·
         rw [if_neg c16] at H
         exact absurd H (by simp)
       ·
        rw [if_neg c15] at H
        exact absurd H (by simp)
      ·
       rw [if_neg c14] at H
       have c14b0 : decide (x28_2 < (l0_1.length : Int)) = false := decide_eq_false c14
       clear c14
       obtain rfl := Option.some.inj H
       go_wp2
       go_ret
       exact ⟨by first | rfl | (simp [errW_none, errW_some] <;> rfl) | (simp [*, errW_none, errW_some] <;> rfl), by repeat (first | (with_reducible first | exact HB.out | apply below_alloc | apply pw_below_drewN | apply below_drew1 | refine below_set ?_ GE118.out) | exact HB.out)⟩

end Go.Proofs.YtdcbkeihgbekdaaDoor.Q

namespace Go.Proofs.YtdcbkeihgbekdaaDoor.Turn
open Go Go.RowKit Go.Proofs.YtdcbkeihgbekdaaDoor.Q Go.Proofs.YtdcbkeihgbekdaaDoorW.PrintWords Go.Proofs.YtdcbkeihgbekdaaDoorW.PrintLast Go.Proofs.YtdcbkeihgbekdaaDoorW.PrintMore Go.Proofs.YtdcbkeihgbekdaaDoor.Dig Go.Proofs.YtdcbkeihgbekdaaDoor.Quad Go.Proofs.YtdcbkeihgbekdaaDoor.ExtP Go.Proofs.YtdcbkeihgbekdaaDoor.SixP
set_option linter.unusedVariables false
def clean1 (c : UInt8) : Bool := decide (32 ≤ c.toNat) && decide (c.toNat ≤ 126)
theorem wrap_up {i : Nat} (h : i < 1000001) : wrap64 ((i : Int) + 1) = ((i + 1 : Nat) : Int) := by
  unfold wrap64; omega
theorem clean_ev (s : ByteArray) (hs : s.size ≤ 1000000) : Ev (fun k => cmd_Clean.f k s) (s.data.toList.all clean1) := by
  have hl := data_length s
  have key : ∀ d i : Nat, i + d = s.size → Ev (fun k => cmd_Clean.l0 k s (s.size : Int) (i : Int)) ((s.data.toList.drop i).all clean1) := by
    intro d
    induction d with
    | zero =>
      intro i hi
      refine Ev.step (f := fun _ => some true) (fun k => ?_) (by rw [List.drop_of_length_le (by omega)]; exact Ev.now _)
      simp only [cmd_Clean.l0]
      rw [if_neg (by omega)]
    | succ d ih =>
      intro i hi
      have hlt : i < s.data.toList.length := by omega
      rw [List.drop_eq_getElem_cons hlt, List.all_cons]
      have hb := bt_byte s i hlt
      by_cases h1 : 32 ≤ (s.data.toList[i]).toNat
      · by_cases h2 : (s.data.toList[i]).toNat ≤ 126
        · rw [clean1, decide_eq_true h1, decide_eq_true h2]
          refine Ev.step (fun k => ?_) (ih (i + 1) (by omega))
          simp only [cmd_Clean.l0]
          rw [if_pos (by omega), if_pos (by omega), if_pos (by omega), hb, if_neg (by omega), if_neg (by omega), wrap_up (by omega)]
        · rw [clean1, decide_eq_true h1, decide_eq_false h2]
          refine Ev.step (f := fun _ => some false) (fun k => ?_) (Ev.now _)
          simp only [cmd_Clean.l0]
          rw [if_pos (by omega), if_pos (by omega), if_pos (by omega), hb, if_neg (by omega), if_pos (by omega)]
      · rw [clean1, decide_eq_false h1]
        refine Ev.step (f := fun _ => some false) (fun k => ?_) (Ev.now _)
        simp only [cmd_Clean.l0]
        rw [if_pos (by omega), if_pos (by omega), if_pos (by omega), hb, if_pos (by omega)]
  have := key s.size 0 (by omega)
  rwa [List.drop_zero] at this
theorem dig_clean (n : Nat) : ∀ c ∈ digU n, clean1 c = true := fun c hc => by
  have h := List.all_eq_true.1 (digU_all n).1 c hc
  simp [isDig] at h
  simp [clean1]; omega
theorem jn_clean (s : UInt8) (hs : clean1 s = true) : ∀ l : List (List UInt8), (∀ x ∈ l, ∀ c ∈ x, clean1 c = true) → ∀ c ∈ Cut.jn s l, clean1 c = true
  | [], _, c, hc => by cases hc
  | [x], h, c, hc => h x (List.mem_cons_self ..) c (by simpa [Cut.jn] using hc)
  | x :: y :: r, h, c, hc => by
    have : Cut.jn s (x :: y :: r) = x ++ s :: Cut.jn s (y :: r) := rfl
    rw [this] at hc
    rcases List.mem_append.1 hc with hc | hc
    · exact h x (List.mem_cons_self ..) c hc
    · rcases List.mem_cons.1 hc with rfl | hc
      · exact hs
      · exact jn_clean s hs (y :: r) (fun z hz => h z (List.mem_cons_of_mem _ hz)) c hc
theorem six_clean (a b c d p : Nat) : ∀ x ∈ sixU a b c d p, clean1 x = true := jn_clean 44 (by decide) _ (fun x hx => by
  simp only [List.mem_cons, List.not_mem_nil, or_false] at hx
  rcases hx with rfl | rfl | rfl | rfl | rfl | rfl <;> exact dig_clean _)
theorem host_clean (a b c d : Nat) : ∀ x ∈ hostU a b c d, clean1 x = true := by
  rw [host_jn]
  exact jn_clean 46 (by decide) _ (fun x hx => by
    simp only [List.mem_cons, List.not_mem_nil, or_false] at hx
    rcases hx with rfl | rfl | rfl | rfl <;> exact dig_clean _)
theorem end_clean (a b c d p : Nat) : ∀ x ∈ endU a b c d p, clean1 x = true := jn_clean 124 (by decide) _ (fun x hx => by
  simp only [List.mem_cons, List.not_mem_nil, or_false] at hx
  rcases hx with rfl | rfl | rfl | rfl | rfl
  · intro c hc; cases hc
  · intro c hc; simp at hc; subst hc; decide
  · exact host_clean a b c d
  · exact dig_clean _
  · intro c hc; cases hc)
theorem port_clean (p : Nat) : ∀ x ∈ portU p, clean1 x = true := by
  intro x hx
  simp only [portU, List.mem_cons, List.mem_append, List.not_mem_nil, or_false] at hx
  rcases hx with rfl | rfl | rfl | rfl | hx | rfl | rfl
  · decide
  · decide
  · decide
  · decide
  · exact dig_clean p x hx
  · decide
  · decide
theorem num_227 : quad_Num.f 227 = some ⟨#[50, 50, 55]⟩ := by decide +kernel
theorem num_229 : quad_Num.f 229 = some ⟨#[50, 50, 57]⟩ := by decide +kernel
theorem ends_some (code : Int) (d s : ByteArray) (hd : quad_Num.f code = some d) (hz : d.size ≤ 100) (hs : s.size ≤ 1000000) : ∃ r, reply_ends.f code s = some r := by
  rw [reply_ends.f, hd, Option.bind_some]
  split
  · exact ⟨_, rfl⟩
  · rw [if_pos (by omega), strings_CutPrefix.f, stringslite_CutPrefix.f, stringslite_HasPrefix.f]
    split
    · rename_i h1
      rw [if_pos (by omega), if_pos (by omega), Option.bind_some]
      split
      · exact ⟨_, rfl⟩
      · exact ⟨_, rfl⟩
    · exact ⟨_, rfl⟩
theorem reply_ev (code : Int) (s : ByteArray) (hc : code = 227 ∨ code = 229) (hs : s.size ≤ 500) (hcl : s.data.toList.all clean1 = true) : Ev (fun k => reply_May.f k code [s]) true := by
  obtain ⟨r, hr⟩ : ∃ r, reply_ends.f code s = some r := by
    rcases hc with rfl | rfl
    · exact ends_some 227 _ s num_227 (by decide) (by omega)
    · exact ends_some 229 _ s num_229 (by decide) (by omega)
  refine Ev.congr (f := fun k => reply_May.j0 k 1 false code [s]) (fun k => ?_) ?_
  · rw [reply_May.f, if_neg (by omega), if_neg (by omega), if_neg (by simp)]
    simp
  · refine Ev.step (f := fun k => reply_May.l0 k 1 [s] 1 0 code [s]) (fun k => by simp [reply_May.j0]) ?_
    refine Ev.step (f := fun k => (reply_may.f k code 0 1 s).bind fun t120 => if t120 = true then reply_May.l0 k 1 [s] 1 1 code [s] else some false) (fun k => ?_) ?_
    · simp only [reply_May.l0]
      rw [if_pos (by decide), if_pos (by decide), if_pos (by simp), show rdOf ByteArray.empty [s] 0 = s from rfl, show wrap64 (0 + 1) = 1 from by unfold wrap64; omega]
    · refine Ev.bind (a := true) (Ev.congr (f := fun k => (cmd_Clean.f k s).bind fun t117 => if t117 = true then (some true) else some false) (fun k => ?_) (Ev.bind (clean_ev s (by omega)) (by rw [hcl]; exact Ev.now _))) ?_
      · rw [reply_may.f, hr, Option.bind_some]
        congr 1
        funext t
        rw [if_pos (show (s.size : Int) ≤ 500 by omega), if_pos rfl]
      · refine Ev.step (f := fun _ => some true) (fun k => ?_) (Ev.now _)
        simp [reply_May.l0]
theorem askE_may {verb : ByteArray} {a b c d : Nat} {p : Int} (h : a < 256 ∧ b < 256 ∧ c < 256 ∧ d < 256) {x y : ByteArray} (hA : askE verb a b c d p = (x, y, true)) : (x = PORT ∨ x = EPRT) ∧ y.size ≤ 1000000 ∧ y.data.toList.all clean1 = true ∧ y.data.toList ≠ [] := by
  rw [askE] at hA
  split at hA
  · rename_i hp
    have hh := high_iff.1 hp
    split at hA
    · cases hA
      refine ⟨.inl rfl, ?_, List.all_eq_true.2 (six_clean _ _ _ _ _), ?_⟩
      · rw [← data_length]; show (sixU a b c d p.toNat).length ≤ _; have := six_short a b c d p.toNat h (by omega); omega
      · show sixU a b c d p.toNat ≠ []
        simp [sixU, Cut.jn]
    · split at hA
      · cases hA
        refine ⟨.inr rfl, ?_, List.all_eq_true.2 (end_clean _ _ _ _ _), ?_⟩
        · rw [← data_length]; show (endU a b c d p.toNat).length ≤ _
          have h1 := Ext.host_short h; have h2 := Ext.dig_short (p := p.toNat) (by omega)
          simp only [endU, Cut.jn, List.length_append, List.length_cons, List.length_nil]; omega
        · show endU a b c d p.toNat ≠ []
          simp [endU, Cut.jn]
      · cases hA
  · cases hA
theorem tellE_may {name : ByteArray} {a b c d : Nat} {p : Int} (h : a < 256 ∧ b < 256 ∧ c < 256 ∧ d < 256) {code : Int} {t : ByteArray} (hT : tellE name a b c d p = some (code, t)) : (code = 227 ∨ code = 229) ∧ t.size ≤ 500 ∧ t.data.toList.all clean1 = true := by
  have app : ∀ x y z : ByteArray, (x ++ y ++ z).data.toList = x.data.toList ++ (y.data.toList ++ z.data.toList) := fun x y z => by simp
  rw [tellE] at hT
  split at hT
  · rename_i hp
    have hh := high_iff.1 hp
    split at hT
    · cases hT
      refine ⟨.inl rfl, ?_, ?_⟩
      · rw [← data_length, app]
        have := six_short a b c d p.toNat h (by omega)
        simp only [List.length_append]
        show 23 + ((sixU a b c d p.toNat).length + 2) ≤ 500
        omega
      · rw [app, List.all_append, List.all_append]
        have e2 : (sixU a b c d p.toNat).all clean1 = true := List.all_eq_true.2 (six_clean _ _ _ _ _)
        have e1 : entering.data.toList.all clean1 = true := by decide +kernel
        rw [e1, show (⟨(sixU a b c d p.toNat).toArray⟩ : ByteArray).data.toList = sixU a b c d p.toNat from rfl, e2]; decide
    · split at hT
      · cases hT
        refine ⟨.inr rfl, ?_, ?_⟩
        · rw [← data_length, app]
          have := Ext.dig_short (p := p.toNat) (by omega)
          simp only [List.length_append]
          show 31 + ((portU p.toNat).length + 1) ≤ 500
          simp only [portU, List.length_cons, List.length_append, List.length_nil]; omega
        · rw [app, List.all_append, List.all_append]
          have e2 : (portU p.toNat).all clean1 = true := List.all_eq_true.2 (port_clean _)
          have e1 : entended.data.toList.all clean1 = true := by decide +kernel
          rw [e1, show (⟨(portU p.toNat).toArray⟩ : ByteArray).data.toList = portU p.toNat from rfl, e2]; decide
      · cases hT
  · cases hT
end Go.Proofs.YtdcbkeihgbekdaaDoor.Turn

namespace Go.Proofs.YtdcbkeihgbekdaaDoor.CmdMay
open Go Go.RowKit Go.Proofs.YtdcbkeihgbekdaaDoor.Q Go.Proofs.YtdcbkeihgbekdaaDoorW.PrintWords Go.Proofs.YtdcbkeihgbekdaaDoorW.PrintLast Go.Proofs.YtdcbkeihgbekdaaDoorW.PrintMore
set_option linter.unusedVariables false
set_option linter.unusedSimpArgs false
set_option maxHeartbeats 4000000 in
set_option maxRecDepth 100000 in
theorem may_none (v y n : ByteArray) (k a : Int) (p : Bool) (w : World) (hF : ∀ W, Calls Tryd.prog 25 #[.string v] W fun e w' => e = .returned (.tuple #[.agg #[.string n, .int .i64 k, .int .i64 a, .bool p], .bool false]) ∧ Below W.heap.size W w')  : Calls Tryd.prog 12 #[.agg #[.string v, .string y]] w fun e w' => e = .returned (.bool false) ∧ Below w.heap.size w w' := by
  have HB := Aside0.mk (Below.refl w.heap.size w)
  have HF := Aside0.mk hF
  clear hF
  go_enter Tryd.func12, Tryd.ntmps12
  go_wp2_with (first
    | (go_at_call 25; (with_reducible refine (HF.out _).mono ?_); rintro e v1 ⟨rfl, hb⟩; have KC := Aside0.mk (blk_below (Wk.nw0 w (.cells #[.string v, .string y] 23)) hb); replace HB := Aside0.mk ((Wk.st1 HB.out _).trans (hb.mono (Wk.st1 HB.out _).size)); clear hb; have c0C0 : v1.cell? ⟨w.heap.size, 0, none⟩ = some (.string v) := (blk_cell KC.out 0).trans rfl; have c1C0 : ∀ o0, (v1.alloc o0).cell? ⟨w.heap.size, 0, none⟩ = some (.string v) := fun o0 => (blk_cell (blk_alloc KC.out o0) 0).trans rfl; have c0C1 : v1.cell? ⟨w.heap.size, 1, none⟩ = some (.string y) := (blk_cell KC.out 1).trans rfl; have c1C1 : ∀ o0, (v1.alloc o0).cell? ⟨w.heap.size, 1, none⟩ = some (.string y) := fun o0 => (blk_cell (blk_alloc KC.out o0) 1).trans rfl; have tok1 := trivial))
  go_ret
  exact ⟨rfl, (Wk.st1 HB.out _)⟩
set_option maxHeartbeats 4000000 in
set_option maxRecDepth 100000 in
theorem may_other (v y n : ByteArray) (k a : Int) (p : Bool) (w : World) (hF : ∀ W, Calls Tryd.prog 25 #[.string v] W fun e w' => e = .returned (.tuple #[.agg #[.string n, .int .i64 k, .int .i64 a, .bool p], .bool true]) ∧ Below W.heap.size W w') (h1 : (n.toList == v.toList) = false) : Calls Tryd.prog 12 #[.agg #[.string v, .string y]] w fun e w' => e = .returned (.bool false) ∧ Below w.heap.size w w' := by
  have HB := Aside0.mk (Below.refl w.heap.size w)
  have HF := Aside0.mk hF
  clear hF
  go_enter Tryd.func12, Tryd.ntmps12
  go_wp2_with (first
    | (go_at_call 25; (with_reducible refine (HF.out _).mono ?_); rintro e v1 ⟨rfl, hb⟩; have KC := Aside0.mk (blk_below (Wk.nw0 w (.cells #[.string v, .string y] 23)) hb); replace HB := Aside0.mk ((Wk.st1 HB.out _).trans (hb.mono (Wk.st1 HB.out _).size)); clear hb; have c0C0 : v1.cell? ⟨w.heap.size, 0, none⟩ = some (.string v) := (blk_cell KC.out 0).trans rfl; have c1C0 : ∀ o0, (v1.alloc o0).cell? ⟨w.heap.size, 0, none⟩ = some (.string v) := fun o0 => (blk_cell (blk_alloc KC.out o0) 0).trans rfl; have c0C1 : v1.cell? ⟨w.heap.size, 1, none⟩ = some (.string y) := (blk_cell KC.out 1).trans rfl; have c1C1 : ∀ o0, (v1.alloc o0).cell? ⟨w.heap.size, 1, none⟩ = some (.string y) := fun o0 => (blk_cell (blk_alloc KC.out o0) 1).trans rfl; have tok1 := trivial))
  go_ret
  exact ⟨rfl, (Wk.st1 HB.out _)⟩
set_option maxHeartbeats 4000000 in
set_option maxRecDepth 100000 in
theorem may_dirty (v y n : ByteArray) (k a : Int) (p : Bool) (w : World) (hF : ∀ W, Calls Tryd.prog 25 #[.string v] W fun e w' => e = .returned (.tuple #[.agg #[.string n, .int .i64 k, .int .i64 a, .bool p], .bool true]) ∧ Below W.heap.size W w') (hC : ∀ W, Calls Tryd.prog 26 #[.string y] W fun e w' => e = .returned (.bool false) ∧ Below W.heap.size W w') (h1 : (n.toList == v.toList) = true) : Calls Tryd.prog 12 #[.agg #[.string v, .string y]] w fun e w' => e = .returned (.bool false) ∧ Below w.heap.size w w' := by
  have HB := Aside0.mk (Below.refl w.heap.size w)
  have HF := Aside0.mk hF
  have HC := Aside0.mk hC
  clear hF hC
  go_enter Tryd.func12, Tryd.ntmps12
  go_wp2_with (first
    | (go_at_call 25; (with_reducible refine (HF.out _).mono ?_); rintro e v1 ⟨rfl, hb⟩; have KC := Aside0.mk (blk_below (Wk.nw0 w (.cells #[.string v, .string y] 23)) hb); replace HB := Aside0.mk ((Wk.st1 HB.out _).trans (hb.mono (Wk.st1 HB.out _).size)); clear hb; have c0C0 : v1.cell? ⟨w.heap.size, 0, none⟩ = some (.string v) := (blk_cell KC.out 0).trans rfl; have c1C0 : ∀ o0, (v1.alloc o0).cell? ⟨w.heap.size, 0, none⟩ = some (.string v) := fun o0 => (blk_cell (blk_alloc KC.out o0) 0).trans rfl; have c0C1 : v1.cell? ⟨w.heap.size, 1, none⟩ = some (.string y) := (blk_cell KC.out 1).trans rfl; have c1C1 : ∀ o0, (v1.alloc o0).cell? ⟨w.heap.size, 1, none⟩ = some (.string y) := fun o0 => (blk_cell (blk_alloc KC.out o0) 1).trans rfl; have tok1 := trivial)
    | (go_at_call 26; (with_reducible refine (HC.out _).mono ?_); rintro e v2 ⟨rfl, hb⟩; clear c0C0 c1C0 c0C1 c1C1; replace KC := Aside0.mk (blk_below (blk_alloc KC.out _) hb); have KV := Aside0.mk (blk_below (Wk.nw0 v1 (.cells #[.string n, .int .i64 k, .int .i64 a, .bool p] 64)) hb); replace HB := Aside0.mk ((Wk.st1 HB.out _).trans (hb.mono (Wk.st1 HB.out _).size)); clear hb; have c0C0 : v2.cell? ⟨w.heap.size, 0, none⟩ = some (.string v) := (blk_cell KC.out 0).trans rfl; have c1C0 : ∀ o0, (v2.alloc o0).cell? ⟨w.heap.size, 0, none⟩ = some (.string v) := fun o0 => (blk_cell (blk_alloc KC.out o0) 0).trans rfl; have c0C1 : v2.cell? ⟨w.heap.size, 1, none⟩ = some (.string y) := (blk_cell KC.out 1).trans rfl; have c1C1 : ∀ o0, (v2.alloc o0).cell? ⟨w.heap.size, 1, none⟩ = some (.string y) := fun o0 => (blk_cell (blk_alloc KC.out o0) 1).trans rfl; have c0V0 : v2.cell? ⟨v1.heap.size, 0, none⟩ = some (.string n) := (blk_cell KV.out 0).trans rfl; have c1V0 : ∀ o0, (v2.alloc o0).cell? ⟨v1.heap.size, 0, none⟩ = some (.string n) := fun o0 => (blk_cell (blk_alloc KV.out o0) 0).trans rfl; have c0V1 : v2.cell? ⟨v1.heap.size, 1, none⟩ = some (.int .i64 k) := (blk_cell KV.out 1).trans rfl; have c1V1 : ∀ o0, (v2.alloc o0).cell? ⟨v1.heap.size, 1, none⟩ = some (.int .i64 k) := fun o0 => (blk_cell (blk_alloc KV.out o0) 1).trans rfl; have c0V2 : v2.cell? ⟨v1.heap.size, 2, none⟩ = some (.int .i64 a) := (blk_cell KV.out 2).trans rfl; have c1V2 : ∀ o0, (v2.alloc o0).cell? ⟨v1.heap.size, 2, none⟩ = some (.int .i64 a) := fun o0 => (blk_cell (blk_alloc KV.out o0) 2).trans rfl; have c0V3 : v2.cell? ⟨v1.heap.size, 3, none⟩ = some (.bool p) := (blk_cell KV.out 3).trans rfl; have c1V3 : ∀ o0, (v2.alloc o0).cell? ⟨v1.heap.size, 3, none⟩ = some (.bool p) := fun o0 => (blk_cell (blk_alloc KV.out o0) 3).trans rfl; have tok2 := trivial))
  go_ret
  exact ⟨rfl, HB.out⟩
set_option maxHeartbeats 4000000 in
set_option maxRecDepth 100000 in
theorem may_zero_true (v y n : ByteArray) (k a : Int) (p : Bool) (w : World) (hF : ∀ W, Calls Tryd.prog 25 #[.string v] W fun e w' => e = .returned (.tuple #[.agg #[.string n, .int .i64 k, .int .i64 a, .bool p], .bool true]) ∧ Below W.heap.size W w') (hC : ∀ W, Calls Tryd.prog 26 #[.string y] W fun e w' => e = .returned (.bool true) ∧ Below W.heap.size W w') (h1 : (n.toList == v.toList) = true) (h2 : (a == 0) = true) (h3 : y.toList.isEmpty = true) (h4 : (y.toList == []) = true) : Calls Tryd.prog 12 #[.agg #[.string v, .string y]] w fun e w' => e = .returned (.bool true) ∧ Below w.heap.size w w' := by
  have HB := Aside0.mk (Below.refl w.heap.size w)
  have HF := Aside0.mk hF
  have HC := Aside0.mk hC
  clear hF hC
  go_enter Tryd.func12, Tryd.ntmps12
  go_wp2_with (first
    | (go_at_call 25; (with_reducible refine (HF.out _).mono ?_); rintro e v1 ⟨rfl, hb⟩; have KC := Aside0.mk (blk_below (Wk.nw0 w (.cells #[.string v, .string y] 23)) hb); replace HB := Aside0.mk ((Wk.st1 HB.out _).trans (hb.mono (Wk.st1 HB.out _).size)); clear hb; have c0C0 : v1.cell? ⟨w.heap.size, 0, none⟩ = some (.string v) := (blk_cell KC.out 0).trans rfl; have c1C0 : ∀ o0, (v1.alloc o0).cell? ⟨w.heap.size, 0, none⟩ = some (.string v) := fun o0 => (blk_cell (blk_alloc KC.out o0) 0).trans rfl; have c0C1 : v1.cell? ⟨w.heap.size, 1, none⟩ = some (.string y) := (blk_cell KC.out 1).trans rfl; have c1C1 : ∀ o0, (v1.alloc o0).cell? ⟨w.heap.size, 1, none⟩ = some (.string y) := fun o0 => (blk_cell (blk_alloc KC.out o0) 1).trans rfl; have tok1 := trivial)
    | (go_at_call 26; (with_reducible refine (HC.out _).mono ?_); rintro e v2 ⟨rfl, hb⟩; clear c0C0 c1C0 c0C1 c1C1; replace KC := Aside0.mk (blk_below (blk_alloc KC.out _) hb); have KV := Aside0.mk (blk_below (Wk.nw0 v1 (.cells #[.string n, .int .i64 k, .int .i64 a, .bool p] 64)) hb); replace HB := Aside0.mk ((Wk.st1 HB.out _).trans (hb.mono (Wk.st1 HB.out _).size)); clear hb; have c0C0 : v2.cell? ⟨w.heap.size, 0, none⟩ = some (.string v) := (blk_cell KC.out 0).trans rfl; have c1C0 : ∀ o0, (v2.alloc o0).cell? ⟨w.heap.size, 0, none⟩ = some (.string v) := fun o0 => (blk_cell (blk_alloc KC.out o0) 0).trans rfl; have c0C1 : v2.cell? ⟨w.heap.size, 1, none⟩ = some (.string y) := (blk_cell KC.out 1).trans rfl; have c1C1 : ∀ o0, (v2.alloc o0).cell? ⟨w.heap.size, 1, none⟩ = some (.string y) := fun o0 => (blk_cell (blk_alloc KC.out o0) 1).trans rfl; have c0V0 : v2.cell? ⟨v1.heap.size, 0, none⟩ = some (.string n) := (blk_cell KV.out 0).trans rfl; have c1V0 : ∀ o0, (v2.alloc o0).cell? ⟨v1.heap.size, 0, none⟩ = some (.string n) := fun o0 => (blk_cell (blk_alloc KV.out o0) 0).trans rfl; have c0V1 : v2.cell? ⟨v1.heap.size, 1, none⟩ = some (.int .i64 k) := (blk_cell KV.out 1).trans rfl; have c1V1 : ∀ o0, (v2.alloc o0).cell? ⟨v1.heap.size, 1, none⟩ = some (.int .i64 k) := fun o0 => (blk_cell (blk_alloc KV.out o0) 1).trans rfl; have c0V2 : v2.cell? ⟨v1.heap.size, 2, none⟩ = some (.int .i64 a) := (blk_cell KV.out 2).trans rfl; have c1V2 : ∀ o0, (v2.alloc o0).cell? ⟨v1.heap.size, 2, none⟩ = some (.int .i64 a) := fun o0 => (blk_cell (blk_alloc KV.out o0) 2).trans rfl; have c0V3 : v2.cell? ⟨v1.heap.size, 3, none⟩ = some (.bool p) := (blk_cell KV.out 3).trans rfl; have c1V3 : ∀ o0, (v2.alloc o0).cell? ⟨v1.heap.size, 3, none⟩ = some (.bool p) := fun o0 => (blk_cell (blk_alloc KV.out o0) 3).trans rfl; have tok2 := trivial))
  go_ret
  exact ⟨rfl, HB.out⟩
set_option maxHeartbeats 4000000 in
set_option maxRecDepth 100000 in
theorem may_two_true (v y n : ByteArray) (k a : Int) (p : Bool) (w : World) (hF : ∀ W, Calls Tryd.prog 25 #[.string v] W fun e w' => e = .returned (.tuple #[.agg #[.string n, .int .i64 k, .int .i64 a, .bool p], .bool true]) ∧ Below W.heap.size W w') (hC : ∀ W, Calls Tryd.prog 26 #[.string y] W fun e w' => e = .returned (.bool true) ∧ Below W.heap.size W w') (h1 : (n.toList == v.toList) = true) (h2 : (a == 0) = false) (h2' : (a == 2) = true) (h3 : y.toList.isEmpty = true) (h4 : (y.toList == []) = true) : Calls Tryd.prog 12 #[.agg #[.string v, .string y]] w fun e w' => e = .returned (.bool false) ∧ Below w.heap.size w w' := by
  have HB := Aside0.mk (Below.refl w.heap.size w)
  have HF := Aside0.mk hF
  have HC := Aside0.mk hC
  clear hF hC
  go_enter Tryd.func12, Tryd.ntmps12
  go_wp2_with (first
    | (go_at_call 25; (with_reducible refine (HF.out _).mono ?_); rintro e v1 ⟨rfl, hb⟩; have KC := Aside0.mk (blk_below (Wk.nw0 w (.cells #[.string v, .string y] 23)) hb); replace HB := Aside0.mk ((Wk.st1 HB.out _).trans (hb.mono (Wk.st1 HB.out _).size)); clear hb; have c0C0 : v1.cell? ⟨w.heap.size, 0, none⟩ = some (.string v) := (blk_cell KC.out 0).trans rfl; have c1C0 : ∀ o0, (v1.alloc o0).cell? ⟨w.heap.size, 0, none⟩ = some (.string v) := fun o0 => (blk_cell (blk_alloc KC.out o0) 0).trans rfl; have c0C1 : v1.cell? ⟨w.heap.size, 1, none⟩ = some (.string y) := (blk_cell KC.out 1).trans rfl; have c1C1 : ∀ o0, (v1.alloc o0).cell? ⟨w.heap.size, 1, none⟩ = some (.string y) := fun o0 => (blk_cell (blk_alloc KC.out o0) 1).trans rfl; have tok1 := trivial)
    | (go_at_call 26; (with_reducible refine (HC.out _).mono ?_); rintro e v2 ⟨rfl, hb⟩; clear c0C0 c1C0 c0C1 c1C1; replace KC := Aside0.mk (blk_below (blk_alloc KC.out _) hb); have KV := Aside0.mk (blk_below (Wk.nw0 v1 (.cells #[.string n, .int .i64 k, .int .i64 a, .bool p] 64)) hb); replace HB := Aside0.mk ((Wk.st1 HB.out _).trans (hb.mono (Wk.st1 HB.out _).size)); clear hb; have c0C0 : v2.cell? ⟨w.heap.size, 0, none⟩ = some (.string v) := (blk_cell KC.out 0).trans rfl; have c1C0 : ∀ o0, (v2.alloc o0).cell? ⟨w.heap.size, 0, none⟩ = some (.string v) := fun o0 => (blk_cell (blk_alloc KC.out o0) 0).trans rfl; have c0C1 : v2.cell? ⟨w.heap.size, 1, none⟩ = some (.string y) := (blk_cell KC.out 1).trans rfl; have c1C1 : ∀ o0, (v2.alloc o0).cell? ⟨w.heap.size, 1, none⟩ = some (.string y) := fun o0 => (blk_cell (blk_alloc KC.out o0) 1).trans rfl; have c0V0 : v2.cell? ⟨v1.heap.size, 0, none⟩ = some (.string n) := (blk_cell KV.out 0).trans rfl; have c1V0 : ∀ o0, (v2.alloc o0).cell? ⟨v1.heap.size, 0, none⟩ = some (.string n) := fun o0 => (blk_cell (blk_alloc KV.out o0) 0).trans rfl; have c0V1 : v2.cell? ⟨v1.heap.size, 1, none⟩ = some (.int .i64 k) := (blk_cell KV.out 1).trans rfl; have c1V1 : ∀ o0, (v2.alloc o0).cell? ⟨v1.heap.size, 1, none⟩ = some (.int .i64 k) := fun o0 => (blk_cell (blk_alloc KV.out o0) 1).trans rfl; have c0V2 : v2.cell? ⟨v1.heap.size, 2, none⟩ = some (.int .i64 a) := (blk_cell KV.out 2).trans rfl; have c1V2 : ∀ o0, (v2.alloc o0).cell? ⟨v1.heap.size, 2, none⟩ = some (.int .i64 a) := fun o0 => (blk_cell (blk_alloc KV.out o0) 2).trans rfl; have c0V3 : v2.cell? ⟨v1.heap.size, 3, none⟩ = some (.bool p) := (blk_cell KV.out 3).trans rfl; have c1V3 : ∀ o0, (v2.alloc o0).cell? ⟨v1.heap.size, 3, none⟩ = some (.bool p) := fun o0 => (blk_cell (blk_alloc KV.out o0) 3).trans rfl; have tok2 := trivial))
  go_ret
  exact ⟨rfl, HB.out⟩
set_option maxHeartbeats 4000000 in
set_option maxRecDepth 100000 in
theorem may_zero_false (v y n : ByteArray) (k a : Int) (p : Bool) (w : World) (hF : ∀ W, Calls Tryd.prog 25 #[.string v] W fun e w' => e = .returned (.tuple #[.agg #[.string n, .int .i64 k, .int .i64 a, .bool p], .bool true]) ∧ Below W.heap.size W w') (hC : ∀ W, Calls Tryd.prog 26 #[.string y] W fun e w' => e = .returned (.bool true) ∧ Below W.heap.size W w') (h1 : (n.toList == v.toList) = true) (h2 : (a == 0) = true) (h3 : y.toList.isEmpty = false) (h4 : (y.toList == []) = false) : Calls Tryd.prog 12 #[.agg #[.string v, .string y]] w fun e w' => e = .returned (.bool false) ∧ Below w.heap.size w w' := by
  have HB := Aside0.mk (Below.refl w.heap.size w)
  have HF := Aside0.mk hF
  have HC := Aside0.mk hC
  clear hF hC
  go_enter Tryd.func12, Tryd.ntmps12
  go_wp2_with (first
    | (go_at_call 25; (with_reducible refine (HF.out _).mono ?_); rintro e v1 ⟨rfl, hb⟩; have KC := Aside0.mk (blk_below (Wk.nw0 w (.cells #[.string v, .string y] 23)) hb); replace HB := Aside0.mk ((Wk.st1 HB.out _).trans (hb.mono (Wk.st1 HB.out _).size)); clear hb; have c0C0 : v1.cell? ⟨w.heap.size, 0, none⟩ = some (.string v) := (blk_cell KC.out 0).trans rfl; have c1C0 : ∀ o0, (v1.alloc o0).cell? ⟨w.heap.size, 0, none⟩ = some (.string v) := fun o0 => (blk_cell (blk_alloc KC.out o0) 0).trans rfl; have c0C1 : v1.cell? ⟨w.heap.size, 1, none⟩ = some (.string y) := (blk_cell KC.out 1).trans rfl; have c1C1 : ∀ o0, (v1.alloc o0).cell? ⟨w.heap.size, 1, none⟩ = some (.string y) := fun o0 => (blk_cell (blk_alloc KC.out o0) 1).trans rfl; have tok1 := trivial)
    | (go_at_call 26; (with_reducible refine (HC.out _).mono ?_); rintro e v2 ⟨rfl, hb⟩; clear c0C0 c1C0 c0C1 c1C1; replace KC := Aside0.mk (blk_below (blk_alloc KC.out _) hb); have KV := Aside0.mk (blk_below (Wk.nw0 v1 (.cells #[.string n, .int .i64 k, .int .i64 a, .bool p] 64)) hb); replace HB := Aside0.mk ((Wk.st1 HB.out _).trans (hb.mono (Wk.st1 HB.out _).size)); clear hb; have c0C0 : v2.cell? ⟨w.heap.size, 0, none⟩ = some (.string v) := (blk_cell KC.out 0).trans rfl; have c1C0 : ∀ o0, (v2.alloc o0).cell? ⟨w.heap.size, 0, none⟩ = some (.string v) := fun o0 => (blk_cell (blk_alloc KC.out o0) 0).trans rfl; have c0C1 : v2.cell? ⟨w.heap.size, 1, none⟩ = some (.string y) := (blk_cell KC.out 1).trans rfl; have c1C1 : ∀ o0, (v2.alloc o0).cell? ⟨w.heap.size, 1, none⟩ = some (.string y) := fun o0 => (blk_cell (blk_alloc KC.out o0) 1).trans rfl; have c0V0 : v2.cell? ⟨v1.heap.size, 0, none⟩ = some (.string n) := (blk_cell KV.out 0).trans rfl; have c1V0 : ∀ o0, (v2.alloc o0).cell? ⟨v1.heap.size, 0, none⟩ = some (.string n) := fun o0 => (blk_cell (blk_alloc KV.out o0) 0).trans rfl; have c0V1 : v2.cell? ⟨v1.heap.size, 1, none⟩ = some (.int .i64 k) := (blk_cell KV.out 1).trans rfl; have c1V1 : ∀ o0, (v2.alloc o0).cell? ⟨v1.heap.size, 1, none⟩ = some (.int .i64 k) := fun o0 => (blk_cell (blk_alloc KV.out o0) 1).trans rfl; have c0V2 : v2.cell? ⟨v1.heap.size, 2, none⟩ = some (.int .i64 a) := (blk_cell KV.out 2).trans rfl; have c1V2 : ∀ o0, (v2.alloc o0).cell? ⟨v1.heap.size, 2, none⟩ = some (.int .i64 a) := fun o0 => (blk_cell (blk_alloc KV.out o0) 2).trans rfl; have c0V3 : v2.cell? ⟨v1.heap.size, 3, none⟩ = some (.bool p) := (blk_cell KV.out 3).trans rfl; have c1V3 : ∀ o0, (v2.alloc o0).cell? ⟨v1.heap.size, 3, none⟩ = some (.bool p) := fun o0 => (blk_cell (blk_alloc KV.out o0) 3).trans rfl; have tok2 := trivial))
  go_ret
  exact ⟨rfl, HB.out⟩
set_option maxHeartbeats 4000000 in
set_option maxRecDepth 100000 in
theorem may_two_false (v y n : ByteArray) (k a : Int) (p : Bool) (w : World) (hF : ∀ W, Calls Tryd.prog 25 #[.string v] W fun e w' => e = .returned (.tuple #[.agg #[.string n, .int .i64 k, .int .i64 a, .bool p], .bool true]) ∧ Below W.heap.size W w') (hC : ∀ W, Calls Tryd.prog 26 #[.string y] W fun e w' => e = .returned (.bool true) ∧ Below W.heap.size W w') (h1 : (n.toList == v.toList) = true) (h2 : (a == 0) = false) (h2' : (a == 2) = true) (h3 : y.toList.isEmpty = false) (h4 : (y.toList == []) = false) : Calls Tryd.prog 12 #[.agg #[.string v, .string y]] w fun e w' => e = .returned (.bool true) ∧ Below w.heap.size w w' := by
  have HB := Aside0.mk (Below.refl w.heap.size w)
  have HF := Aside0.mk hF
  have HC := Aside0.mk hC
  clear hF hC
  go_enter Tryd.func12, Tryd.ntmps12
  go_wp2_with (first
    | (go_at_call 25; (with_reducible refine (HF.out _).mono ?_); rintro e v1 ⟨rfl, hb⟩; have KC := Aside0.mk (blk_below (Wk.nw0 w (.cells #[.string v, .string y] 23)) hb); replace HB := Aside0.mk ((Wk.st1 HB.out _).trans (hb.mono (Wk.st1 HB.out _).size)); clear hb; have c0C0 : v1.cell? ⟨w.heap.size, 0, none⟩ = some (.string v) := (blk_cell KC.out 0).trans rfl; have c1C0 : ∀ o0, (v1.alloc o0).cell? ⟨w.heap.size, 0, none⟩ = some (.string v) := fun o0 => (blk_cell (blk_alloc KC.out o0) 0).trans rfl; have c0C1 : v1.cell? ⟨w.heap.size, 1, none⟩ = some (.string y) := (blk_cell KC.out 1).trans rfl; have c1C1 : ∀ o0, (v1.alloc o0).cell? ⟨w.heap.size, 1, none⟩ = some (.string y) := fun o0 => (blk_cell (blk_alloc KC.out o0) 1).trans rfl; have tok1 := trivial)
    | (go_at_call 26; (with_reducible refine (HC.out _).mono ?_); rintro e v2 ⟨rfl, hb⟩; clear c0C0 c1C0 c0C1 c1C1; replace KC := Aside0.mk (blk_below (blk_alloc KC.out _) hb); have KV := Aside0.mk (blk_below (Wk.nw0 v1 (.cells #[.string n, .int .i64 k, .int .i64 a, .bool p] 64)) hb); replace HB := Aside0.mk ((Wk.st1 HB.out _).trans (hb.mono (Wk.st1 HB.out _).size)); clear hb; have c0C0 : v2.cell? ⟨w.heap.size, 0, none⟩ = some (.string v) := (blk_cell KC.out 0).trans rfl; have c1C0 : ∀ o0, (v2.alloc o0).cell? ⟨w.heap.size, 0, none⟩ = some (.string v) := fun o0 => (blk_cell (blk_alloc KC.out o0) 0).trans rfl; have c0C1 : v2.cell? ⟨w.heap.size, 1, none⟩ = some (.string y) := (blk_cell KC.out 1).trans rfl; have c1C1 : ∀ o0, (v2.alloc o0).cell? ⟨w.heap.size, 1, none⟩ = some (.string y) := fun o0 => (blk_cell (blk_alloc KC.out o0) 1).trans rfl; have c0V0 : v2.cell? ⟨v1.heap.size, 0, none⟩ = some (.string n) := (blk_cell KV.out 0).trans rfl; have c1V0 : ∀ o0, (v2.alloc o0).cell? ⟨v1.heap.size, 0, none⟩ = some (.string n) := fun o0 => (blk_cell (blk_alloc KV.out o0) 0).trans rfl; have c0V1 : v2.cell? ⟨v1.heap.size, 1, none⟩ = some (.int .i64 k) := (blk_cell KV.out 1).trans rfl; have c1V1 : ∀ o0, (v2.alloc o0).cell? ⟨v1.heap.size, 1, none⟩ = some (.int .i64 k) := fun o0 => (blk_cell (blk_alloc KV.out o0) 1).trans rfl; have c0V2 : v2.cell? ⟨v1.heap.size, 2, none⟩ = some (.int .i64 a) := (blk_cell KV.out 2).trans rfl; have c1V2 : ∀ o0, (v2.alloc o0).cell? ⟨v1.heap.size, 2, none⟩ = some (.int .i64 a) := fun o0 => (blk_cell (blk_alloc KV.out o0) 2).trans rfl; have c0V3 : v2.cell? ⟨v1.heap.size, 3, none⟩ = some (.bool p) := (blk_cell KV.out 3).trans rfl; have c1V3 : ∀ o0, (v2.alloc o0).cell? ⟨v1.heap.size, 3, none⟩ = some (.bool p) := fun o0 => (blk_cell (blk_alloc KV.out o0) 3).trans rfl; have tok2 := trivial))
  go_ret
  exact ⟨rfl, HB.out⟩
set_option maxHeartbeats 4000000 in
set_option maxRecDepth 100000 in
theorem may_else (v y n : ByteArray) (k a : Int) (p : Bool) (w : World) (hF : ∀ W, Calls Tryd.prog 25 #[.string v] W fun e w' => e = .returned (.tuple #[.agg #[.string n, .int .i64 k, .int .i64 a, .bool p], .bool true]) ∧ Below W.heap.size W w') (hC : ∀ W, Calls Tryd.prog 26 #[.string y] W fun e w' => e = .returned (.bool true) ∧ Below W.heap.size W w') (h1 : (n.toList == v.toList) = true) (h2 : (a == 0) = false) (h2' : (a == 2) = false) : Calls Tryd.prog 12 #[.agg #[.string v, .string y]] w fun e w' => e = .returned (.bool true) ∧ Below w.heap.size w w' := by
  have HB := Aside0.mk (Below.refl w.heap.size w)
  have HF := Aside0.mk hF
  have HC := Aside0.mk hC
  clear hF hC
  go_enter Tryd.func12, Tryd.ntmps12
  go_wp2_with (first
    | (go_at_call 25; (with_reducible refine (HF.out _).mono ?_); rintro e v1 ⟨rfl, hb⟩; have KC := Aside0.mk (blk_below (Wk.nw0 w (.cells #[.string v, .string y] 23)) hb); replace HB := Aside0.mk ((Wk.st1 HB.out _).trans (hb.mono (Wk.st1 HB.out _).size)); clear hb; have c0C0 : v1.cell? ⟨w.heap.size, 0, none⟩ = some (.string v) := (blk_cell KC.out 0).trans rfl; have c1C0 : ∀ o0, (v1.alloc o0).cell? ⟨w.heap.size, 0, none⟩ = some (.string v) := fun o0 => (blk_cell (blk_alloc KC.out o0) 0).trans rfl; have c0C1 : v1.cell? ⟨w.heap.size, 1, none⟩ = some (.string y) := (blk_cell KC.out 1).trans rfl; have c1C1 : ∀ o0, (v1.alloc o0).cell? ⟨w.heap.size, 1, none⟩ = some (.string y) := fun o0 => (blk_cell (blk_alloc KC.out o0) 1).trans rfl; have tok1 := trivial)
    | (go_at_call 26; (with_reducible refine (HC.out _).mono ?_); rintro e v2 ⟨rfl, hb⟩; clear c0C0 c1C0 c0C1 c1C1; replace KC := Aside0.mk (blk_below (blk_alloc KC.out _) hb); have KV := Aside0.mk (blk_below (Wk.nw0 v1 (.cells #[.string n, .int .i64 k, .int .i64 a, .bool p] 64)) hb); replace HB := Aside0.mk ((Wk.st1 HB.out _).trans (hb.mono (Wk.st1 HB.out _).size)); clear hb; have c0C0 : v2.cell? ⟨w.heap.size, 0, none⟩ = some (.string v) := (blk_cell KC.out 0).trans rfl; have c1C0 : ∀ o0, (v2.alloc o0).cell? ⟨w.heap.size, 0, none⟩ = some (.string v) := fun o0 => (blk_cell (blk_alloc KC.out o0) 0).trans rfl; have c0C1 : v2.cell? ⟨w.heap.size, 1, none⟩ = some (.string y) := (blk_cell KC.out 1).trans rfl; have c1C1 : ∀ o0, (v2.alloc o0).cell? ⟨w.heap.size, 1, none⟩ = some (.string y) := fun o0 => (blk_cell (blk_alloc KC.out o0) 1).trans rfl; have c0V0 : v2.cell? ⟨v1.heap.size, 0, none⟩ = some (.string n) := (blk_cell KV.out 0).trans rfl; have c1V0 : ∀ o0, (v2.alloc o0).cell? ⟨v1.heap.size, 0, none⟩ = some (.string n) := fun o0 => (blk_cell (blk_alloc KV.out o0) 0).trans rfl; have c0V1 : v2.cell? ⟨v1.heap.size, 1, none⟩ = some (.int .i64 k) := (blk_cell KV.out 1).trans rfl; have c1V1 : ∀ o0, (v2.alloc o0).cell? ⟨v1.heap.size, 1, none⟩ = some (.int .i64 k) := fun o0 => (blk_cell (blk_alloc KV.out o0) 1).trans rfl; have c0V2 : v2.cell? ⟨v1.heap.size, 2, none⟩ = some (.int .i64 a) := (blk_cell KV.out 2).trans rfl; have c1V2 : ∀ o0, (v2.alloc o0).cell? ⟨v1.heap.size, 2, none⟩ = some (.int .i64 a) := fun o0 => (blk_cell (blk_alloc KV.out o0) 2).trans rfl; have c0V3 : v2.cell? ⟨v1.heap.size, 3, none⟩ = some (.bool p) := (blk_cell KV.out 3).trans rfl; have c1V3 : ∀ o0, (v2.alloc o0).cell? ⟨v1.heap.size, 3, none⟩ = some (.bool p) := fun o0 => (blk_cell (blk_alloc KV.out o0) 3).trans rfl; have tok2 := trivial))
  go_ret
  exact ⟨rfl, HB.out⟩
/-- May a command be: its verb's row, its argument clean, there, or not there. -/
def mayC (v y : List UInt8) (cl : Bool) : Bool := match findV v with
  | none => false
  | some t => decide (t.f0.data.toList = v) && cl && (if t.f2 = 0 then decide (y = []) else if t.f2 = 2 then !decide (y = []) else true)
theorem lit_eq (s t : ByteArray) : (s.toList == t.toList) = decide (s.data.toList = t.data.toList) := by rw [ByteArray.toList_eq, ByteArray.toList_eq, Bool.eq_iff_iff, beq_iff_eq, decide_eq_true_iff]
theorem may_calls (v y : ByteArray) (hv : v.size ≤ 1000000) (cl : Bool) (hC : ∀ W, Calls Tryd.prog 26 #[.string y] W fun e w' => e = .returned (.bool cl) ∧ Below W.heap.size W w') (w : World) :
    Calls Tryd.prog 12 #[.agg #[.string v, .string y]] w fun e w' => e = .returned (.bool (mayC v.data.toList y.data.toList cl)) ∧ Below w.heap.size w w' := by
  have hF := fun (n : ByteArray) (k a : Int) (p z : Bool) (h : (match findV v.data.toList with | some v => (v.f0, v.f1, v.f2, v.f3, true) | none => (⟨#[]⟩, 0, 0, false, false)) = (n, k, a, p, z)) (W : World) => Find_calls v hv n k a p z h W
  rw [mayC]
  cases ho : findV v.data.toList with
  | none =>
    rw [ho] at hF
    exact may_none v y ⟨#[]⟩ 0 0 false w (hF ⟨#[]⟩ 0 0 false false rfl)
  | some t =>
    obtain ⟨n, k, a, p⟩ := t
    rw [ho] at hF
    have hf := hF n k a p true rfl
    have key : ∀ b, decide (n.data.toList = v.data.toList) = b → (n.toList == v.toList) = b := fun b h => by rw [lit_eq]; exact h
    have ey : ∀ b, decide (y.data.toList = []) = b → y.toList.isEmpty = b ∧ (y.toList == []) = b := fun b h => by
      rw [ByteArray.toList_eq]
      subst h
      constructor
      · rw [Bool.eq_iff_iff, List.isEmpty_iff, decide_eq_true_iff]
      · rw [Bool.eq_iff_iff, beq_iff_eq, decide_eq_true_iff]
    cases hn : decide (n.data.toList = v.data.toList)
    · simp only [hn, Bool.false_and]
      exact may_other v y n k a p w hf (key _ hn)
    · cases cl
      · simp only [hn, Bool.true_and, Bool.false_and]
        exact may_dirty v y n k a p w hf hC (key _ hn)
      · simp only [hn, Bool.true_and]
        by_cases h0 : a = 0
        · rw [if_pos h0]
          cases he : decide (y.data.toList = [])
          · exact may_zero_false v y n k a p w hf hC (key _ hn) (beq_iff_eq.2 h0) (ey _ he).1 (ey _ he).2
          · exact may_zero_true v y n k a p w hf hC (key _ hn) (beq_iff_eq.2 h0) (ey _ he).1 (ey _ he).2
        · rw [if_neg h0]
          by_cases h2 : a = 2
          · rw [if_pos h2]
            cases he : decide (y.data.toList = [])
            · exact may_two_false v y n k a p w hf hC (key _ hn) (beq_eq_false_iff_ne.2 h0) (beq_iff_eq.2 h2) (ey _ he).1 (ey _ he).2
            · exact may_two_true v y n k a p w hf hC (key _ hn) (beq_eq_false_iff_ne.2 h0) (beq_iff_eq.2 h2) (ey _ he).1 (ey _ he).2
          · rw [if_neg h2]
            exact may_else v y n k a p w hf hC (key _ hn) (beq_eq_false_iff_ne.2 h0) (beq_eq_false_iff_ne.2 h2)
end Go.Proofs.YtdcbkeihgbekdaaDoor.CmdMay

namespace Go.Proofs.YtdcbkeihgbekdaaDoor.SixP
open Go Go.Proofs.YtdcbkeihgbekdaaDoor.Dig Go.Proofs.YtdcbkeihgbekdaaDoor.Cut

theorem six_bytes (a b c d p : Nat) : ∀ x ∈ sixU a b c d p, x = 44 ∨ isDig x = true := by
  have h : ∀ n, ∀ x ∈ digU n, isDig x = true := fun n x hx => List.all_eq_true.1 (digU_all n).1 x hx
  intro x hx
  simp only [sixU, jn, List.mem_append, List.mem_cons] at hx
  rcases hx with hx | hx | hx | hx | hx | hx | hx | hx | hx | hx | hx
  all_goals first | exact .inr (h _ _ hx) | exact .inl hx
theorem find_text {ahead : List UInt8} (h : 40 ∉ ahead) (a b c d p : Nat) (behind : List UInt8) (ha : a ≤ 255) (hb : b ≤ 255) (hc : c ≤ 255) (hd : d ≤ 255) (hp : p ≤ 65535) :
    find (ahead ++ 40 :: (sixU a b c d p ++ 41 :: behind)) = some (a, b, c, d, p) := by
  have h41 : 41 ∉ sixU a b c d p := fun hm => by
    rcases six_bytes a b c d p 41 hm with e | e
    · exact absurd e (by decide)
    · exact absurd e (by decide)
  simp only [find, Option.bind_eq_some_iff]
  exact ⟨_, cut1_some _ h, _, cut1_some _ h41, (readSix_iff _ _ _ _ _ _).2 ⟨rfl, ha, hb, hc, hd, hp⟩⟩

end Go.Proofs.YtdcbkeihgbekdaaDoor.SixP
