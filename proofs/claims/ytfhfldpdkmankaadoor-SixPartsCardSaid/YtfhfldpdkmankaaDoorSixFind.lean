/- The contracts of six.Find and of the reference's Find. -/
import Derived.Test.YtfhfldpdkmankaaDoorSixRefRead
import Derived.Test.YtfhfldpdkmankaaDoorSixQ
import Derived.WalkSmall
namespace Go.Proofs.YtfhfldpdkmankaaDoor.Six
open Go Go.RowKit Go.Proofs.YtfhfldpdkmankaaDoorW.PrintWords Go.Proofs.YtfhfldpdkmankaaDoorW.PrintLast Go.Proofs.YtfhfldpdkmankaaDoorW.PrintMore Go.Proofs.YtfhfldpdkmankaaDoor.Dig Go.Proofs.YtfhfldpdkmankaaDoor.Quad Go.Proofs.YtfhfldpdkmankaaDoor.SixP
set_option linter.unusedVariables false
set_option linter.unusedSimpArgs false

theorem res_find (tmps : Array Value) (W : World) (H : Nat) (a b c d p : Int) (t : Bool) (h2 : tmps.getD 2 undef = .pointer (some ⟨H, 0, none⟩)) (h3 : tmps.getD 3 undef = .bool t) (hh : W.heap[H]? = some (.cells #[.int .u8 a, .int .u8 b, .int .u8 c, .int .u8 d, .int .i64 p] 25 (0, 0))) :
   (results Tryd.f13 tmps).run Tryd.prog W = .ok (.tuple #[.agg #[.int .u8 a, .int .u8 b, .int .u8 c, .int .u8 d, .int .i64 p], .bool t]) W := by
  have c0 : W.cell? ⟨H, 0, none⟩ = some (.int .u8 a) := (blk_cell hh 0).trans rfl
  have c1 : W.cell? ⟨H, 1, none⟩ = some (.int .u8 b) := (blk_cell hh 1).trans rfl
  have c2 : W.cell? ⟨H, 2, none⟩ = some (.int .u8 c) := (blk_cell hh 2).trans rfl
  have c3 : W.cell? ⟨H, 3, none⟩ = some (.int .u8 d) := (blk_cell hh 3).trans rfl
  have c4 : W.cell? ⟨H, 4, none⟩ = some (.int .i64 p) := (blk_cell hh 4).trans rfl
  rw [Array.getD_eq_getD_getElem?] at h2 h3
  simp [results, show Tryd.f13.results = #[.cell 2 25, .tmp 3] from rfl, h2, h3, go_sem, c0, c1, c2, c3, c4]
/-- strings.Cut by one byte, as it is met. -/
theorem cut_calls (c : UInt8) (s x y : ByteArray) (t : Bool) (hs : s.size < 4294967281) (h : Lib.cut s.data.toList [c] = (x.data.toList, y.data.toList, t)) (w0 w : World) (hm : Mx w0) (hb : Below w0.heap.size w0 w) :
    Calls Tryd.prog 22 #[.string s, .string ⟨#[c]⟩] w fun e w' => e = .returned (.tuple #[.string x, .string y, .bool t]) ∧ Below w.heap.size w w' := by
  obtain ⟨m, hm⟩ := hm.below hb
  refine (Tryd.strings_Cut s ⟨#[c]⟩ m w hs hm).mono ?_
  rintro e w' ⟨he, n, rfl⟩
  rw [show (ByteArray.mk #[c]).data.toList = [c] from rfl, h] at he
  exact ⟨he, below_drewN (Below.refl _ _) n⟩
def CutIs (c : UInt8) (s x y : ByteArray) (t : Bool) : Prop := s.size < 4294967281 ∧ Lib.cut s.data.toList [c] = (x.data.toList, y.data.toList, t)
theorem CutIs.calls {c : UInt8} {s x y : ByteArray} {t : Bool} (h : CutIs c s x y t) {w0 w : World} (hm : Mx w0) (hb : Below w0.heap.size w0 w) :
    Calls Tryd.prog 22 #[.string s, .string ⟨#[c]⟩] w fun e w' => e = .returned (.tuple #[.string x, .string y, .bool t]) ∧ Below w.heap.size w w' := cut_calls c s x y t h.1 h.2 w0 w hm hb
def zeroE : Value := .agg #[.int .u8 0, .int .u8 0, .int .u8 0, .int .u8 0, .int .i64 0]
/-- What Read hands back, taken apart. -/
theorem readR_form (o : Option (Nat × Nat × Nat × Nat × Nat)) : ∃ (a b c d : Nat) (p : Nat) (t : Bool), readR o = .tuple #[.agg #[.int .u8 a, .int .u8 b, .int .u8 c, .int .u8 d, .int .i64 p], .bool t] := by
  cases o with
  | none => exact ⟨0, 0, 0, 0, 0, false, rfl⟩
  | some x => obtain ⟨a, b, c, d, p⟩ := x; exact ⟨a, b, c, d, p, true, rfl⟩

set_option maxHeartbeats 2000000 in
set_option maxRecDepth 100000 in
theorem find_calls (s : ByteArray) (hs : s.size ≤ 1000000) (w : World) (hm : Mx w) :
    Calls Tryd.prog 13 #[.string s] w fun e w' => e = .returned (readR (find s.data.toList)) ∧ Below w.heap.size w w' := by
  have HM := Aside0.mk hm
  have HB := Aside0.mk (show Below w.heap.size w (w.alloc (.cells #[.int .u8 0, .int .u8 0, .int .u8 0, .int .u8 0, .int .i64 0] 25)) from (Below.refl _ _).alloc (Nat.le_refl _) _)
  have HZ := Aside0.mk (show (w.alloc (.cells #[.int .u8 0, .int .u8 0, .int .u8 0, .int .u8 0, .int .i64 0] 25)).heap[w.heap.size]? = some (.cells #[.int .u8 0, .int .u8 0, .int .u8 0, .int .u8 0, .int .i64 0] 25 (0, 0)) from blk_new _ _)
  have hl := data_length s
  cases h1 : cut1 40 s.data.toList with
  | none =>
    have HC1 := Aside0.mk (show CutIs 40 s s ⟨#[]⟩ false from ⟨by omega, by rw [lib_cut, h1]⟩)
    have HC2 := Aside0.mk (show CutIs 41 ⟨#[]⟩ ⟨#[]⟩ ⟨#[]⟩ false from ⟨by decide, by decide⟩)
    have HF := Aside0.mk (show readR (find s.data.toList) = readR none from by rw [find, h1]; rfl)
    clear h1 hl hm
    go_enter Tryd.func13, Tryd.ntmps13
    go_wp2_with (first
      | (go_at_call 22; with_reducible refine (HC1.out.calls HM.out HB.out).mono ?_; rintro e w1 ⟨rfl, hb⟩; replace HB := Aside0.mk (HB.out.trans (hb.mono HB.out.size)); replace HZ := Aside0.mk (blk_below HZ.out hb); clear hb)
      | (go_at_call 22; with_reducible refine (HC2.out.calls HM.out HB.out).mono ?_; rintro e w2 ⟨rfl, hb⟩; replace HB := Aside0.mk (HB.out.trans (hb.mono HB.out.size)); replace HZ := Aside0.mk (blk_below HZ.out hb); clear hb; have zf0 := blk_frozen HZ.out 0; have zc0 : w2.cell? ⟨w.heap.size, 0, none⟩ = some (.int .u8 0) := (blk_cell HZ.out 0).trans rfl; have zf1 := blk_frozen HZ.out 1; have zc1 : w2.cell? ⟨w.heap.size, 1, none⟩ = some (.int .u8 0) := (blk_cell HZ.out 1).trans rfl; have zf2 := blk_frozen HZ.out 2; have zc2 : w2.cell? ⟨w.heap.size, 2, none⟩ = some (.int .u8 0) := (blk_cell HZ.out 2).trans rfl; have zf3 := blk_frozen HZ.out 3; have zc3 : w2.cell? ⟨w.heap.size, 3, none⟩ = some (.int .u8 0) := (blk_cell HZ.out 3).trans rfl; have zf4 := blk_frozen HZ.out 4; have zc4 : w2.cell? ⟨w.heap.size, 4, none⟩ = some (.int .i64 0) := (blk_cell HZ.out 4).trans rfl; have tok := trivial))
    try simp only [Exit.inBlock, Exit.then]
    refine bodyPost_ret (res_find _ _ w.heap.size 0 0 0 0 0 false rfl rfl (blk_put (blk_put (blk_put (blk_put (blk_put HZ.out 0 _ rfl) 1 _ rfl) 2 _ rfl) 3 _ rfl) 4 _ rfl)) rfl ⟨?_, ?_⟩
    · first | (rw [HF.out]; rfl) | (rw [HF.out]) | rfl
    · exact ((((HB.out.setCell (Nat.le_refl _) _).setCell (Nat.le_refl _) _).setCell (Nat.le_refl _) _).setCell (Nat.le_refl _) _).setCell (Nat.le_refl _) _
  | some xr =>
    obtain ⟨a, r⟩ := xr
    have hi := (cut1_is h1).1
    have hrl : r.length ≤ s.data.toList.length := by rw [hi]; simp; omega
    cases h2 : cut1 41 r with
    | none =>
      have HC1 := Aside0.mk (show CutIs 40 s ⟨a.toArray⟩ ⟨r.toArray⟩ true from ⟨by omega, by rw [lib_cut, h1]⟩)
      have HC2 := Aside0.mk (show CutIs 41 ⟨r.toArray⟩ ⟨r.toArray⟩ ⟨#[]⟩ false from ⟨by rw [← data_length]; show r.length < _; omega, by rw [lib_cut]; show (match cut1 41 r with | some (a, b) => (a, b, true) | none => (r, [], false)) = _; rw [h2]⟩)
      have HF := Aside0.mk (show readR (find s.data.toList) = readR none from by rw [find, h1]; show readR ((cut1 41 r).bind fun y => readSix y.1) = _; rw [h2]; rfl)
      clear h1 h2 hl hm hi hrl
      go_enter Tryd.func13, Tryd.ntmps13
      go_wp2_with (first
        | (go_at_call 22; with_reducible refine (HC1.out.calls HM.out HB.out).mono ?_; rintro e w1 ⟨rfl, hb⟩; replace HB := Aside0.mk (HB.out.trans (hb.mono HB.out.size)); replace HZ := Aside0.mk (blk_below HZ.out hb); clear hb)
        | (go_at_call 22; with_reducible refine (HC2.out.calls HM.out HB.out).mono ?_; rintro e w2 ⟨rfl, hb⟩; replace HB := Aside0.mk (HB.out.trans (hb.mono HB.out.size)); replace HZ := Aside0.mk (blk_below HZ.out hb); clear hb; have zf0 := blk_frozen HZ.out 0; have zc0 : w2.cell? ⟨w.heap.size, 0, none⟩ = some (.int .u8 0) := (blk_cell HZ.out 0).trans rfl; have zf1 := blk_frozen HZ.out 1; have zc1 : w2.cell? ⟨w.heap.size, 1, none⟩ = some (.int .u8 0) := (blk_cell HZ.out 1).trans rfl; have zf2 := blk_frozen HZ.out 2; have zc2 : w2.cell? ⟨w.heap.size, 2, none⟩ = some (.int .u8 0) := (blk_cell HZ.out 2).trans rfl; have zf3 := blk_frozen HZ.out 3; have zc3 : w2.cell? ⟨w.heap.size, 3, none⟩ = some (.int .u8 0) := (blk_cell HZ.out 3).trans rfl; have zf4 := blk_frozen HZ.out 4; have zc4 : w2.cell? ⟨w.heap.size, 4, none⟩ = some (.int .i64 0) := (blk_cell HZ.out 4).trans rfl; have tok := trivial))
      try simp only [Exit.inBlock, Exit.then]
      refine bodyPost_ret (res_find _ _ w.heap.size 0 0 0 0 0 false rfl rfl (blk_put (blk_put (blk_put (blk_put (blk_put HZ.out 0 _ rfl) 1 _ rfl) 2 _ rfl) 3 _ rfl) 4 _ rfl)) rfl ⟨?_, ?_⟩
      · first | (rw [HF.out]; rfl) | (rw [HF.out]) | rfl
      · exact ((((HB.out.setCell (Nat.le_refl _) _).setCell (Nat.le_refl _) _).setCell (Nat.le_refl _) _).setCell (Nat.le_refl _) _).setCell (Nat.le_refl _) _
    | some yr =>
      obtain ⟨m, r2⟩ := yr
      have hi2 := (cut1_is h2).1
      have hml : m.length ≤ r.length := by rw [hi2]; simp
      have HC1 := Aside0.mk (show CutIs 40 s ⟨a.toArray⟩ ⟨r.toArray⟩ true from ⟨by omega, by rw [lib_cut, h1]⟩)
      have HC2 := Aside0.mk (show CutIs 41 ⟨r.toArray⟩ ⟨m.toArray⟩ ⟨r2.toArray⟩ true from ⟨by rw [← data_length]; show r.length < _; omega, by rw [lib_cut]; show (match cut1 41 r with | some (a, b) => (a, b, true) | none => (r, [], false)) = _; rw [h2]⟩)
      have HRS := Aside0.mk (show (⟨m.toArray⟩ : ByteArray).size < 4294967281 from by rw [← data_length]; show m.length < _; omega)
      obtain ⟨a1, b1, c1, d1, p1, t1, hrv⟩ := readR_form (readSix m)
      have HRV := Aside0.mk (show readR (readSix (⟨m.toArray⟩ : ByteArray).data.toList) = .tuple #[.agg #[.int .u8 a1, .int .u8 b1, .int .u8 c1, .int .u8 d1, .int .i64 p1], .bool t1] from hrv)
      have HF := Aside0.mk (show readR (find s.data.toList) = .tuple #[.agg #[.int .u8 a1, .int .u8 b1, .int .u8 c1, .int .u8 d1, .int .i64 p1], .bool t1] from by rw [find, h1]; show readR ((cut1 41 r).bind fun y => readSix y.1) = _; rw [h2]; exact hrv)
      clear h1 h2 hl hm hi hrl hi2 hml hrv
      go_enter Tryd.func13, Tryd.ntmps13
      go_wp2_with (first
        | (go_at_call 22; with_reducible refine (HC1.out.calls HM.out HB.out).mono ?_; rintro e w1 ⟨rfl, hb⟩; replace HB := Aside0.mk (HB.out.trans (hb.mono HB.out.size)); replace HZ := Aside0.mk (blk_below HZ.out hb); clear hb)
        | (go_at_call 22; with_reducible refine (HC2.out.calls HM.out HB.out).mono ?_; rintro e w2 ⟨rfl, hb⟩; replace HB := Aside0.mk (HB.out.trans (hb.mono HB.out.size)); replace HZ := Aside0.mk (blk_below HZ.out hb); clear hb; have zf0 := blk_frozen HZ.out 0; have zc0 : w2.cell? ⟨w.heap.size, 0, none⟩ = some (.int .u8 0) := (blk_cell HZ.out 0).trans rfl; have zf1 := blk_frozen HZ.out 1; have zc1 : w2.cell? ⟨w.heap.size, 1, none⟩ = some (.int .u8 0) := (blk_cell HZ.out 1).trans rfl; have zf2 := blk_frozen HZ.out 2; have zc2 : w2.cell? ⟨w.heap.size, 2, none⟩ = some (.int .u8 0) := (blk_cell HZ.out 2).trans rfl; have zf3 := blk_frozen HZ.out 3; have zc3 : w2.cell? ⟨w.heap.size, 3, none⟩ = some (.int .u8 0) := (blk_cell HZ.out 3).trans rfl; have zf4 := blk_frozen HZ.out 4; have zc4 : w2.cell? ⟨w.heap.size, 4, none⟩ = some (.int .i64 0) := (blk_cell HZ.out 4).trans rfl; have tok := trivial)
        | (go_at_call 11; clear zf0 zc0; clear zf1 zc1; clear zf2 zc2; clear zf3 zc3; clear zf4 zc4; refine (read_calls _ HRS.out _ (HM.out.below HB.out)).mono ?_; rw [HRV.out]; rintro e w3 ⟨rfl, hb⟩; replace HB := Aside0.mk (HB.out.trans (hb.mono HB.out.size)); replace HZ := Aside0.mk (blk_below HZ.out hb); clear hb; have zf0 := blk_frozen HZ.out 0; have zc0 : w3.cell? ⟨w.heap.size, 0, none⟩ = some (.int .u8 0) := (blk_cell HZ.out 0).trans rfl; have zf1 := blk_frozen HZ.out 1; have zc1 : w3.cell? ⟨w.heap.size, 1, none⟩ = some (.int .u8 0) := (blk_cell HZ.out 1).trans rfl; have zf2 := blk_frozen HZ.out 2; have zc2 : w3.cell? ⟨w.heap.size, 2, none⟩ = some (.int .u8 0) := (blk_cell HZ.out 2).trans rfl; have zf3 := blk_frozen HZ.out 3; have zc3 : w3.cell? ⟨w.heap.size, 3, none⟩ = some (.int .u8 0) := (blk_cell HZ.out 3).trans rfl; have zf4 := blk_frozen HZ.out 4; have zc4 : w3.cell? ⟨w.heap.size, 4, none⟩ = some (.int .i64 0) := (blk_cell HZ.out 4).trans rfl; have tok2 := trivial))
      try simp only [Exit.inBlock, Exit.then]
      refine bodyPost_ret (res_find _ _ w.heap.size a1 b1 c1 d1 p1 t1 rfl rfl (blk_put (blk_put (blk_put (blk_put (blk_put HZ.out 0 _ rfl) 1 _ rfl) 2 _ rfl) 3 _ rfl) 4 _ rfl)) rfl ⟨?_, ?_⟩
      · first | (rw [HF.out]; rfl) | (rw [HF.out]) | rfl
      · exact ((((HB.out.setCell (Nat.le_refl _) _).setCell (Nat.le_refl _) _).setCell (Nat.le_refl _) _).setCell (Nat.le_refl _) _).setCell (Nat.le_refl _) _
end Go.Proofs.YtfhfldpdkmankaaDoor.Six
