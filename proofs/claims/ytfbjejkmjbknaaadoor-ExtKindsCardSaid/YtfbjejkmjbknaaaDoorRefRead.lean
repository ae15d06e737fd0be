/- The contract of the reference's Read. -/
import Derived.Test.YtfbjejkmjbknaaaDoorRefCut
import Derived.Test.YtfbjejkmjbknaaaDoorRefGet
import Derived.Test.YtfbjejkmjbknaaaDoorQuadRead
namespace Go.Proofs.YtfbjejkmjbknaaaDoor.Quad
open Go Go.RowKit Go.Proofs.YtfbjejkmjbknaaaDoorW.PrintWords Go.Proofs.YtfbjejkmjbknaaaDoorW.PrintLast Go.Proofs.YtfbjejkmjbknaaaDoorW.PrintMore Go.Proofs.YtfbjejkmjbknaaaDoor.Dig
set_option linter.unusedVariables false
set_option linter.unusedSimpArgs false

theorem res_ref_read (tmps : Array Value) (W : World) (H : Nat) (a b c d : Int) (t : Bool) (h2 : tmps.getD 2 undef = .pointer (some ⟨H, 0, none⟩)) (h3 : tmps.getD 3 undef = .bool t) (hh : W.heap[H]? = some (.cells #[.int .u8 a, .int .u8 b, .int .u8 c, .int .u8 d] 23 (0, 0))) :
   (results Tryd.f28 tmps).run Tryd.prog W = .ok (.tuple #[.agg #[.int .u8 a, .int .u8 b, .int .u8 c, .int .u8 d], .bool t]) W := by
  have c0 : W.cell? ⟨H, 0, none⟩ = some (.int .u8 a) := (blk_cell hh 0).trans rfl
  have c1 : W.cell? ⟨H, 1, none⟩ = some (.int .u8 b) := (blk_cell hh 1).trans rfl
  have c2 : W.cell? ⟨H, 2, none⟩ = some (.int .u8 c) := (blk_cell hh 2).trans rfl
  have c3 : W.cell? ⟨H, 3, none⟩ = some (.int .u8 d) := (blk_cell hh 3).trans rfl
  rw [Array.getD_eq_getD_getElem?] at h2 h3
  simp [results, show Tryd.f28.results = #[.cell 2 23, .tmp 3] from rfl, h2, h3, go_sem, c0, c1, c2, c3]

set_option maxHeartbeats 2000000 in
set_option maxRecDepth 100000 in
theorem ref_read_calls (s : ByteArray) (hs : s.size ≤ 1000000) (w : World) :
    Calls Tryd.prog 28 #[.string s] w fun e w' => e = .returned (readR (readN s.data.toList)) ∧ Below w.heap.size w w' := by
  obtain ⟨R, hR⟩ : ∃ R, R = readR (readN s.data.toList) := ⟨_, rfl⟩
  rw [← hR]
  have HSZ := Aside0.mk hs
  have HRR := Aside0.mk hR
  clear hR hs
  by_cases hl : (Cut.cut 46 s.data.toList).length = 4
  · obtain ⟨p0, p1, p2, p3, hps⟩ : ∃ p0 p1 p2 p3, Cut.cut 46 s.data.toList = [p0, p1, p2, p3] := by
      match Cut.cut 46 s.data.toList, hl with
      | [p0, p1, p2, p3], _ => exact ⟨p0, p1, p2, p3, rfl⟩
    have HR := Aside0.mk (show R = readR (four p0 p1 p2 p3) from by rw [HRR.out, readN, hps])
    have HPS := Aside0.mk hps
    clear hl hps
    go_enter Tryd.func28, Tryd.ntmps28
    go_wp2_with (go_at_call 26; refine (ref_cut_calls s 46 HSZ.out _).mono ?_; rintro e w1 ⟨v1, rfl, ho1, hb1⟩; have G1 := Aside0.mk (blk_below (blk_new w (.cells #[.int .u8 0, .int .u8 0, .int .u8 0, .int .u8 0] 23)) hb1); have HB1 := Aside0.mk (((Below.refl w.heap.size w).alloc (Nat.le_refl _) (.cells #[.int .u8 0, .int .u8 0, .int .u8 0, .int .u8 0] 23)).trans (hb1.mono (by simp))); obtain ⟨q, cp, rfl, hcp, hq, hql, hcell⟩ := Laws.own_cells ho1 (List.length_pos_iff.2 (Cut.cut_ne 46 s.data.toList)); have HQ := Aside0.mk (And.intro hql hcell); have hlt1 : w.heap.size < w1.heap.size := blk_lt G1.out; have hne1 : w.heap.size ≠ w1.heap.size := Nat.ne_of_lt hlt1; clear hb1 ho1 hcp hq hql hcell; have hcc := HQ.out.2; rw [HPS.out] at hcc ⊢; have HCC := Aside0.mk hcc; clear hcc; simp only [List.length_cons, List.length_nil, Nat.zero_add, Nat.reduceAdd])
    go_loopw [6] (fun i wr => ∃ k : Nat, k ≤ 4 ∧ i = .int .i64 k ∧ ∃ vs : List Nat, vs.length = k ∧ Aside0 (([p0, p1, p2, p3].take k).map get255 = vs.map some) ∧
      Aside0 (wr.heap[w1.heap.size]? = some (.cells (vs.map (fun v => Value.int .u8 (v : Nat)) ++ List.replicate (4 - k) (Value.int .u8 0)).toArray 23 (0, 0))) ∧
      Aside0 (Below w1.heap.size w1 wr)) (fun i _ => 4 - (intOf i).toNat)
    case atStart => exact ⟨0, Nat.zero_le _, rfl, [], rfl, ⟨rfl⟩, ⟨by have := blk_new w1 (.cells #[.int .u8 0, .int .u8 0, .int .u8 0, .int .u8 0] 23); exact this⟩, ⟨(Below.refl _ _).alloc (Nat.le_refl _) _⟩⟩
    case round =>
      obtain ⟨k, hk, rfl, vs, hvl, HV, HH, HB⟩ := hrel
      have HZ := Aside0.mk (blk_below G1.out HB.out)
      have HCW : Aside0 (∀ (j : Nat) x, ([p0, p1, p2, p3].map str)[j]? = some x → wr.cell? ⟨q, 0 + j, none⟩ = some x) := ⟨fun j x hx => (HB.out.cell HQ.out.1).trans (HCC.out j x hx)⟩
      obtain rfl | rfl | rfl | rfl | rfl : k = 0 ∨ k = 1 ∨ k = 2 ∨ k = 3 ∨ k = 4 := by omega
      · obtain rfl : vs = [] := by
          match vs, hvl with
          | [], _ => exact rfl
        have HH2 : Aside0 (wr.heap[w1.heap.size]? = some (.cells #[.int .u8 0, .int .u8 0, .int .u8 0, .int .u8 0] 23 (0, 0))) := HH
        have f0 := blk_frozen HH2.out 0
        have c0 : wr.cell? ⟨w1.heap.size, 0, none⟩ = some (.int .u8 0) := (blk_cell HH2.out 0).trans rfl
        have g0 := blk_frozen HZ.out 0
        have z0 : wr.cell? ⟨w.heap.size, 0, none⟩ = some (.int .u8 0) := (blk_cell HZ.out 0).trans rfl
        have f1 := blk_frozen HH2.out 1
        have c1 : wr.cell? ⟨w1.heap.size, 1, none⟩ = some (.int .u8 0) := (blk_cell HH2.out 1).trans rfl
        have g1 := blk_frozen HZ.out 1
        have z1 : wr.cell? ⟨w.heap.size, 1, none⟩ = some (.int .u8 0) := (blk_cell HZ.out 1).trans rfl
        have f2 := blk_frozen HH2.out 2
        have c2 : wr.cell? ⟨w1.heap.size, 2, none⟩ = some (.int .u8 0) := (blk_cell HH2.out 2).trans rfl
        have g2 := blk_frozen HZ.out 2
        have z2 : wr.cell? ⟨w.heap.size, 2, none⟩ = some (.int .u8 0) := (blk_cell HZ.out 2).trans rfl
        have f3 := blk_frozen HH2.out 3
        have c3 : wr.cell? ⟨w1.heap.size, 3, none⟩ = some (.int .u8 0) := (blk_cell HH2.out 3).trans rfl
        have g3 := blk_frozen HZ.out 3
        have z3 : wr.cell? ⟨w.heap.size, 3, none⟩ = some (.int .u8 0) := (blk_cell HZ.out 3).trans rfl
        have hc : wr.cell? ⟨q, 0, none⟩ = some (.string ⟨p0.toArray⟩) := HCW.out 0 (.string ⟨p0.toArray⟩) rfl
        cases hg : get255 p0 with
        | none =>
          have hgg : get (⟨p0.toArray⟩ : ByteArray).data.toList 255 = (0, false) := by rw [show (⟨p0.toArray⟩ : ByteArray).data.toList = p0 from rfl, get255_get, hg]
          have HF := Aside0.mk (show R = readR none from by rw [HR.out, four_none0 hg])
          clear hg hvl hk
          go_wp2_with (go_at_call 27; refine (ref_get_calls _ _ _).mono ?_; rintro e w9 ⟨rfl, rfl⟩; rw [hgg])
          try simp only [Exit.inBlock, Exit.then]
          refine bodyPost_ret (res_ref_read _ _ w.heap.size 0 0 0 0 false rfl rfl (blk_put (blk_put (blk_put (blk_put HZ.out 0 _ rfl) 1 _ rfl) 2 _ rfl) 3 _ rfl)) rfl ⟨?_, ?_⟩
          · first | (rw [HF.out]; rfl) | rfl
          · exact ((((HB1.out.trans (HB.out.mono HB1.out.size)).setCell (Nat.le_refl _) _).setCell (Nat.le_refl _) _).setCell (Nat.le_refl _) _).setCell (Nat.le_refl _) _
        | some n =>
          have hgg : get (⟨p0.toArray⟩ : ByteArray).data.toList 255 = ((n : Int), true) := by rw [show (⟨p0.toArray⟩ : ByteArray).data.toList = p0 from rfl, get255_get, hg]
          have hn : n ≤ 255 := ((get255_iff _ _).1 hg).2
          have hcv : IntKind.u8.wrap (n : Int) = (n : Int) := by simp [IntKind.wrap, IntKind.bits, IntKind.signed]; omega
          have HGG := Aside0.mk hg
          clear hg hvl hk hn
          go_wp2_with (go_at_call 27; refine (ref_get_calls _ _ _).mono ?_; rintro e w9 ⟨rfl, rfl⟩; rw [hgg])
          go_roundw
          case rel => exact ⟨0 + 1, by omega, by first | rfl | go_num, [] ++ [n], rfl, ⟨by have h := HV.out; have hg := HGG.out; simp only [List.take_succ_cons, List.take_zero, List.map_cons, List.map_nil, List.cons_append, List.nil_append, List.cons.injEq, and_true, true_and] at h ⊢; exact hg⟩, ⟨blk_put HH2.out 0 _ rfl⟩, ⟨HB.out.setCell (Nat.le_refl _) _⟩⟩
          case measure => simp [intOf]
      · obtain ⟨a, rfl⟩ : ∃ a, vs = [a] := by
          match vs, hvl with
          | [a], _ => exact ⟨a, rfl⟩
        have HH2 : Aside0 (wr.heap[w1.heap.size]? = some (.cells #[.int .u8 (a : Nat), .int .u8 0, .int .u8 0, .int .u8 0] 23 (0, 0))) := HH
        have f0 := blk_frozen HH2.out 0
        have c0 : wr.cell? ⟨w1.heap.size, 0, none⟩ = some (.int .u8 (a : Nat)) := (blk_cell HH2.out 0).trans rfl
        have g0 := blk_frozen HZ.out 0
        have z0 : wr.cell? ⟨w.heap.size, 0, none⟩ = some (.int .u8 0) := (blk_cell HZ.out 0).trans rfl
        have f1 := blk_frozen HH2.out 1
        have c1 : wr.cell? ⟨w1.heap.size, 1, none⟩ = some (.int .u8 0) := (blk_cell HH2.out 1).trans rfl
        have g1 := blk_frozen HZ.out 1
        have z1 : wr.cell? ⟨w.heap.size, 1, none⟩ = some (.int .u8 0) := (blk_cell HZ.out 1).trans rfl
        have f2 := blk_frozen HH2.out 2
        have c2 : wr.cell? ⟨w1.heap.size, 2, none⟩ = some (.int .u8 0) := (blk_cell HH2.out 2).trans rfl
        have g2 := blk_frozen HZ.out 2
        have z2 : wr.cell? ⟨w.heap.size, 2, none⟩ = some (.int .u8 0) := (blk_cell HZ.out 2).trans rfl
        have f3 := blk_frozen HH2.out 3
        have c3 : wr.cell? ⟨w1.heap.size, 3, none⟩ = some (.int .u8 0) := (blk_cell HH2.out 3).trans rfl
        have g3 := blk_frozen HZ.out 3
        have z3 : wr.cell? ⟨w.heap.size, 3, none⟩ = some (.int .u8 0) := (blk_cell HZ.out 3).trans rfl
        have hc : wr.cell? ⟨q, 1, none⟩ = some (.string ⟨p1.toArray⟩) := HCW.out 1 (.string ⟨p1.toArray⟩) rfl
        cases hg : get255 p1 with
        | none =>
          have hgg : get (⟨p1.toArray⟩ : ByteArray).data.toList 255 = (0, false) := by rw [show (⟨p1.toArray⟩ : ByteArray).data.toList = p1 from rfl, get255_get, hg]
          have HF := Aside0.mk (show R = readR none from by rw [HR.out, four_none1 hg])
          clear hg hvl hk
          go_wp2_with (go_at_call 27; refine (ref_get_calls _ _ _).mono ?_; rintro e w9 ⟨rfl, rfl⟩; rw [hgg])
          try simp only [Exit.inBlock, Exit.then]
          refine bodyPost_ret (res_ref_read _ _ w.heap.size 0 0 0 0 false rfl rfl (blk_put (blk_put (blk_put (blk_put HZ.out 0 _ rfl) 1 _ rfl) 2 _ rfl) 3 _ rfl)) rfl ⟨?_, ?_⟩
          · first | (rw [HF.out]; rfl) | rfl
          · exact ((((HB1.out.trans (HB.out.mono HB1.out.size)).setCell (Nat.le_refl _) _).setCell (Nat.le_refl _) _).setCell (Nat.le_refl _) _).setCell (Nat.le_refl _) _
        | some n =>
          have hgg : get (⟨p1.toArray⟩ : ByteArray).data.toList 255 = ((n : Int), true) := by rw [show (⟨p1.toArray⟩ : ByteArray).data.toList = p1 from rfl, get255_get, hg]
          have hn : n ≤ 255 := ((get255_iff _ _).1 hg).2
          have hcv : IntKind.u8.wrap (n : Int) = (n : Int) := by simp [IntKind.wrap, IntKind.bits, IntKind.signed]; omega
          have HGG := Aside0.mk hg
          clear hg hvl hk hn
          go_wp2_with (go_at_call 27; refine (ref_get_calls _ _ _).mono ?_; rintro e w9 ⟨rfl, rfl⟩; rw [hgg])
          go_roundw
          case rel => exact ⟨1 + 1, by omega, by first | rfl | go_num, [a] ++ [n], rfl, ⟨by have h := HV.out; have hg := HGG.out; simp only [List.take_succ_cons, List.take_zero, List.map_cons, List.map_nil, List.cons_append, List.nil_append, List.cons.injEq, and_true, true_and] at h ⊢; exact ⟨h, hg⟩⟩, ⟨blk_put HH2.out 1 _ rfl⟩, ⟨HB.out.setCell (Nat.le_refl _) _⟩⟩
          case measure => simp [intOf]
      · obtain ⟨a, b, rfl⟩ : ∃ a b, vs = [a, b] := by
          match vs, hvl with
          | [a, b], _ => exact ⟨a, b, rfl⟩
        have HH2 : Aside0 (wr.heap[w1.heap.size]? = some (.cells #[.int .u8 (a : Nat), .int .u8 (b : Nat), .int .u8 0, .int .u8 0] 23 (0, 0))) := HH
        have f0 := blk_frozen HH2.out 0
        have c0 : wr.cell? ⟨w1.heap.size, 0, none⟩ = some (.int .u8 (a : Nat)) := (blk_cell HH2.out 0).trans rfl
        have g0 := blk_frozen HZ.out 0
        have z0 : wr.cell? ⟨w.heap.size, 0, none⟩ = some (.int .u8 0) := (blk_cell HZ.out 0).trans rfl
        have f1 := blk_frozen HH2.out 1
        have c1 : wr.cell? ⟨w1.heap.size, 1, none⟩ = some (.int .u8 (b : Nat)) := (blk_cell HH2.out 1).trans rfl
        have g1 := blk_frozen HZ.out 1
        have z1 : wr.cell? ⟨w.heap.size, 1, none⟩ = some (.int .u8 0) := (blk_cell HZ.out 1).trans rfl
        have f2 := blk_frozen HH2.out 2
        have c2 : wr.cell? ⟨w1.heap.size, 2, none⟩ = some (.int .u8 0) := (blk_cell HH2.out 2).trans rfl
        have g2 := blk_frozen HZ.out 2
        have z2 : wr.cell? ⟨w.heap.size, 2, none⟩ = some (.int .u8 0) := (blk_cell HZ.out 2).trans rfl
        have f3 := blk_frozen HH2.out 3
        have c3 : wr.cell? ⟨w1.heap.size, 3, none⟩ = some (.int .u8 0) := (blk_cell HH2.out 3).trans rfl
        have g3 := blk_frozen HZ.out 3
        have z3 : wr.cell? ⟨w.heap.size, 3, none⟩ = some (.int .u8 0) := (blk_cell HZ.out 3).trans rfl
        have hc : wr.cell? ⟨q, 2, none⟩ = some (.string ⟨p2.toArray⟩) := HCW.out 2 (.string ⟨p2.toArray⟩) rfl
        cases hg : get255 p2 with
        | none =>
          have hgg : get (⟨p2.toArray⟩ : ByteArray).data.toList 255 = (0, false) := by rw [show (⟨p2.toArray⟩ : ByteArray).data.toList = p2 from rfl, get255_get, hg]
          have HF := Aside0.mk (show R = readR none from by rw [HR.out, four_none2 hg])
          clear hg hvl hk
          go_wp2_with (go_at_call 27; refine (ref_get_calls _ _ _).mono ?_; rintro e w9 ⟨rfl, rfl⟩; rw [hgg])
          try simp only [Exit.inBlock, Exit.then]
          refine bodyPost_ret (res_ref_read _ _ w.heap.size 0 0 0 0 false rfl rfl (blk_put (blk_put (blk_put (blk_put HZ.out 0 _ rfl) 1 _ rfl) 2 _ rfl) 3 _ rfl)) rfl ⟨?_, ?_⟩
          · first | (rw [HF.out]; rfl) | rfl
          · exact ((((HB1.out.trans (HB.out.mono HB1.out.size)).setCell (Nat.le_refl _) _).setCell (Nat.le_refl _) _).setCell (Nat.le_refl _) _).setCell (Nat.le_refl _) _
        | some n =>
          have hgg : get (⟨p2.toArray⟩ : ByteArray).data.toList 255 = ((n : Int), true) := by rw [show (⟨p2.toArray⟩ : ByteArray).data.toList = p2 from rfl, get255_get, hg]
          have hn : n ≤ 255 := ((get255_iff _ _).1 hg).2
          have hcv : IntKind.u8.wrap (n : Int) = (n : Int) := by simp [IntKind.wrap, IntKind.bits, IntKind.signed]; omega
          have HGG := Aside0.mk hg
          clear hg hvl hk hn
          go_wp2_with (go_at_call 27; refine (ref_get_calls _ _ _).mono ?_; rintro e w9 ⟨rfl, rfl⟩; rw [hgg])
          go_roundw
          case rel => exact ⟨2 + 1, by omega, by first | rfl | go_num, [a, b] ++ [n], rfl, ⟨by have h := HV.out; have hg := HGG.out; simp only [List.take_succ_cons, List.take_zero, List.map_cons, List.map_nil, List.cons_append, List.nil_append, List.cons.injEq, and_true, true_and] at h ⊢; exact ⟨h.1, h.2, hg⟩⟩, ⟨blk_put HH2.out 2 _ rfl⟩, ⟨HB.out.setCell (Nat.le_refl _) _⟩⟩
          case measure => simp [intOf]
      · obtain ⟨a, b, c, rfl⟩ : ∃ a b c, vs = [a, b, c] := by
          match vs, hvl with
          | [a, b, c], _ => exact ⟨a, b, c, rfl⟩
        have HH2 : Aside0 (wr.heap[w1.heap.size]? = some (.cells #[.int .u8 (a : Nat), .int .u8 (b : Nat), .int .u8 (c : Nat), .int .u8 0] 23 (0, 0))) := HH
        have f0 := blk_frozen HH2.out 0
        have c0 : wr.cell? ⟨w1.heap.size, 0, none⟩ = some (.int .u8 (a : Nat)) := (blk_cell HH2.out 0).trans rfl
        have g0 := blk_frozen HZ.out 0
        have z0 : wr.cell? ⟨w.heap.size, 0, none⟩ = some (.int .u8 0) := (blk_cell HZ.out 0).trans rfl
        have f1 := blk_frozen HH2.out 1
        have c1 : wr.cell? ⟨w1.heap.size, 1, none⟩ = some (.int .u8 (b : Nat)) := (blk_cell HH2.out 1).trans rfl
        have g1 := blk_frozen HZ.out 1
        have z1 : wr.cell? ⟨w.heap.size, 1, none⟩ = some (.int .u8 0) := (blk_cell HZ.out 1).trans rfl
        have f2 := blk_frozen HH2.out 2
        have c2 : wr.cell? ⟨w1.heap.size, 2, none⟩ = some (.int .u8 (c : Nat)) := (blk_cell HH2.out 2).trans rfl
        have g2 := blk_frozen HZ.out 2
        have z2 : wr.cell? ⟨w.heap.size, 2, none⟩ = some (.int .u8 0) := (blk_cell HZ.out 2).trans rfl
        have f3 := blk_frozen HH2.out 3
        have c3 : wr.cell? ⟨w1.heap.size, 3, none⟩ = some (.int .u8 0) := (blk_cell HH2.out 3).trans rfl
        have g3 := blk_frozen HZ.out 3
        have z3 : wr.cell? ⟨w.heap.size, 3, none⟩ = some (.int .u8 0) := (blk_cell HZ.out 3).trans rfl
        have hc : wr.cell? ⟨q, 3, none⟩ = some (.string ⟨p3.toArray⟩) := HCW.out 3 (.string ⟨p3.toArray⟩) rfl
        cases hg : get255 p3 with
        | none =>
          have hgg : get (⟨p3.toArray⟩ : ByteArray).data.toList 255 = (0, false) := by rw [show (⟨p3.toArray⟩ : ByteArray).data.toList = p3 from rfl, get255_get, hg]
          have HF := Aside0.mk (show R = readR none from by rw [HR.out, four_none3 hg])
          clear hg hvl hk
          go_wp2_with (go_at_call 27; refine (ref_get_calls _ _ _).mono ?_; rintro e w9 ⟨rfl, rfl⟩; rw [hgg])
          try simp only [Exit.inBlock, Exit.then]
          refine bodyPost_ret (res_ref_read _ _ w.heap.size 0 0 0 0 false rfl rfl (blk_put (blk_put (blk_put (blk_put HZ.out 0 _ rfl) 1 _ rfl) 2 _ rfl) 3 _ rfl)) rfl ⟨?_, ?_⟩
          · first | (rw [HF.out]; rfl) | rfl
          · exact ((((HB1.out.trans (HB.out.mono HB1.out.size)).setCell (Nat.le_refl _) _).setCell (Nat.le_refl _) _).setCell (Nat.le_refl _) _).setCell (Nat.le_refl _) _
        | some n =>
          have hgg : get (⟨p3.toArray⟩ : ByteArray).data.toList 255 = ((n : Int), true) := by rw [show (⟨p3.toArray⟩ : ByteArray).data.toList = p3 from rfl, get255_get, hg]
          have hn : n ≤ 255 := ((get255_iff _ _).1 hg).2
          have hcv : IntKind.u8.wrap (n : Int) = (n : Int) := by simp [IntKind.wrap, IntKind.bits, IntKind.signed]; omega
          have HGG := Aside0.mk hg
          clear hg hvl hk hn
          go_wp2_with (go_at_call 27; refine (ref_get_calls _ _ _).mono ?_; rintro e w9 ⟨rfl, rfl⟩; rw [hgg])
          go_roundw
          case rel => exact ⟨3 + 1, by omega, by first | rfl | go_num, [a, b, c] ++ [n], rfl, ⟨by have h := HV.out; have hg := HGG.out; simp only [List.take_succ_cons, List.take_zero, List.map_cons, List.map_nil, List.cons_append, List.nil_append, List.cons.injEq, and_true, true_and] at h ⊢; exact ⟨h.1, h.2.1, h.2.2, hg⟩⟩, ⟨blk_put HH2.out 3 _ rfl⟩, ⟨HB.out.setCell (Nat.le_refl _) _⟩⟩
          case measure => simp [intOf]
      · obtain ⟨a, b, c, d, rfl⟩ : ∃ a b c d, vs = [a, b, c, d] := by
          match vs, hvl with
          | [a, b, c, d], _ => exact ⟨a, b, c, d, rfl⟩
        have HH2 : Aside0 (wr.heap[w1.heap.size]? = some (.cells #[.int .u8 (a : Nat), .int .u8 (b : Nat), .int .u8 (c : Nat), .int .u8 (d : Nat)] 23 (0, 0))) := HH
        have hfour : four p0 p1 p2 p3 = some (a, b, c, d) := by
          have := HV.out
          simp only [List.take_succ_cons, List.take_zero, List.map_cons, List.map_nil, List.cons.injEq, and_true] at this
          rw [four, this.1, this.2.1, this.2.2.1, this.2.2.2]; rfl
        have HF := Aside0.mk (show R = readR (some (a, b, c, d)) from by rw [HR.out, hfour])
        have f0 := blk_frozen HH2.out 0
        have c0 : wr.cell? ⟨w1.heap.size, 0, none⟩ = some (.int .u8 (a : Nat)) := (blk_cell HH2.out 0).trans rfl
        have g0 := blk_frozen HZ.out 0
        have z0 : wr.cell? ⟨w.heap.size, 0, none⟩ = some (.int .u8 0) := (blk_cell HZ.out 0).trans rfl
        have f1 := blk_frozen HH2.out 1
        have c1 : wr.cell? ⟨w1.heap.size, 1, none⟩ = some (.int .u8 (b : Nat)) := (blk_cell HH2.out 1).trans rfl
        have g1 := blk_frozen HZ.out 1
        have z1 : wr.cell? ⟨w.heap.size, 1, none⟩ = some (.int .u8 0) := (blk_cell HZ.out 1).trans rfl
        have f2 := blk_frozen HH2.out 2
        have c2 : wr.cell? ⟨w1.heap.size, 2, none⟩ = some (.int .u8 (c : Nat)) := (blk_cell HH2.out 2).trans rfl
        have g2 := blk_frozen HZ.out 2
        have z2 : wr.cell? ⟨w.heap.size, 2, none⟩ = some (.int .u8 0) := (blk_cell HZ.out 2).trans rfl
        have f3 := blk_frozen HH2.out 3
        have c3 : wr.cell? ⟨w1.heap.size, 3, none⟩ = some (.int .u8 (d : Nat)) := (blk_cell HH2.out 3).trans rfl
        have g3 := blk_frozen HZ.out 3
        have z3 : wr.cell? ⟨w.heap.size, 3, none⟩ = some (.int .u8 0) := (blk_cell HZ.out 3).trans rfl
        clear hvl hk hfour
        go_wp2
        try simp only [Exit.inBlock, Exit.then]
        refine bodyPost_ret (res_ref_read _ _ w.heap.size a b c d true rfl rfl (blk_put (blk_put (blk_put (blk_put HZ.out 0 _ rfl) 1 _ rfl) 2 _ rfl) 3 _ rfl)) rfl ⟨?_, ?_⟩
        · first | (rw [HF.out]; rfl) | rfl
        · exact ((((HB1.out.trans (HB.out.mono HB1.out.size)).setCell (Nat.le_refl _) _).setCell (Nat.le_refl _) _).setCell (Nat.le_refl _) _).setCell (Nat.le_refl _) _
  · obtain ⟨N, hN⟩ : ∃ N, N = (Cut.cut 46 s.data.toList).length := ⟨_, rfl⟩
    have hl2 : ((N : Int) != 4) = true := by rw [hN]; simp; omega
    have HN := Aside0.mk hN
    have HF := Aside0.mk (show R = readR none from by
      rw [HRR.out, readN]
      split
      · rename_i p q r t h
        rw [h] at hl; simp at hl
      · rfl)
    clear hl hN
    go_enter Tryd.func28, Tryd.ntmps28
    go_wp2_with (go_at_call 26; refine (ref_cut_calls s 46 HSZ.out _).mono ?_; rintro e w1 ⟨v1, rfl, ho1, hb1⟩; have G1 := Aside0.mk (blk_below (blk_new w (.cells #[.int .u8 0, .int .u8 0, .int .u8 0, .int .u8 0] 23)) hb1); have HB1 := Aside0.mk (((Below.refl w.heap.size w).alloc (Nat.le_refl _) (.cells #[.int .u8 0, .int .u8 0, .int .u8 0, .int .u8 0] 23)).trans (hb1.mono (by simp))); obtain ⟨q, cp, rfl, hcp, hq, hql, hcell⟩ := Laws.own_cells ho1 (List.length_pos_iff.2 (Cut.cut_ne 46 s.data.toList)); have HQ := Aside0.mk (And.intro hql hcell); have hlt1 : w.heap.size < w1.heap.size := blk_lt G1.out; have hne1 : w.heap.size ≠ w1.heap.size := Nat.ne_of_lt hlt1; clear hb1 ho1 hcp hq hql hcell; rw [← HN.out]; have z0 : w1.cell? ⟨w.heap.size, 0, none⟩ = some (.int .u8 0) := (blk_cell G1.out 0).trans rfl; have z1 : w1.cell? ⟨w.heap.size, 1, none⟩ = some (.int .u8 0) := (blk_cell G1.out 1).trans rfl; have z2 : w1.cell? ⟨w.heap.size, 2, none⟩ = some (.int .u8 0) := (blk_cell G1.out 2).trans rfl; have z3 : w1.cell? ⟨w.heap.size, 3, none⟩ = some (.int .u8 0) := (blk_cell G1.out 3).trans rfl; have g0 := blk_frozen G1.out 0; have g1 := blk_frozen G1.out 1; have g2 := blk_frozen G1.out 2; have g3 := blk_frozen G1.out 3)
    try simp only [Exit.inBlock, Exit.then]
    refine bodyPost_ret (res_ref_read _ _ w.heap.size 0 0 0 0 false rfl rfl (blk_alloc (blk_put (blk_put (blk_put (blk_put G1.out 0 _ rfl) 1 _ rfl) 2 _ rfl) 3 _ rfl) _)) rfl ⟨?_, ?_⟩
    · first | (rw [HF.out]; rfl) | rfl
    · exact (((((HB1.out.setCell (Nat.le_refl _) _).setCell (Nat.le_refl _) _).setCell (Nat.le_refl _) _).setCell (Nat.le_refl _) _).alloc (by simpa [World.setCell] using HB1.out.size) _)
end Go.Proofs.YtfbjejkmjbknaaaDoor.Quad
