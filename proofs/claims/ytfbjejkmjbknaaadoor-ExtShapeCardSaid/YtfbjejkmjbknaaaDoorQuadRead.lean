/- The contract of quad.Read. -/
import Derived.Test.YtfbjejkmjbknaaaDoorQuadText
import Derived.Test.YtfbjejkmjbknaaaDoorSplit
namespace Go.Proofs.YtfbjejkmjbknaaaDoor.Quad
open Go Go.RowKit Go.Proofs.YtfbjejkmjbknaaaDoorW.PrintWords Go.Proofs.YtfbjejkmjbknaaaDoorW.PrintLast Go.Proofs.YtfbjejkmjbknaaaDoorW.PrintMore Go.Proofs.YtfbjejkmjbknaaaDoor.Dig
set_option linter.unusedVariables false
set_option linter.unusedSimpArgs false

/-- What quad.Read hands back. -/
def readR : Option (Nat × Nat × Nat × Nat) → Value
  | some (a, b, c, d) => .tuple #[.agg #[.int .u8 a, .int .u8 b, .int .u8 c, .int .u8 d], .bool true]
  | none => .tuple #[.agg #[.int .u8 0, .int .u8 0, .int .u8 0, .int .u8 0], .bool false]

theorem res_read (tmps : Array Value) (W : World) (H : Nat) (a b c d : Int) (t : Bool) (h2 : tmps.getD 2 undef = .pointer (some ⟨H, 0, none⟩)) (h3 : tmps.getD 3 undef = .bool t) (hh : W.heap[H]? = some (.cells #[.int .u8 a, .int .u8 b, .int .u8 c, .int .u8 d] 23 (0, 0))) :
   (results Tryd.f40 tmps).run Tryd.prog W = .ok (.tuple #[.agg #[.int .u8 a, .int .u8 b, .int .u8 c, .int .u8 d], .bool t]) W := by
  have c0 : W.cell? ⟨H, 0, none⟩ = some (.int .u8 a) := (blk_cell hh 0).trans rfl
  have c1 : W.cell? ⟨H, 1, none⟩ = some (.int .u8 b) := (blk_cell hh 1).trans rfl
  have c2 : W.cell? ⟨H, 2, none⟩ = some (.int .u8 c) := (blk_cell hh 2).trans rfl
  have c3 : W.cell? ⟨H, 3, none⟩ = some (.int .u8 d) := (blk_cell hh 3).trans rfl
  rw [Array.getD_eq_getD_getElem?] at h2 h3
  simp [results, show Tryd.f40.results = #[.cell 2 23, .tmp 3] from rfl, h2, h3, go_sem, c0, c1, c2, c3]

theorem four_none0 {p q r t : List UInt8} (h : get255 p = none) : four p q r t = none := by rw [four, h]; rfl
theorem four_none1 {p q r t : List UInt8} (h : get255 q = none) : four p q r t = none := by
  rw [four, h]; cases get255 p <;> rfl
theorem four_none2 {p q r t : List UInt8} (h : get255 r = none) : four p q r t = none := by
  rw [four, h]; cases get255 p <;> cases get255 q <;> rfl
theorem four_none3 {p q r t : List UInt8} (h : get255 t = none) : four p q r t = none := by
  rw [four, h]; cases get255 p <;> cases get255 q <;> cases get255 r <;> rfl

set_option maxHeartbeats 2000000 in
set_option maxRecDepth 100000 in
theorem read_calls (s : ByteArray) (hs : s.size < 4294967281) (w : World) (hm : Mx w) :
    Calls Tryd.prog 40 #[.string s] w fun e w' => e = .returned (readR (readN s.data.toList)) ∧ Below w.heap.size w w' := by
  obtain ⟨R, hR⟩ : ∃ R, R = readR (readN s.data.toList) := ⟨_, rfl⟩
  rw [← hR]
  obtain ⟨ps, hps, hsp⟩ := split_calls 46 s hs
  have HSP := Aside0.mk hsp
  have HM := Aside0.mk hm
  have HRR := Aside0.mk hR
  clear hsp hm hR
  by_cases hl : ps.length = 4
  · obtain ⟨p0, p1, p2, p3, rfl⟩ : ∃ p0 p1 p2 p3, ps = [p0, p1, p2, p3] := by
      match ps, hl with
      | [p0, p1, p2, p3], _ => exact ⟨p0, p1, p2, p3, rfl⟩
    have HR := Aside0.mk (show R = readR (four p0.data.toList p1.data.toList p2.data.toList p3.data.toList) from by rw [HRR.out, readN, ← hps]; rfl)
    clear hl
    have hpsx := Aside0.mk hps
    go_enter Tryd.func40, Tryd.ntmps40
    go_wp2_with (go_at_call 39; refine (HSP.out _ (HM.out.below ((Below.refl _ _).alloc (Nat.le_refl _) _))).mono ?_; rintro e w1 ⟨rfl, rfl⟩)
    go_loopw [17] (fun i wr => ∃ k : Nat, k ≤ 4 ∧ i = .int .i64 k ∧ ∃ vs : List Nat, vs.length = k ∧ Aside0 (([p0, p1, p2, p3].take k).map (fun p => get255 p.data.toList) = vs.map some) ∧
      Aside0 (wr.heap[w.heap.size]? = some (.cells (vs.map (fun v => Value.int .u8 (v : Nat)) ++ List.replicate (4 - k) (Value.int .u8 0)).toArray 23 (0, 0))) ∧
      Aside0 (wr.heap[w.heap.size + 1]? = some (.cells #[.string p0, .string p1, .string p2, .string p3] 9 (0, 0))) ∧ Aside0 (Below w.heap.size w wr)) (fun i _ => 4 - (intOf i).toNat)
    case atStart => exact ⟨0, Nat.zero_le _, rfl, [], rfl, ⟨rfl⟩, ⟨by have := blk_alloc (blk_new w (.cells #[.int .u8 0, .int .u8 0, .int .u8 0, .int .u8 0] 23)) (.cells ([p0, p1, p2, p3].map Value.string).toArray 9); exact this⟩, ⟨by have := blk_new (w.alloc (.cells #[.int .u8 0, .int .u8 0, .int .u8 0, .int .u8 0] 23)) (.cells ([p0, p1, p2, p3].map Value.string).toArray 9); simpa using this⟩, ⟨((Below.refl _ _).alloc (Nat.le_refl _) _).alloc (by simp) _⟩⟩
    case round =>
      obtain ⟨k, hk, rfl, vs, hvl, HV, HH, HG, HB⟩ := hrel
      obtain rfl | rfl | rfl | rfl | rfl : k = 0 ∨ k = 1 ∨ k = 2 ∨ k = 3 ∨ k = 4 := by omega
      · obtain rfl : vs = [] := by
          match vs, hvl with
          | [], _ => exact rfl
        have HH2 : Aside0 (wr.heap[w.heap.size]? = some (.cells #[.int .u8 0, .int .u8 0, .int .u8 0, .int .u8 0] 23 (0, 0))) := HH
        have f0 := blk_frozen HH2.out 0
        have c0 : wr.cell? ⟨w.heap.size, 0, none⟩ = some (.int .u8 0) := (blk_cell HH2.out 0).trans rfl
        have f1 := blk_frozen HH2.out 1
        have c1 : wr.cell? ⟨w.heap.size, 1, none⟩ = some (.int .u8 0) := (blk_cell HH2.out 1).trans rfl
        have f2 := blk_frozen HH2.out 2
        have c2 : wr.cell? ⟨w.heap.size, 2, none⟩ = some (.int .u8 0) := (blk_cell HH2.out 2).trans rfl
        have f3 := blk_frozen HH2.out 3
        have c3 : wr.cell? ⟨w.heap.size, 3, none⟩ = some (.int .u8 0) := (blk_cell HH2.out 3).trans rfl
        have hc : wr.cell? ⟨w.heap.size + 1, 0, none⟩ = some (.string p0) := (blk_cell HG.out 0).trans rfl
        cases hg : get255 p0.data.toList with
        | none =>
          have hgg : get p0.data.toList 255 = (0, false) := by rw [get255_get, hg]
          have HF := Aside0.mk (show R = readR none from by rw [HR.out, four_none0 hg])
          clear hg hvl hk hps
          go_wp2_with (go_at_call 33; refine (get_calls _ _ _).mono ?_; rintro e w1 ⟨rfl, rfl⟩; rw [hgg])
          try simp only [Exit.inBlock, Exit.then]
          refine bodyPost_ret (res_read _ _ w.heap.size 0 0 0 0 false rfl rfl (blk_put (blk_put (blk_put (blk_put HH2.out 0 _ rfl) 1 _ rfl) 2 _ rfl) 3 _ rfl)) rfl ⟨?_, ?_⟩
          · first | (rw [HF.out]; rfl) | rfl
          · exact (((HB.out.setCell (Nat.le_refl _) _).setCell (Nat.le_refl _) _).setCell (Nat.le_refl _) _).setCell (Nat.le_refl _) _
        | some n =>
          have hgg : get p0.data.toList 255 = ((n : Int), true) := by rw [get255_get, hg]
          have hn : n ≤ 255 := ((get255_iff _ _).1 hg).2
          have hcv : IntKind.u8.wrap (n : Int) = (n : Int) := by simp [IntKind.wrap, IntKind.bits, IntKind.signed]; omega
          have HGG := Aside0.mk hg
          clear hg hvl hk hps hn
          go_wp2_with (go_at_call 33; refine (get_calls _ _ _).mono ?_; rintro e w1 ⟨rfl, rfl⟩; rw [hgg])
          go_roundw
          case rel => exact ⟨0 + 1, by omega, by first | rfl | go_num, [] ++ [n], rfl, ⟨by have h := HV.out; have hg := HGG.out; simp only [List.take_succ_cons, List.take_zero, List.map_cons, List.map_nil, List.cons_append, List.nil_append, List.cons.injEq, and_true, true_and] at h ⊢; exact hg⟩, ⟨blk_put HH2.out 0 _ rfl⟩, ⟨blk_far HG.out (by simp) _⟩, ⟨HB.out.setCell (Nat.le_refl _) _⟩⟩
          case measure => simp [intOf]
      · obtain ⟨a, rfl⟩ : ∃ a, vs = [a] := by
          match vs, hvl with
          | [a], _ => exact ⟨a, rfl⟩
        have HH2 : Aside0 (wr.heap[w.heap.size]? = some (.cells #[.int .u8 (a : Nat), .int .u8 0, .int .u8 0, .int .u8 0] 23 (0, 0))) := HH
        have f0 := blk_frozen HH2.out 0
        have c0 : wr.cell? ⟨w.heap.size, 0, none⟩ = some (.int .u8 (a : Nat)) := (blk_cell HH2.out 0).trans rfl
        have f1 := blk_frozen HH2.out 1
        have c1 : wr.cell? ⟨w.heap.size, 1, none⟩ = some (.int .u8 0) := (blk_cell HH2.out 1).trans rfl
        have f2 := blk_frozen HH2.out 2
        have c2 : wr.cell? ⟨w.heap.size, 2, none⟩ = some (.int .u8 0) := (blk_cell HH2.out 2).trans rfl
        have f3 := blk_frozen HH2.out 3
        have c3 : wr.cell? ⟨w.heap.size, 3, none⟩ = some (.int .u8 0) := (blk_cell HH2.out 3).trans rfl
        have hc : wr.cell? ⟨w.heap.size + 1, 1, none⟩ = some (.string p1) := (blk_cell HG.out 1).trans rfl
        cases hg : get255 p1.data.toList with
        | none =>
          have hgg : get p1.data.toList 255 = (0, false) := by rw [get255_get, hg]
          have HF := Aside0.mk (show R = readR none from by rw [HR.out, four_none1 hg])
          clear hg hvl hk hps
          go_wp2_with (go_at_call 33; refine (get_calls _ _ _).mono ?_; rintro e w1 ⟨rfl, rfl⟩; rw [hgg])
          try simp only [Exit.inBlock, Exit.then]
          refine bodyPost_ret (res_read _ _ w.heap.size 0 0 0 0 false rfl rfl (blk_put (blk_put (blk_put (blk_put HH2.out 0 _ rfl) 1 _ rfl) 2 _ rfl) 3 _ rfl)) rfl ⟨?_, ?_⟩
          · first | (rw [HF.out]; rfl) | rfl
          · exact (((HB.out.setCell (Nat.le_refl _) _).setCell (Nat.le_refl _) _).setCell (Nat.le_refl _) _).setCell (Nat.le_refl _) _
        | some n =>
          have hgg : get p1.data.toList 255 = ((n : Int), true) := by rw [get255_get, hg]
          have hn : n ≤ 255 := ((get255_iff _ _).1 hg).2
          have hcv : IntKind.u8.wrap (n : Int) = (n : Int) := by simp [IntKind.wrap, IntKind.bits, IntKind.signed]; omega
          have HGG := Aside0.mk hg
          clear hg hvl hk hps hn
          go_wp2_with (go_at_call 33; refine (get_calls _ _ _).mono ?_; rintro e w1 ⟨rfl, rfl⟩; rw [hgg])
          go_roundw
          case rel => exact ⟨1 + 1, by omega, by first | rfl | go_num, [a] ++ [n], rfl, ⟨by have h := HV.out; have hg := HGG.out; simp only [List.take_succ_cons, List.take_zero, List.map_cons, List.map_nil, List.cons_append, List.nil_append, List.cons.injEq, and_true, true_and] at h ⊢; exact ⟨h, hg⟩⟩, ⟨blk_put HH2.out 1 _ rfl⟩, ⟨blk_far HG.out (by simp) _⟩, ⟨HB.out.setCell (Nat.le_refl _) _⟩⟩
          case measure => simp [intOf]
      · obtain ⟨a, b, rfl⟩ : ∃ a b, vs = [a, b] := by
          match vs, hvl with
          | [a, b], _ => exact ⟨a, b, rfl⟩
        have HH2 : Aside0 (wr.heap[w.heap.size]? = some (.cells #[.int .u8 (a : Nat), .int .u8 (b : Nat), .int .u8 0, .int .u8 0] 23 (0, 0))) := HH
        have f0 := blk_frozen HH2.out 0
        have c0 : wr.cell? ⟨w.heap.size, 0, none⟩ = some (.int .u8 (a : Nat)) := (blk_cell HH2.out 0).trans rfl
        have f1 := blk_frozen HH2.out 1
        have c1 : wr.cell? ⟨w.heap.size, 1, none⟩ = some (.int .u8 (b : Nat)) := (blk_cell HH2.out 1).trans rfl
        have f2 := blk_frozen HH2.out 2
        have c2 : wr.cell? ⟨w.heap.size, 2, none⟩ = some (.int .u8 0) := (blk_cell HH2.out 2).trans rfl
        have f3 := blk_frozen HH2.out 3
        have c3 : wr.cell? ⟨w.heap.size, 3, none⟩ = some (.int .u8 0) := (blk_cell HH2.out 3).trans rfl
        have hc : wr.cell? ⟨w.heap.size + 1, 2, none⟩ = some (.string p2) := (blk_cell HG.out 2).trans rfl
        cases hg : get255 p2.data.toList with
        | none =>
          have hgg : get p2.data.toList 255 = (0, false) := by rw [get255_get, hg]
          have HF := Aside0.mk (show R = readR none from by rw [HR.out, four_none2 hg])
          clear hg hvl hk hps
          go_wp2_with (go_at_call 33; refine (get_calls _ _ _).mono ?_; rintro e w1 ⟨rfl, rfl⟩; rw [hgg])
          try simp only [Exit.inBlock, Exit.then]
          refine bodyPost_ret (res_read _ _ w.heap.size 0 0 0 0 false rfl rfl (blk_put (blk_put (blk_put (blk_put HH2.out 0 _ rfl) 1 _ rfl) 2 _ rfl) 3 _ rfl)) rfl ⟨?_, ?_⟩
          · first | (rw [HF.out]; rfl) | rfl
          · exact (((HB.out.setCell (Nat.le_refl _) _).setCell (Nat.le_refl _) _).setCell (Nat.le_refl _) _).setCell (Nat.le_refl _) _
        | some n =>
          have hgg : get p2.data.toList 255 = ((n : Int), true) := by rw [get255_get, hg]
          have hn : n ≤ 255 := ((get255_iff _ _).1 hg).2
          have hcv : IntKind.u8.wrap (n : Int) = (n : Int) := by simp [IntKind.wrap, IntKind.bits, IntKind.signed]; omega
          have HGG := Aside0.mk hg
          clear hg hvl hk hps hn
          go_wp2_with (go_at_call 33; refine (get_calls _ _ _).mono ?_; rintro e w1 ⟨rfl, rfl⟩; rw [hgg])
          go_roundw
          case rel => exact ⟨2 + 1, by omega, by first | rfl | go_num, [a, b] ++ [n], rfl, ⟨by have h := HV.out; have hg := HGG.out; simp only [List.take_succ_cons, List.take_zero, List.map_cons, List.map_nil, List.cons_append, List.nil_append, List.cons.injEq, and_true, true_and] at h ⊢; exact ⟨h.1, h.2, hg⟩⟩, ⟨blk_put HH2.out 2 _ rfl⟩, ⟨blk_far HG.out (by simp) _⟩, ⟨HB.out.setCell (Nat.le_refl _) _⟩⟩
          case measure => simp [intOf]
      · obtain ⟨a, b, c, rfl⟩ : ∃ a b c, vs = [a, b, c] := by
          match vs, hvl with
          | [a, b, c], _ => exact ⟨a, b, c, rfl⟩
        have HH2 : Aside0 (wr.heap[w.heap.size]? = some (.cells #[.int .u8 (a : Nat), .int .u8 (b : Nat), .int .u8 (c : Nat), .int .u8 0] 23 (0, 0))) := HH
        have f0 := blk_frozen HH2.out 0
        have c0 : wr.cell? ⟨w.heap.size, 0, none⟩ = some (.int .u8 (a : Nat)) := (blk_cell HH2.out 0).trans rfl
        have f1 := blk_frozen HH2.out 1
        have c1 : wr.cell? ⟨w.heap.size, 1, none⟩ = some (.int .u8 (b : Nat)) := (blk_cell HH2.out 1).trans rfl
        have f2 := blk_frozen HH2.out 2
        have c2 : wr.cell? ⟨w.heap.size, 2, none⟩ = some (.int .u8 (c : Nat)) := (blk_cell HH2.out 2).trans rfl
        have f3 := blk_frozen HH2.out 3
        have c3 : wr.cell? ⟨w.heap.size, 3, none⟩ = some (.int .u8 0) := (blk_cell HH2.out 3).trans rfl
        have hc : wr.cell? ⟨w.heap.size + 1, 3, none⟩ = some (.string p3) := (blk_cell HG.out 3).trans rfl
        cases hg : get255 p3.data.toList with
        | none =>
          have hgg : get p3.data.toList 255 = (0, false) := by rw [get255_get, hg]
          have HF := Aside0.mk (show R = readR none from by rw [HR.out, four_none3 hg])
          clear hg hvl hk hps
          go_wp2_with (go_at_call 33; refine (get_calls _ _ _).mono ?_; rintro e w1 ⟨rfl, rfl⟩; rw [hgg])
          try simp only [Exit.inBlock, Exit.then]
          refine bodyPost_ret (res_read _ _ w.heap.size 0 0 0 0 false rfl rfl (blk_put (blk_put (blk_put (blk_put HH2.out 0 _ rfl) 1 _ rfl) 2 _ rfl) 3 _ rfl)) rfl ⟨?_, ?_⟩
          · first | (rw [HF.out]; rfl) | rfl
          · exact (((HB.out.setCell (Nat.le_refl _) _).setCell (Nat.le_refl _) _).setCell (Nat.le_refl _) _).setCell (Nat.le_refl _) _
        | some n =>
          have hgg : get p3.data.toList 255 = ((n : Int), true) := by rw [get255_get, hg]
          have hn : n ≤ 255 := ((get255_iff _ _).1 hg).2
          have hcv : IntKind.u8.wrap (n : Int) = (n : Int) := by simp [IntKind.wrap, IntKind.bits, IntKind.signed]; omega
          have HGG := Aside0.mk hg
          clear hg hvl hk hps hn
          go_wp2_with (go_at_call 33; refine (get_calls _ _ _).mono ?_; rintro e w1 ⟨rfl, rfl⟩; rw [hgg])
          go_roundw
          case rel => exact ⟨3 + 1, by omega, by first | rfl | go_num, [a, b, c] ++ [n], rfl, ⟨by have h := HV.out; have hg := HGG.out; simp only [List.take_succ_cons, List.take_zero, List.map_cons, List.map_nil, List.cons_append, List.nil_append, List.cons.injEq, and_true, true_and] at h ⊢; exact ⟨h.1, h.2.1, h.2.2, hg⟩⟩, ⟨blk_put HH2.out 3 _ rfl⟩, ⟨blk_far HG.out (by simp) _⟩, ⟨HB.out.setCell (Nat.le_refl _) _⟩⟩
          case measure => simp [intOf]
      · obtain ⟨a, b, c, d, rfl⟩ : ∃ a b c d, vs = [a, b, c, d] := by
          match vs, hvl with
          | [a, b, c, d], _ => exact ⟨a, b, c, d, rfl⟩
        have HH2 : Aside0 (wr.heap[w.heap.size]? = some (.cells #[.int .u8 (a : Nat), .int .u8 (b : Nat), .int .u8 (c : Nat), .int .u8 (d : Nat)] 23 (0, 0))) := HH
        have hfour : four p0.data.toList p1.data.toList p2.data.toList p3.data.toList = some (a, b, c, d) := by
          have := HV.out
          simp only [List.take_succ_cons, List.take_zero, List.map_cons, List.map_nil, List.cons.injEq, and_true] at this
          rw [four, this.1, this.2.1, this.2.2.1, this.2.2.2]; rfl
        have HF := Aside0.mk (show R = readR (some (a, b, c, d)) from by rw [HR.out, hfour])
        have f0 := blk_frozen HH2.out 0
        have c0 : wr.cell? ⟨w.heap.size, 0, none⟩ = some (.int .u8 (a : Nat)) := (blk_cell HH2.out 0).trans rfl
        have f1 := blk_frozen HH2.out 1
        have c1 : wr.cell? ⟨w.heap.size, 1, none⟩ = some (.int .u8 (b : Nat)) := (blk_cell HH2.out 1).trans rfl
        have f2 := blk_frozen HH2.out 2
        have c2 : wr.cell? ⟨w.heap.size, 2, none⟩ = some (.int .u8 (c : Nat)) := (blk_cell HH2.out 2).trans rfl
        have f3 := blk_frozen HH2.out 3
        have c3 : wr.cell? ⟨w.heap.size, 3, none⟩ = some (.int .u8 (d : Nat)) := (blk_cell HH2.out 3).trans rfl
        clear hps hvl hk
        by_cases hz : a = 0 ∧ b = 0 ∧ c = 0 ∧ d = 0
        · obtain ⟨rfl, rfl, rfl, rfl⟩ := hz
          have hq : ∀ W, (Op.equalIn 10000 23 (.agg #[.int .u8 0, .int .u8 0, .int .u8 0, .int .u8 0]) (.agg #[.int .u8 0, .int .u8 0, .int .u8 0, .int .u8 0])).run Tryd.prog W = .ok true W := fun W => eq_host 0 0 0 0 0 0 0 0 W
          have hse : s.toList = [48, 46, 48, 46, 48, 46, 48] := by
            have hr : readN s.data.toList = some (0, 0, 0, 0) := by rw [readN, ← hpsx.out]; exact hfour
            rw [ByteArray.toList_eq, ((readN_iff _ _ _ _ _).1 hr).1]
            simp [hostU, digU_small]
          clear hfour
          go_wp2
          go_region
          all_goals
            go_wp2
            try simp only [Exit.inBlock, Exit.then]
            refine bodyPost_ret (res_read _ _ w.heap.size 0 0 0 0 true rfl rfl (blk_drew (blk_put (blk_put (blk_put (blk_put HH2.out 0 _ rfl) 1 _ rfl) 2 _ rfl) 3 _ rfl))) rfl ⟨?_, ?_⟩
            · first | (rw [HF.out]; rfl) | rfl
            · exact ((((HB.out.setCell (Nat.le_refl _) _).setCell (Nat.le_refl _) _).setCell (Nat.le_refl _) _).setCell (Nat.le_refl _) _).drew
        · have hq : ∀ W, (Op.equalIn 10000 23 (.agg #[.int .u8 (a : Nat), .int .u8 (b : Nat), .int .u8 (c : Nat), .int .u8 (d : Nat)]) (.agg #[.int .u8 0, .int .u8 0, .int .u8 0, .int .u8 0])).run Tryd.prog W = .ok false W := fun W => by
            rw [eq_host]
            congr 1
            simp only [Bool.and_eq_false_iff, beq_eq_false_iff_ne]; omega
          clear hz hfour
          go_wp2
          go_region
          all_goals
            go_wp2
            try simp only [Exit.inBlock, Exit.then]
            refine bodyPost_ret (res_read _ _ w.heap.size a b c d true rfl rfl (blk_drew (blk_put (blk_put (blk_put (blk_put HH2.out 0 _ rfl) 1 _ rfl) 2 _ rfl) 3 _ rfl))) rfl ⟨?_, ?_⟩
            · first | (rw [HF.out]; rfl) | rfl
            · exact ((((HB.out.setCell (Nat.le_refl _) _).setCell (Nat.le_refl _) _).setCell (Nat.le_refl _) _).setCell (Nat.le_refl _) _).drew
  · have hl2 : ((ps.length : Int) != 4) = true := by simp; omega
    have HF := Aside0.mk (show R = readR none from by
      rw [HRR.out, readN, ← hps]
      split
      · rename_i p q r t h
        have := congrArg List.length h
        simp at this; omega
      · rfl)
    clear hl
    go_enter Tryd.func40, Tryd.ntmps40
    go_wp2_with (go_at_call 39; refine (HSP.out _ (HM.out.below ((Below.refl _ _).alloc (Nat.le_refl _) _))).mono ?_; rintro e w1 ⟨rfl, rfl⟩)
    try simp only [Exit.inBlock, Exit.then]
    refine bodyPost_ret (res_read _ _ w.heap.size 0 0 0 0 false rfl rfl (by have := blk_alloc (blk_new w (.cells #[.int .u8 0, .int .u8 0, .int .u8 0, .int .u8 0] 23)) (.cells (ps.map Value.string).toArray 9); exact this)) rfl ⟨?_, ?_⟩
    · first | (rw [HF.out]; rfl) | rfl
    · exact ((Below.refl _ _).alloc (Nat.le_refl _) _).alloc (by simp) _
end Go.Proofs.YtfbjejkmjbknaaaDoor.Quad
