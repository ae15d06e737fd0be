/- The contract of six.Read. -/
import Derived.Test.YtfhfldpdkmankaaDoorSixText
import Derived.Test.YtfhfldpdkmankaaDoorSplit
import Derived.Test.YtfhfldpdkmankaaDoorWEqStruct
import Derived.WalkMore
namespace Go.Proofs.YtfhfldpdkmankaaDoor.Six
open Go Go.RowKit Go.Proofs.YtfhfldpdkmankaaDoorW.PrintWords Go.Proofs.YtfhfldpdkmankaaDoorW.PrintLast Go.Proofs.YtfhfldpdkmankaaDoorW.PrintMore Go.Proofs.YtfhfldpdkmankaaDoor.Dig Go.Proofs.YtfhfldpdkmankaaDoor.Quad Go.Proofs.YtfhfldpdkmankaaDoor.SixP
set_option linter.unusedVariables false
set_option linter.unusedSimpArgs false

/-- What Read hands back. -/
def readR : Option (Nat × Nat × Nat × Nat × Nat) → Value
  | some (a, b, c, d, p) => .tuple #[endV a b c d p, .bool true]
  | none => .tuple #[endV 0 0 0 0 0, .bool false]

theorem eq_end (a b c d p a' b' c' d' p' : Int) (W : World) : (Op.equalIn 10000 25 (.agg #[.int .u8 a, .int .u8 b, .int .u8 c, .int .u8 d, .int .i64 p]) (.agg #[.int .u8 a', .int .u8 b', .int .u8 c', .int .u8 d', .int .i64 p'])).run Tryd.prog W = .ok ((a == a' && (b == b' && (c == c' && d == d'))) && p == p') W :=
  eqA_of (d := 9999) Tryd.underlying25 (by kernel_rfl)
    (eqf_cons rfl (show _ = Result.ok (.agg #[.int .u8 a, .int .u8 b, .int .u8 c, .int .u8 d]) W from rfl) (show _ = Result.ok (.agg #[.int .u8 a', .int .u8 b', .int .u8 c', .int .u8 d']) W from rfl) (eq_host' 9997 a b c d a' b' c' d' W)
      (eqf_last rfl (show _ = Result.ok (.int .i64 p) W from rfl) (show _ = Result.ok (.int .i64 p') W from rfl) (run_equalIn_int W 9998 3 .i64 .i64 p p' Tryd.underlying3)))

theorem wraps_i64 (n : Int) (h₀ : 0 ≤ n) (h₁ : n < 2 ^ 31) : IntKind.i64.wrap n = n := by rw [IntKind.wrap_i64]; omega
theorem or8 (x y : Nat) (hx : x < 256) (hy : y < 256) : bits .or .i64 ((x : Int) * 256) (y : Int) = ((256 * x + y : Nat) : Int) := by
  have h := bits_join .i64 31 (by decide) wraps_i64 8 ((x : Int) * 256) (y : Int) (by omega) (by omega) (by omega) (by omega) (by omega) (by omega)
  rw [h]; omega
theorem or0 (y : Nat) (hy : y < 256) : bits .or .i64 0 (y : Int) = (y : Int) := by
  have := or8 0 y (by decide) hy
  simpa using this

theorem res_read (tmps : Array Value) (W : World) (H : Nat) (a b c d p : Int) (t : Bool) (h2 : tmps.getD 2 undef = .pointer (some ⟨H, 0, none⟩)) (h3 : tmps.getD 3 undef = .bool t) (hh : W.heap[H]? = some (.cells #[.int .u8 a, .int .u8 b, .int .u8 c, .int .u8 d, .int .i64 p] 25 (0, 0))) :
   (results Tryd.f11 tmps).run Tryd.prog W = .ok (.tuple #[.agg #[.int .u8 a, .int .u8 b, .int .u8 c, .int .u8 d, .int .i64 p], .bool t]) W := by
  have c0 : W.cell? ⟨H, 0, none⟩ = some (.int .u8 a) := (blk_cell hh 0).trans rfl
  have c1 : W.cell? ⟨H, 1, none⟩ = some (.int .u8 b) := (blk_cell hh 1).trans rfl
  have c2 : W.cell? ⟨H, 2, none⟩ = some (.int .u8 c) := (blk_cell hh 2).trans rfl
  have c3 : W.cell? ⟨H, 3, none⟩ = some (.int .u8 d) := (blk_cell hh 3).trans rfl
  have c4 : W.cell? ⟨H, 4, none⟩ = some (.int .i64 p) := (blk_cell hh 4).trans rfl
  rw [Array.getD_eq_getD_getElem?] at h2 h3
  simp [results, show Tryd.f11.results = #[.cell 2 25, .tmp 3] from rfl, h2, h3, go_sem, c0, c1, c2, c3, c4]

theorem six_none0 {p q r s t u : List UInt8} (h : get255 p = none) : six p q r s t u = none := by
  rw [six, h]; rfl
theorem six_none1 {p q r s t u : List UInt8} (h : get255 q = none) : six p q r s t u = none := by
  rw [six, h]; cases get255 p <;> rfl
theorem six_none2 {p q r s t u : List UInt8} (h : get255 r = none) : six p q r s t u = none := by
  rw [six, h]; cases get255 p <;> cases get255 q <;> rfl
theorem six_none3 {p q r s t u : List UInt8} (h : get255 s = none) : six p q r s t u = none := by
  rw [six, h]; cases get255 p <;> cases get255 q <;> cases get255 r <;> rfl
theorem six_none4 {p q r s t u : List UInt8} (h : get255 t = none) : six p q r s t u = none := by
  rw [six, h]; cases get255 p <;> cases get255 q <;> cases get255 r <;> cases get255 s <;> rfl
theorem six_none5 {p q r s t u : List UInt8} (h : get255 u = none) : six p q r s t u = none := by
  rw [six, h]; cases get255 p <;> cases get255 q <;> cases get255 r <;> cases get255 s <;> cases get255 t <;> rfl

set_option maxHeartbeats 4000000 in
set_option maxRecDepth 100000 in
theorem read_calls (s : ByteArray) (hs : s.size < 4294967281) (w : World) (hm : Mx w) :
    Calls Tryd.prog 11 #[.string s] w fun e w' => e = .returned (readR (readSix s.data.toList)) ∧ Below w.heap.size w w' := by
  obtain ⟨R, hR⟩ : ∃ R, R = readR (readSix s.data.toList) := ⟨_, rfl⟩
  rw [← hR]
  obtain ⟨ps, hps, hsp⟩ := split_calls 44 s hs
  have HSP := Aside0.mk hsp
  have HM := Aside0.mk hm
  have HRR := Aside0.mk hR
  clear hsp hm hR
  by_cases hl : ps.length = 6
  · obtain ⟨p0, p1, p2, p3, p4, p5, rfl⟩ : ∃ p0 p1 p2 p3 p4 p5, ps = [p0, p1, p2, p3, p4, p5] := by
      match ps, hl with
      | [p0, p1, p2, p3, p4, p5], _ => exact ⟨p0, p1, p2, p3, p4, p5, rfl⟩
    have HR := Aside0.mk (show R = readR (six p0.data.toList p1.data.toList p2.data.toList p3.data.toList p4.data.toList p5.data.toList) from by rw [HRR.out, readSix, ← hps]; rfl)
    clear hl
    have hpsx := Aside0.mk hps
    go_enter Tryd.func11, Tryd.ntmps11
    go_wp2
    go_step3
    go_wp2_with (go_at_call 18; refine (HSP.out _ (HM.out.below ((Below.refl _ _).alloc (Nat.le_refl _) _))).mono ?_; rintro e w1 ⟨rfl, rfl⟩)
    go_step3
    go_wp2
    go_loopw [18] (fun i wr => ∃ k : Nat, k ≤ 6 ∧ i = .int .i64 k ∧ ∃ vs : List Nat, vs.length = k ∧ Aside0 (([p0, p1, p2, p3, p4, p5].take k).map (fun p => get255 p.data.toList) = vs.map some) ∧
      Aside0 (wr.heap[w.heap.size]? = some (.cells (((vs.take 4).map (fun v => Value.int .u8 (v : Nat)) ++ List.replicate (4 - k) (Value.int .u8 0)) ++ [Value.int .i64 (match vs.drop 4 with | [] => (0 : Nat) | [e] => (e : Nat) | e :: f :: _ => (256 * e + f : Nat))]).toArray 25 (0, 0))) ∧
      Aside0 (wr.heap[w.heap.size + 1]? = some (.cells #[.string p0, .string p1, .string p2, .string p3, .string p4, .string p5] 9 (0, 0))) ∧ Aside0 (Below w.heap.size w wr)) (fun i _ => 6 - (intOf i).toNat)
    case atStart => exact ⟨0, Nat.zero_le _, rfl, [], rfl, ⟨rfl⟩, ⟨by have := blk_alloc (blk_new w (.cells #[.int .u8 0, .int .u8 0, .int .u8 0, .int .u8 0, .int .i64 0] 25)) (.cells ([p0, p1, p2, p3, p4, p5].map Value.string).toArray 9); exact this⟩, ⟨by have := blk_new (w.alloc (.cells #[.int .u8 0, .int .u8 0, .int .u8 0, .int .u8 0, .int .i64 0] 25)) (.cells ([p0, p1, p2, p3, p4, p5].map Value.string).toArray 9); simpa using this⟩, ⟨((Below.refl _ _).alloc (Nat.le_refl _) _).alloc (by simp) _⟩⟩
    case round =>
      obtain ⟨k, hk, rfl, vs, hvl, HV, HH, HG, HB⟩ := hrel
      obtain rfl | rfl | rfl | rfl | rfl | rfl | rfl : k = 0 ∨ k = 1 ∨ k = 2 ∨ k = 3 ∨ k = 4 ∨ k = 5 ∨ k = 6 := by omega
      · obtain rfl : vs = [] := by
          match vs, hvl with
          | [], _ => exact rfl
        have HH2 : Aside0 (wr.heap[w.heap.size]? = some (.cells #[.int .u8 0, .int .u8 0, .int .u8 0, .int .u8 0, .int .i64 0] 25 (0, 0))) := HH
        have f0 := blk_frozen HH2.out 0
        have c0 : wr.cell? ⟨w.heap.size, 0, none⟩ = some (.int .u8 0) := (blk_cell HH2.out 0).trans rfl
        have f1 := blk_frozen HH2.out 1
        have c1 : wr.cell? ⟨w.heap.size, 1, none⟩ = some (.int .u8 0) := (blk_cell HH2.out 1).trans rfl
        have f2 := blk_frozen HH2.out 2
        have c2 : wr.cell? ⟨w.heap.size, 2, none⟩ = some (.int .u8 0) := (blk_cell HH2.out 2).trans rfl
        have f3 := blk_frozen HH2.out 3
        have c3 : wr.cell? ⟨w.heap.size, 3, none⟩ = some (.int .u8 0) := (blk_cell HH2.out 3).trans rfl
        have f4 := blk_frozen HH2.out 4
        have c4 : wr.cell? ⟨w.heap.size, 4, none⟩ = some (.int .i64 0) := (blk_cell HH2.out 4).trans rfl
        have hc : wr.cell? ⟨w.heap.size + 1, 0, none⟩ = some (.string p0) := (blk_cell HG.out 0).trans rfl
        cases hg : get255 p0.data.toList with
        | none =>
          have hgg : get p0.data.toList 255 = (0, false) := by rw [get255_get, hg]
          have HF := Aside0.mk (show R = readR none from by rw [HR.out, six_none0 hg])
          clear hg hvl hk hps
          go_wp2_with (go_at_call 19; refine (get_calls _ _ _).mono ?_; rintro e w1 ⟨rfl, rfl⟩; rw [hgg])
          try rw [Exit.noGoto_ret]
          try simp only [Exit.inBlock, Exit.then]
          refine bodyPost_ret (res_read _ _ w.heap.size 0 0 0 0 0 false rfl rfl (blk_put (blk_put (blk_put (blk_put (blk_put HH2.out 0 _ rfl) 1 _ rfl) 2 _ rfl) 3 _ rfl) 4 _ rfl)) rfl ⟨?_, ?_⟩
          · first | (rw [HF.out]; rfl) | rfl
          · exact ((((HB.out.setCell (Nat.le_refl _) _).setCell (Nat.le_refl _) _).setCell (Nat.le_refl _) _).setCell (Nat.le_refl _) _).setCell (Nat.le_refl _) _
        | some n =>
          have hgg : get p0.data.toList 255 = ((n : Int), true) := by rw [get255_get, hg]
          have hn : n ≤ 255 := ((get255_iff _ _).1 hg).2
          have hcv : IntKind.u8.wrap (n : Int) = (n : Int) := by simp [IntKind.wrap, IntKind.bits, IntKind.signed]; omega
          have HGG := Aside0.mk hg
          clear hg hvl hk hps hn
          go_wp2_with (go_at_call 19; refine (get_calls _ _ _).mono ?_; rintro e w1 ⟨rfl, rfl⟩; rw [hgg])
          go_roundw
          case rel => exact ⟨0 + 1, by omega, by first | rfl | go_num, [] ++ [n], rfl, ⟨by have h := HV.out; have hg := HGG.out; simp only [List.take_succ_cons, List.take_zero, List.map_cons, List.map_nil, List.cons_append, List.nil_append, List.cons.injEq, and_true, true_and] at h ⊢; exact hg⟩, ⟨blk_put HH2.out 0 _ rfl⟩, ⟨blk_far HG.out (by simp) _⟩, ⟨HB.out.setCell (Nat.le_refl _) _⟩⟩
          case measure => simp [intOf]
      · obtain ⟨a, rfl⟩ : ∃ a, vs = [a] := by
          match vs, hvl with
          | [a], _ => exact ⟨a, rfl⟩
        have HH2 : Aside0 (wr.heap[w.heap.size]? = some (.cells #[.int .u8 (a : Nat), .int .u8 0, .int .u8 0, .int .u8 0, .int .i64 0] 25 (0, 0))) := HH
        have f0 := blk_frozen HH2.out 0
        have c0 : wr.cell? ⟨w.heap.size, 0, none⟩ = some (.int .u8 (a : Nat)) := (blk_cell HH2.out 0).trans rfl
        have f1 := blk_frozen HH2.out 1
        have c1 : wr.cell? ⟨w.heap.size, 1, none⟩ = some (.int .u8 0) := (blk_cell HH2.out 1).trans rfl
        have f2 := blk_frozen HH2.out 2
        have c2 : wr.cell? ⟨w.heap.size, 2, none⟩ = some (.int .u8 0) := (blk_cell HH2.out 2).trans rfl
        have f3 := blk_frozen HH2.out 3
        have c3 : wr.cell? ⟨w.heap.size, 3, none⟩ = some (.int .u8 0) := (blk_cell HH2.out 3).trans rfl
        have f4 := blk_frozen HH2.out 4
        have c4 : wr.cell? ⟨w.heap.size, 4, none⟩ = some (.int .i64 0) := (blk_cell HH2.out 4).trans rfl
        have hc : wr.cell? ⟨w.heap.size + 1, 1, none⟩ = some (.string p1) := (blk_cell HG.out 1).trans rfl
        cases hg : get255 p1.data.toList with
        | none =>
          have hgg : get p1.data.toList 255 = (0, false) := by rw [get255_get, hg]
          have HF := Aside0.mk (show R = readR none from by rw [HR.out, six_none1 hg])
          clear hg hvl hk hps
          go_wp2_with (go_at_call 19; refine (get_calls _ _ _).mono ?_; rintro e w1 ⟨rfl, rfl⟩; rw [hgg])
          try rw [Exit.noGoto_ret]
          try simp only [Exit.inBlock, Exit.then]
          refine bodyPost_ret (res_read _ _ w.heap.size 0 0 0 0 0 false rfl rfl (blk_put (blk_put (blk_put (blk_put (blk_put HH2.out 0 _ rfl) 1 _ rfl) 2 _ rfl) 3 _ rfl) 4 _ rfl)) rfl ⟨?_, ?_⟩
          · first | (rw [HF.out]; rfl) | rfl
          · exact ((((HB.out.setCell (Nat.le_refl _) _).setCell (Nat.le_refl _) _).setCell (Nat.le_refl _) _).setCell (Nat.le_refl _) _).setCell (Nat.le_refl _) _
        | some n =>
          have hgg : get p1.data.toList 255 = ((n : Int), true) := by rw [get255_get, hg]
          have hn : n ≤ 255 := ((get255_iff _ _).1 hg).2
          have hcv : IntKind.u8.wrap (n : Int) = (n : Int) := by simp [IntKind.wrap, IntKind.bits, IntKind.signed]; omega
          have HGG := Aside0.mk hg
          clear hg hvl hk hps hn
          go_wp2_with (go_at_call 19; refine (get_calls _ _ _).mono ?_; rintro e w1 ⟨rfl, rfl⟩; rw [hgg])
          go_roundw
          case rel => exact ⟨1 + 1, by omega, by first | rfl | go_num, [a] ++ [n], rfl, ⟨by have h := HV.out; have hg := HGG.out; simp only [List.take_succ_cons, List.take_zero, List.map_cons, List.map_nil, List.cons_append, List.nil_append, List.cons.injEq, and_true, true_and] at h ⊢; exact ⟨h, hg⟩⟩, ⟨blk_put HH2.out 1 _ rfl⟩, ⟨blk_far HG.out (by simp) _⟩, ⟨HB.out.setCell (Nat.le_refl _) _⟩⟩
          case measure => simp [intOf]
      · obtain ⟨a, b, rfl⟩ : ∃ a b, vs = [a, b] := by
          match vs, hvl with
          | [a, b], _ => exact ⟨a, b, rfl⟩
        have HH2 : Aside0 (wr.heap[w.heap.size]? = some (.cells #[.int .u8 (a : Nat), .int .u8 (b : Nat), .int .u8 0, .int .u8 0, .int .i64 0] 25 (0, 0))) := HH
        have f0 := blk_frozen HH2.out 0
        have c0 : wr.cell? ⟨w.heap.size, 0, none⟩ = some (.int .u8 (a : Nat)) := (blk_cell HH2.out 0).trans rfl
        have f1 := blk_frozen HH2.out 1
        have c1 : wr.cell? ⟨w.heap.size, 1, none⟩ = some (.int .u8 (b : Nat)) := (blk_cell HH2.out 1).trans rfl
        have f2 := blk_frozen HH2.out 2
        have c2 : wr.cell? ⟨w.heap.size, 2, none⟩ = some (.int .u8 0) := (blk_cell HH2.out 2).trans rfl
        have f3 := blk_frozen HH2.out 3
        have c3 : wr.cell? ⟨w.heap.size, 3, none⟩ = some (.int .u8 0) := (blk_cell HH2.out 3).trans rfl
        have f4 := blk_frozen HH2.out 4
        have c4 : wr.cell? ⟨w.heap.size, 4, none⟩ = some (.int .i64 0) := (blk_cell HH2.out 4).trans rfl
        have hc : wr.cell? ⟨w.heap.size + 1, 2, none⟩ = some (.string p2) := (blk_cell HG.out 2).trans rfl
        cases hg : get255 p2.data.toList with
        | none =>
          have hgg : get p2.data.toList 255 = (0, false) := by rw [get255_get, hg]
          have HF := Aside0.mk (show R = readR none from by rw [HR.out, six_none2 hg])
          clear hg hvl hk hps
          go_wp2_with (go_at_call 19; refine (get_calls _ _ _).mono ?_; rintro e w1 ⟨rfl, rfl⟩; rw [hgg])
          try rw [Exit.noGoto_ret]
          try simp only [Exit.inBlock, Exit.then]
          refine bodyPost_ret (res_read _ _ w.heap.size 0 0 0 0 0 false rfl rfl (blk_put (blk_put (blk_put (blk_put (blk_put HH2.out 0 _ rfl) 1 _ rfl) 2 _ rfl) 3 _ rfl) 4 _ rfl)) rfl ⟨?_, ?_⟩
          · first | (rw [HF.out]; rfl) | rfl
          · exact ((((HB.out.setCell (Nat.le_refl _) _).setCell (Nat.le_refl _) _).setCell (Nat.le_refl _) _).setCell (Nat.le_refl _) _).setCell (Nat.le_refl _) _
        | some n =>
          have hgg : get p2.data.toList 255 = ((n : Int), true) := by rw [get255_get, hg]
          have hn : n ≤ 255 := ((get255_iff _ _).1 hg).2
          have hcv : IntKind.u8.wrap (n : Int) = (n : Int) := by simp [IntKind.wrap, IntKind.bits, IntKind.signed]; omega
          have HGG := Aside0.mk hg
          clear hg hvl hk hps hn
          go_wp2_with (go_at_call 19; refine (get_calls _ _ _).mono ?_; rintro e w1 ⟨rfl, rfl⟩; rw [hgg])
          go_roundw
          case rel => exact ⟨2 + 1, by omega, by first | rfl | go_num, [a, b] ++ [n], rfl, ⟨by have h := HV.out; have hg := HGG.out; simp only [List.take_succ_cons, List.take_zero, List.map_cons, List.map_nil, List.cons_append, List.nil_append, List.cons.injEq, and_true, true_and] at h ⊢; exact ⟨h.1, h.2, hg⟩⟩, ⟨blk_put HH2.out 2 _ rfl⟩, ⟨blk_far HG.out (by simp) _⟩, ⟨HB.out.setCell (Nat.le_refl _) _⟩⟩
          case measure => simp [intOf]
      · obtain ⟨a, b, c, rfl⟩ : ∃ a b c, vs = [a, b, c] := by
          match vs, hvl with
          | [a, b, c], _ => exact ⟨a, b, c, rfl⟩
        have HH2 : Aside0 (wr.heap[w.heap.size]? = some (.cells #[.int .u8 (a : Nat), .int .u8 (b : Nat), .int .u8 (c : Nat), .int .u8 0, .int .i64 0] 25 (0, 0))) := HH
        have f0 := blk_frozen HH2.out 0
        have c0 : wr.cell? ⟨w.heap.size, 0, none⟩ = some (.int .u8 (a : Nat)) := (blk_cell HH2.out 0).trans rfl
        have f1 := blk_frozen HH2.out 1
        have c1 : wr.cell? ⟨w.heap.size, 1, none⟩ = some (.int .u8 (b : Nat)) := (blk_cell HH2.out 1).trans rfl
        have f2 := blk_frozen HH2.out 2
        have c2 : wr.cell? ⟨w.heap.size, 2, none⟩ = some (.int .u8 (c : Nat)) := (blk_cell HH2.out 2).trans rfl
        have f3 := blk_frozen HH2.out 3
        have c3 : wr.cell? ⟨w.heap.size, 3, none⟩ = some (.int .u8 0) := (blk_cell HH2.out 3).trans rfl
        have f4 := blk_frozen HH2.out 4
        have c4 : wr.cell? ⟨w.heap.size, 4, none⟩ = some (.int .i64 0) := (blk_cell HH2.out 4).trans rfl
        have hc : wr.cell? ⟨w.heap.size + 1, 3, none⟩ = some (.string p3) := (blk_cell HG.out 3).trans rfl
        cases hg : get255 p3.data.toList with
        | none =>
          have hgg : get p3.data.toList 255 = (0, false) := by rw [get255_get, hg]
          have HF := Aside0.mk (show R = readR none from by rw [HR.out, six_none3 hg])
          clear hg hvl hk hps
          go_wp2_with (go_at_call 19; refine (get_calls _ _ _).mono ?_; rintro e w1 ⟨rfl, rfl⟩; rw [hgg])
          try rw [Exit.noGoto_ret]
          try simp only [Exit.inBlock, Exit.then]
          refine bodyPost_ret (res_read _ _ w.heap.size 0 0 0 0 0 false rfl rfl (blk_put (blk_put (blk_put (blk_put (blk_put HH2.out 0 _ rfl) 1 _ rfl) 2 _ rfl) 3 _ rfl) 4 _ rfl)) rfl ⟨?_, ?_⟩
          · first | (rw [HF.out]; rfl) | rfl
          · exact ((((HB.out.setCell (Nat.le_refl _) _).setCell (Nat.le_refl _) _).setCell (Nat.le_refl _) _).setCell (Nat.le_refl _) _).setCell (Nat.le_refl _) _
        | some n =>
          have hgg : get p3.data.toList 255 = ((n : Int), true) := by rw [get255_get, hg]
          have hn : n ≤ 255 := ((get255_iff _ _).1 hg).2
          have hcv : IntKind.u8.wrap (n : Int) = (n : Int) := by simp [IntKind.wrap, IntKind.bits, IntKind.signed]; omega
          have HGG := Aside0.mk hg
          clear hg hvl hk hps hn
          go_wp2_with (go_at_call 19; refine (get_calls _ _ _).mono ?_; rintro e w1 ⟨rfl, rfl⟩; rw [hgg])
          go_roundw
          case rel => exact ⟨3 + 1, by omega, by first | rfl | go_num, [a, b, c] ++ [n], rfl, ⟨by have h := HV.out; have hg := HGG.out; simp only [List.take_succ_cons, List.take_zero, List.map_cons, List.map_nil, List.cons_append, List.nil_append, List.cons.injEq, and_true, true_and] at h ⊢; exact ⟨h.1, h.2.1, h.2.2, hg⟩⟩, ⟨blk_put HH2.out 3 _ rfl⟩, ⟨blk_far HG.out (by simp) _⟩, ⟨HB.out.setCell (Nat.le_refl _) _⟩⟩
          case measure => simp [intOf]
      · obtain ⟨a, b, c, d, rfl⟩ : ∃ a b c d, vs = [a, b, c, d] := by
          match vs, hvl with
          | [a, b, c, d], _ => exact ⟨a, b, c, d, rfl⟩
        have HH2 : Aside0 (wr.heap[w.heap.size]? = some (.cells #[.int .u8 (a : Nat), .int .u8 (b : Nat), .int .u8 (c : Nat), .int .u8 (d : Nat), .int .i64 0] 25 (0, 0))) := HH
        have f0 := blk_frozen HH2.out 0
        have c0 : wr.cell? ⟨w.heap.size, 0, none⟩ = some (.int .u8 (a : Nat)) := (blk_cell HH2.out 0).trans rfl
        have f1 := blk_frozen HH2.out 1
        have c1 : wr.cell? ⟨w.heap.size, 1, none⟩ = some (.int .u8 (b : Nat)) := (blk_cell HH2.out 1).trans rfl
        have f2 := blk_frozen HH2.out 2
        have c2 : wr.cell? ⟨w.heap.size, 2, none⟩ = some (.int .u8 (c : Nat)) := (blk_cell HH2.out 2).trans rfl
        have f3 := blk_frozen HH2.out 3
        have c3 : wr.cell? ⟨w.heap.size, 3, none⟩ = some (.int .u8 (d : Nat)) := (blk_cell HH2.out 3).trans rfl
        have f4 := blk_frozen HH2.out 4
        have c4 : wr.cell? ⟨w.heap.size, 4, none⟩ = some (.int .i64 0) := (blk_cell HH2.out 4).trans rfl
        have hc : wr.cell? ⟨w.heap.size + 1, 4, none⟩ = some (.string p4) := (blk_cell HG.out 4).trans rfl
        cases hg : get255 p4.data.toList with
        | none =>
          have hgg : get p4.data.toList 255 = (0, false) := by rw [get255_get, hg]
          have HF := Aside0.mk (show R = readR none from by rw [HR.out, six_none4 hg])
          clear hg hvl hk hps
          go_wp2_with (go_at_call 19; refine (get_calls _ _ _).mono ?_; rintro e w1 ⟨rfl, rfl⟩; rw [hgg])
          try rw [Exit.noGoto_ret]
          try simp only [Exit.inBlock, Exit.then]
          refine bodyPost_ret (res_read _ _ w.heap.size 0 0 0 0 0 false rfl rfl (blk_put (blk_put (blk_put (blk_put (blk_put HH2.out 0 _ rfl) 1 _ rfl) 2 _ rfl) 3 _ rfl) 4 _ rfl)) rfl ⟨?_, ?_⟩
          · first | (rw [HF.out]; rfl) | rfl
          · exact ((((HB.out.setCell (Nat.le_refl _) _).setCell (Nat.le_refl _) _).setCell (Nat.le_refl _) _).setCell (Nat.le_refl _) _).setCell (Nat.le_refl _) _
        | some n =>
          have hgg : get p4.data.toList 255 = ((n : Int), true) := by rw [get255_get, hg]
          have hn : n ≤ 255 := ((get255_iff _ _).1 hg).2
          have hcv : IntKind.u8.wrap (n : Int) = (n : Int) := by simp [IntKind.wrap, IntKind.bits, IntKind.signed]; omega
          have HGG := Aside0.mk hg
          have hor := or0 n (by omega)
          clear hg hvl hk hps hn
          go_wp2_with (go_at_call 19; refine (get_calls _ _ _).mono ?_; rintro e w1 ⟨rfl, rfl⟩; rw [hgg])
          go_roundw
          case rel => exact ⟨4 + 1, by omega, by first | rfl | go_num, [a, b, c, d] ++ [n], rfl, ⟨by have h := HV.out; have hg := HGG.out; simp only [List.take_succ_cons, List.take_zero, List.map_cons, List.map_nil, List.cons_append, List.nil_append, List.cons.injEq, and_true, true_and] at h ⊢; exact ⟨h.1, h.2.1, h.2.2.1, h.2.2.2, hg⟩⟩, ⟨blk_put HH2.out 4 _ rfl⟩, ⟨blk_far HG.out (by simp) _⟩, ⟨HB.out.setCell (Nat.le_refl _) _⟩⟩
          case measure => simp [intOf]
      · obtain ⟨a, b, c, d, e, rfl⟩ : ∃ a b c d e, vs = [a, b, c, d, e] := by
          match vs, hvl with
          | [a, b, c, d, e], _ => exact ⟨a, b, c, d, e, rfl⟩
        have HH2 : Aside0 (wr.heap[w.heap.size]? = some (.cells #[.int .u8 (a : Nat), .int .u8 (b : Nat), .int .u8 (c : Nat), .int .u8 (d : Nat), .int .i64 (e : Nat)] 25 (0, 0))) := HH
        have f0 := blk_frozen HH2.out 0
        have c0 : wr.cell? ⟨w.heap.size, 0, none⟩ = some (.int .u8 (a : Nat)) := (blk_cell HH2.out 0).trans rfl
        have f1 := blk_frozen HH2.out 1
        have c1 : wr.cell? ⟨w.heap.size, 1, none⟩ = some (.int .u8 (b : Nat)) := (blk_cell HH2.out 1).trans rfl
        have f2 := blk_frozen HH2.out 2
        have c2 : wr.cell? ⟨w.heap.size, 2, none⟩ = some (.int .u8 (c : Nat)) := (blk_cell HH2.out 2).trans rfl
        have f3 := blk_frozen HH2.out 3
        have c3 : wr.cell? ⟨w.heap.size, 3, none⟩ = some (.int .u8 (d : Nat)) := (blk_cell HH2.out 3).trans rfl
        have f4 := blk_frozen HH2.out 4
        have c4 : wr.cell? ⟨w.heap.size, 4, none⟩ = some (.int .i64 (e : Nat)) := (blk_cell HH2.out 4).trans rfl
        have hc : wr.cell? ⟨w.heap.size + 1, 5, none⟩ = some (.string p5) := (blk_cell HG.out 5).trans rfl
        cases hg : get255 p5.data.toList with
        | none =>
          have hgg : get p5.data.toList 255 = (0, false) := by rw [get255_get, hg]
          have HF := Aside0.mk (show R = readR none from by rw [HR.out, six_none5 hg])
          clear hg hvl hk hps
          go_wp2_with (go_at_call 19; refine (get_calls _ _ _).mono ?_; rintro e w1 ⟨rfl, rfl⟩; rw [hgg])
          try rw [Exit.noGoto_ret]
          try simp only [Exit.inBlock, Exit.then]
          refine bodyPost_ret (res_read _ _ w.heap.size 0 0 0 0 0 false rfl rfl (blk_put (blk_put (blk_put (blk_put (blk_put HH2.out 0 _ rfl) 1 _ rfl) 2 _ rfl) 3 _ rfl) 4 _ rfl)) rfl ⟨?_, ?_⟩
          · first | (rw [HF.out]; rfl) | rfl
          · exact ((((HB.out.setCell (Nat.le_refl _) _).setCell (Nat.le_refl _) _).setCell (Nat.le_refl _) _).setCell (Nat.le_refl _) _).setCell (Nat.le_refl _) _
        | some n =>
          have hgg : get p5.data.toList 255 = ((n : Int), true) := by rw [get255_get, hg]
          have hn : n ≤ 255 := ((get255_iff _ _).1 hg).2
          have hcv : IntKind.u8.wrap (n : Int) = (n : Int) := by simp [IntKind.wrap, IntKind.bits, IntKind.signed]; omega
          have HGG := Aside0.mk hg
          have he256 : e < 256 := by have h := HV.out; simp only [List.take_succ_cons, List.take_zero, List.map_cons, List.map_nil, List.cons.injEq, and_true] at h; have := ((get255_iff _ _).1 h.2.2.2.2).2; omega
          obtain ⟨q, hq⟩ : ∃ q : Nat, q = 256 * e + n := ⟨_, rfl⟩
          have hor : bits .or .i64 ((e : Int) * 256) (n : Int) = (q : Int) := by rw [hq]; exact or8 e n he256 (by omega)
          have HQ := Aside0.mk hq
          have hw8 : wrap64 ((e : Int) * 256) = (e : Int) * 256 := by unfold wrap64; omega
          clear he256 hq
          clear hg hvl hk hps hn
          go_wp2_with (go_at_call 19; refine (get_calls _ _ _).mono ?_; rintro e w1 ⟨rfl, rfl⟩; rw [hgg])
          go_roundw
          case rel => exact ⟨5 + 1, by omega, by first | rfl | go_num, [a, b, c, d, e] ++ [n], rfl, ⟨by have h := HV.out; have hg := HGG.out; simp only [List.take_succ_cons, List.take_zero, List.map_cons, List.map_nil, List.cons_append, List.nil_append, List.cons.injEq, and_true, true_and] at h ⊢; exact ⟨h.1, h.2.1, h.2.2.1, h.2.2.2.1, h.2.2.2.2, hg⟩⟩, ⟨by have h9 := blk_put HH2.out 4 (Value.int .i64 (q : Int)) rfl; rw [HQ.out] at h9 ⊢; exact h9⟩, ⟨blk_far HG.out (by simp) _⟩, ⟨HB.out.setCell (Nat.le_refl _) _⟩⟩
          case measure => simp [intOf]
      · obtain ⟨a, b, c, d, e, f, rfl⟩ : ∃ a b c d e f, vs = [a, b, c, d, e, f] := by
          match vs, hvl with
          | [a, b, c, d, e, f], _ => exact ⟨a, b, c, d, e, f, rfl⟩
        obtain ⟨q, hq⟩ : ∃ q : Nat, q = 256 * e + f := ⟨_, rfl⟩
        have HH2 : Aside0 (wr.heap[w.heap.size]? = some (.cells #[.int .u8 (a : Nat), .int .u8 (b : Nat), .int .u8 (c : Nat), .int .u8 (d : Nat), .int .i64 (q : Nat)] 25 (0, 0))) := by rw [hq]; exact HH
        have hsix : readSix s.data.toList = some (a, b, c, d, q) := by
          have := HV.out
          simp only [List.take_succ_cons, List.take_zero, List.map_cons, List.map_nil, List.cons.injEq, and_true] at this
          rw [readSix, ← hpsx.out]
          show six _ _ _ _ _ _ = _
          rw [six, this.1, this.2.1, this.2.2.1, this.2.2.2.1, this.2.2.2.2.1, this.2.2.2.2.2, hq]; rfl
        have hiff := (readSix_iff _ _ _ _ _ _).1 hsix
        have HF := Aside0.mk (show R = readR (some (a, b, c, d, q)) from by rw [HRR.out, hsix])
        have HT := Aside0.mk (show a < 256 ∧ b < 256 ∧ c < 256 ∧ d < 256 ∧ textR a b c d q = .tuple #[.string s, .bool true] from by
          refine ⟨by omega, by omega, by omega, by omega, ?_⟩
          rw [textR, if_neg (by omega), show ((q : Int)).toNat = q from rfl, ← hiff.1]; rfl)
        have hq2 : ∀ W, (Op.equalIn 10000 25 (.agg #[.int .u8 (a : Nat), .int .u8 (b : Nat), .int .u8 (c : Nat), .int .u8 (d : Nat), .int .i64 (q : Nat)]) (.agg #[.int .u8 (a : Nat), .int .u8 (b : Nat), .int .u8 (c : Nat), .int .u8 (d : Nat), .int .i64 (q : Nat)])).run Tryd.prog W = .ok true W := fun W => by rw [eq_end]; simp
        clear hps hvl hk hsix hiff hq HH
        have c0 : wr.cell? ⟨w.heap.size, 0, none⟩ = some (.int .u8 (a : Nat)) := (blk_cell HH2.out 0).trans rfl
        have c1 : wr.cell? ⟨w.heap.size, 1, none⟩ = some (.int .u8 (b : Nat)) := (blk_cell HH2.out 1).trans rfl
        have c2 : wr.cell? ⟨w.heap.size, 2, none⟩ = some (.int .u8 (c : Nat)) := (blk_cell HH2.out 2).trans rfl
        have c3 : wr.cell? ⟨w.heap.size, 3, none⟩ = some (.int .u8 (d : Nat)) := (blk_cell HH2.out 3).trans rfl
        have c4 : wr.cell? ⟨w.heap.size, 4, none⟩ = some (.int .i64 (q : Nat)) := (blk_cell HH2.out 4).trans rfl
        go_wp2_with (go_at_call 9; refine (text_calls a b c d q HT.out.1 HT.out.2.1 HT.out.2.2.1 HT.out.2.2.2.1 _).mono ?_; rw [HT.out.2.2.2.2]; rintro e' w7 ⟨rfl, hb7⟩; have HB7 := Aside0.mk (HB.out.trans (hb7.mono HB.out.size)); have HH7 := Aside0.mk (blk_below HH2.out hb7); clear hb7)
        clear c0 c1 c2 c3 c4
        have f0 := blk_frozen HH7.out 0
        have f1 := blk_frozen HH7.out 1
        have f2 := blk_frozen HH7.out 2
        have f3 := blk_frozen HH7.out 3
        have f4 := blk_frozen HH7.out 4
        have c0 : w7.cell? ⟨w.heap.size, 0, none⟩ = some (.int .u8 (a : Nat)) := (blk_cell HH7.out 0).trans rfl
        have c1 : w7.cell? ⟨w.heap.size, 1, none⟩ = some (.int .u8 (b : Nat)) := (blk_cell HH7.out 1).trans rfl
        have c2 : w7.cell? ⟨w.heap.size, 2, none⟩ = some (.int .u8 (c : Nat)) := (blk_cell HH7.out 2).trans rfl
        have c3 : w7.cell? ⟨w.heap.size, 3, none⟩ = some (.int .u8 (d : Nat)) := (blk_cell HH7.out 3).trans rfl
        have c4 : w7.cell? ⟨w.heap.size, 4, none⟩ = some (.int .i64 (q : Nat)) := (blk_cell HH7.out 4).trans rfl
        go_region
        all_goals
          go_wp2
          try rw [Exit.noGoto_ret]
          try simp only [Exit.inBlock, Exit.then]
          refine bodyPost_ret (res_read _ _ w.heap.size a b c d q true rfl rfl (blk_drew (blk_put (blk_put (blk_put (blk_put (blk_put HH7.out 0 _ rfl) 1 _ rfl) 2 _ rfl) 3 _ rfl) 4 _ rfl))) rfl ⟨?_, ?_⟩
          · first | (rw [HF.out]; rfl) | rfl
          · exact (((((HB7.out.setCell (Nat.le_refl _) _).setCell (Nat.le_refl _) _).setCell (Nat.le_refl _) _).setCell (Nat.le_refl _) _).setCell (Nat.le_refl _) _).drew
  · have hl2 : ((ps.length : Int) != 6) = true := by simp; omega
    have HF := Aside0.mk (show R = readR none from by
      rw [HRR.out, readSix, ← hps]
      split
      · rename_i p0 p1 p2 p3 p4 p5 h
        have := congrArg List.length h
        simp at this; omega
      · rfl)
    clear hl
    go_enter Tryd.func11, Tryd.ntmps11
    go_wp2
    go_step3
    go_wp2_with (go_at_call 18; refine (HSP.out _ (HM.out.below ((Below.refl _ _).alloc (Nat.le_refl _) _))).mono ?_; rintro e w1 ⟨rfl, rfl⟩)
    try rw [Exit.noGoto_ret]
    try simp only [Exit.inBlock, Exit.then]
    refine bodyPost_ret (res_read _ _ w.heap.size 0 0 0 0 0 false rfl rfl (by have := blk_alloc (blk_new w (.cells #[.int .u8 0, .int .u8 0, .int .u8 0, .int .u8 0, .int .i64 0] 25)) (.cells (ps.map Value.string).toArray 9); exact this)) rfl ⟨?_, ?_⟩
    · first | (rw [HF.out]; rfl) | rfl
    · exact ((Below.refl _ _).alloc (Nat.le_refl _) _).alloc (by simp) _
end Go.Proofs.YtfhfldpdkmankaaDoor.Six
