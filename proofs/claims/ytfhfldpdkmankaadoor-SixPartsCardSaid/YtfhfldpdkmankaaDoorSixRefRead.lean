/- The contract of the reference's Read. -/
import Derived.Test.YtfhfldpdkmankaaDoorSixRead
import Derived.Test.YtfhfldpdkmankaaDoorRefGet
namespace Go.Proofs.YtfhfldpdkmankaaDoor.Six
open Go Go.RowKit Go.Proofs.YtfhfldpdkmankaaDoorW.PrintWords Go.Proofs.YtfhfldpdkmankaaDoorW.PrintLast Go.Proofs.YtfhfldpdkmankaaDoorW.PrintMore Go.Proofs.YtfhfldpdkmankaaDoor.Dig Go.Proofs.YtfhfldpdkmankaaDoor.Quad Go.Proofs.YtfhfldpdkmankaaDoor.SixP
set_option linter.unusedVariables false
set_option linter.unusedSimpArgs false

theorem fill_put {α : Type} (f : Nat → α) (z : α) (vs : List Nat) (n m : Nat) (tl : List α) : ((vs.map f ++ List.replicate (m + 1) z) ++ tl).toArray.setIfInBounds vs.length (f n) = (((vs ++ [n]).map f ++ List.replicate m z) ++ tl).toArray := by
  apply Array.ext'
  rw [Array.toList_setIfInBounds]
  show List.set ((vs.map f ++ List.replicate (m + 1) z) ++ tl) vs.length (f n) = _
  rw [List.append_assoc, List.set_append_right _ _ (by simp), List.length_map, Nat.sub_self, List.replicate_succ]
  simp
theorem fill_get {α : Type} (f : Nat → α) (z : α) (vs : List Nat) (m : Nat) (tl : List α) : ((vs.map f ++ List.replicate (m + 1) z) ++ tl).toArray[vs.length]? = some z := by
  rw [List.getElem?_toArray, List.append_assoc, List.getElem?_append_right (by simp), List.length_map, Nat.sub_self, List.replicate_succ]
  rfl
theorem six_len {l : List UInt8} (h : (Cut.cut 44 l).length ≠ 6) : readSix l = none := by
  unfold readSix
  split
  · rename_i p0 p1 p2 p3 p4 p5 hc
    rw [hc] at h; exact absurd rfl h
  · rfl
theorem list6 {α : Type} (l : List α) (h : l.length = 6) : ∃ a b c d e f, l = [a, b, c, d, e, f] := by
  match l, h with
  | [a, b, c, d, e, f], _ => exact ⟨a, b, c, d, e, f, rfl⟩
theorem six_bad {l : List UInt8} (h6 : (Cut.cut 44 l).length = 6) (k : Nat) (hk : k < (Cut.cut 44 l).length) (hg : get255 (Cut.cut 44 l)[k] = none) : readSix l = none := by
  obtain ⟨p0, p1, p2, p3, p4, p5, hp⟩ := list6 _ h6
  have e : readSix l = six p0 p1 p2 p3 p4 p5 := by rw [readSix, hp]
  rw [e]
  simp only [hp, List.length_cons, List.length_nil] at hk
  obtain rfl | rfl | rfl | rfl | rfl | rfl : k = 0 ∨ k = 1 ∨ k = 2 ∨ k = 3 ∨ k = 4 ∨ k = 5 := by omega
  · simp only [hp, List.getElem_cons_zero] at hg; exact six_none0 hg
  · simp only [hp, List.getElem_cons_zero, List.getElem_cons_succ] at hg; exact six_none1 hg
  · simp only [hp, List.getElem_cons_zero, List.getElem_cons_succ] at hg; exact six_none2 hg
  · simp only [hp, List.getElem_cons_zero, List.getElem_cons_succ] at hg; exact six_none3 hg
  · simp only [hp, List.getElem_cons_zero, List.getElem_cons_succ] at hg; exact six_none4 hg
  · simp only [hp, List.getElem_cons_zero, List.getElem_cons_succ] at hg; exact six_none5 hg
theorem six_good {l : List UInt8} {a b c d e f : Nat} (h : (Cut.cut 44 l).map get255 = [some a, some b, some c, some d, some e, some f]) : readSix l = some (a, b, c, d, 256 * e + f) ∧ a < 256 ∧ b < 256 ∧ c < 256 ∧ d < 256 ∧ e < 256 ∧ f < 256 := by
  obtain ⟨p0, p1, p2, p3, p4, p5, hp⟩ := list6 (Cut.cut 44 l) (by have := congrArg List.length h; simpa using this)
  rw [hp] at h
  simp only [List.map_cons, List.map_nil, List.cons.injEq, and_true] at h
  obtain ⟨h0, h1, h2, h3, h4, h5⟩ := h
  refine ⟨?_, ?_⟩
  · rw [readSix, hp]
    show six _ _ _ _ _ _ = _
    rw [six, h0, h1, h2, h3, h4, h5]; rfl
  · have := ((get255_iff _ _).1 h0).2; have := ((get255_iff _ _).1 h1).2; have := ((get255_iff _ _).1 h2).2; have := ((get255_iff _ _).1 h3).2; have := ((get255_iff _ _).1 h4).2; have := ((get255_iff _ _).1 h5).2
    omega
theorem res_rread (tmps : Array Value) (W : World) (H : Nat) (a b c d p : Int) (t : Bool) (h2 : tmps.getD 2 undef = .pointer (some ⟨H, 0, none⟩)) (h3 : tmps.getD 3 undef = .bool t) (hh : W.heap[H]? = some (.cells #[.int .u8 a, .int .u8 b, .int .u8 c, .int .u8 d, .int .i64 p] 25 (0, 0))) :
   (results Tryd.f12 tmps).run Tryd.prog W = .ok (.tuple #[.agg #[.int .u8 a, .int .u8 b, .int .u8 c, .int .u8 d, .int .i64 p], .bool t]) W := by
  have c0 : W.cell? ⟨H, 0, none⟩ = some (.int .u8 a) := (blk_cell hh 0).trans rfl
  have c1 : W.cell? ⟨H, 1, none⟩ = some (.int .u8 b) := (blk_cell hh 1).trans rfl
  have c2 : W.cell? ⟨H, 2, none⟩ = some (.int .u8 c) := (blk_cell hh 2).trans rfl
  have c3 : W.cell? ⟨H, 3, none⟩ = some (.int .u8 d) := (blk_cell hh 3).trans rfl
  have c4 : W.cell? ⟨H, 4, none⟩ = some (.int .i64 p) := (blk_cell hh 4).trans rfl
  rw [Array.getD_eq_getD_getElem?] at h2 h3
  simp [results, show Tryd.f12.results = #[.cell 2 25, .tmp 3] from rfl, h2, h3, go_sem, c0, c1, c2, c3, c4]
def iv (n : Nat) : Value := .int .i64 (n : Int)
def bv (n : Nat) : Value := .int .u8 (n : Int)

set_option maxHeartbeats 4000000 in
set_option maxRecDepth 100000 in
theorem ref_read_calls (s : ByteArray) (hs : s.size ≤ 1000000) (w : World) :
    Calls Tryd.prog 12 #[.string s] w fun e w' => e = .returned (readR (readSix s.data.toList)) ∧ Below w.heap.size w w' := by
  obtain ⟨R, hR⟩ : ∃ R, R = readR (readSix s.data.toList) := ⟨_, rfl⟩
  rw [← hR]
  have HR := Aside0.mk hR
  have HS := Aside0.mk hs
  obtain ⟨ps, hps⟩ : ∃ ps, ps = Cut.cut 44 s.data.toList := ⟨_, rfl⟩
  have HP := Aside0.mk hps
  clear hR hs hps
  have H0 := Aside0.mk (show Below w.heap.size w (w.alloc (.cells #[.int .u8 0, .int .u8 0, .int .u8 0, .int .u8 0, .int .i64 0] 25)) ∧ (w.alloc (.cells #[.int .u8 0, .int .u8 0, .int .u8 0, .int .u8 0, .int .i64 0] 25)).heap[w.heap.size]? = some (.cells #[.int .u8 0, .int .u8 0, .int .u8 0, .int .u8 0, .int .i64 0] 25 (0, 0)) from ⟨(Below.refl _ _).alloc (Nat.le_refl _) _, blk_new _ _⟩)
  by_cases hl : ps.length = 6
  · go_enter Tryd.func12, Tryd.ntmps12
    go_wp2_with (go_at_call 20; refine (ref_cut_calls s 44 HS.out _).mono ?_; rw [← HP.out]; rintro e w1 ⟨v, rfl, ho, hb⟩; have HB1 := Aside0.mk (H0.out.1.trans (hb.mono H0.out.1.size)); have HZ1 := Aside0.mk (blk_below H0.out.2 hb); rw [hl] at ho; obtain ⟨g, c, rfl, hc, hgb, hgl, hx⟩ := Laws.own_cells ho (by decide); have HX := Aside0.mk (show g < w1.heap.size ∧ w.heap.size < g ∧ ∀ (j : Nat) x, (ps.map str)[j]? = some x → w1.cell? ⟨g, 0 + j, none⟩ = some x from ⟨hgl, by simp at hgb; omega, hx⟩); clear ho hb hc hgb hgl hx)
    have HW1 := Aside0.mk (show w.heap.size < w1.heap.size from by have := blk_lt HZ1.out; omega)
    go_loopw [7] (fun i_ wr => ∃ (k : Nat) (vs : List Nat), k ≤ 6 ∧ i_ = .int .i64 k ∧ vs.length = k ∧ Aside0 ((ps.take k).map get255 = vs.map some) ∧ Aside0 (Below w.heap.size w wr) ∧ Aside0 (wr.heap[w.heap.size]? = some (.cells #[.int .u8 0, .int .u8 0, .int .u8 0, .int .u8 0, .int .i64 0] 25 (0, 0))) ∧ Aside0 (wr.heap[w1.heap.size]? = some (.cells #[.int .u8 0, .int .u8 0, .int .u8 0, .int .u8 0, .int .i64 0] 25 (0, 0))) ∧ Aside0 (wr.heap[g]? = w1.heap[g]?) ∧ Aside0 (wr.heap[w1.heap.size + 1]? = some (.cells ((vs.map iv ++ List.replicate (6 - k) (iv 0)) ++ []).toArray 45 (0, 0)))) (fun i_ _ => 6 - (intOf i_).toNat)
    case atStart =>
      refine ⟨0, [], Nat.zero_le _, rfl, rfl, ⟨rfl⟩, ⟨(HB1.out.alloc HB1.out.size _).alloc (Nat.le_trans HB1.out.size (by simp)) _⟩, ⟨blk_alloc (blk_alloc HZ1.out _) _⟩, ⟨blk_alloc (blk_new w1 _) _⟩, ⟨?_⟩, ⟨?_⟩⟩
      · rw [Below.heap_alloc _ _ _ (by simp; have := HX.out.1; omega), Below.heap_alloc _ _ _ HX.out.1]
      · have := blk_new (w1.alloc (.cells #[.int .u8 0, .int .u8 0, .int .u8 0, .int .u8 0, .int .i64 0] 25)) (.cells #[.int .i64 0, .int .i64 0, .int .i64 0, .int .i64 0, .int .i64 0, .int .i64 0] 45)
        simpa [iv] using this
    case round =>
      obtain ⟨k, vs, hk, rfl, hvl, HV, HB, HZ, HE, HG, HN⟩ := hrel
      have HZo := HZ.out
      by_cases hlt : k < 6
      · have hkp : k < ps.length := by rw [hl]; exact hlt
        obtain ⟨p, hp⟩ : ∃ p : ByteArray, p = ⟨(ps[k]).toArray⟩ := ⟨_, rfl⟩
        have hpl : p.data.toList = ps[k] := by rw [hp]
        have hcell : wr.cell? ⟨g, k, none⟩ = some (.string p) := by
          rw [World.cell?_of_block (w := w1) HG.out]
          have := HX.out.2.2 k (.string p) (by rw [List.getElem?_map, List.getElem?_eq_getElem hkp, hp]; rfl)
          rwa [Nat.zero_add] at this
        have zf0 := blk_frozen HZo 0
        have zc0 : wr.cell? ⟨w.heap.size, 0, none⟩ = some (.int .u8 0) := (blk_cell HZo 0).trans rfl
        have zf1 := blk_frozen HZo 1
        have zc1 : wr.cell? ⟨w.heap.size, 1, none⟩ = some (.int .u8 0) := (blk_cell HZo 1).trans rfl
        have zf2 := blk_frozen HZo 2
        have zc2 : wr.cell? ⟨w.heap.size, 2, none⟩ = some (.int .u8 0) := (blk_cell HZo 2).trans rfl
        have zf3 := blk_frozen HZo 3
        have zc3 : wr.cell? ⟨w.heap.size, 3, none⟩ = some (.int .u8 0) := (blk_cell HZo 3).trans rfl
        have zf4 := blk_frozen HZo 4
        have zc4 : wr.cell? ⟨w.heap.size, 4, none⟩ = some (.int .i64 0) := (blk_cell HZo 4).trans rfl
        have nf := blk_frozen HN.out k
        have nc : wr.cell? ⟨w1.heap.size + 1, k, none⟩ = some (.int .i64 0) := by
          rw [blk_cell HN.out, ← hvl, show 6 - vs.length = (5 - vs.length) + 1 from by omega]
          exact fill_get iv (iv 0) vs _ []
        cases hg : get255 ps[k] with
        | none =>
          have hgg : get p.data.toList 255 = (0, false) := by rw [get255_get, hpl, hg]
          have HF := Aside0.mk (show R = readR none from by rw [HR.out]; have e := HP.out; subst e; exact congrArg readR (six_bad hl k hkp hg))
          clear hg hvl hk hp hpl hkp HZo
          go_wp2_with (go_at_call 21; refine (ref_get_calls _ _ _).mono ?_; rintro e w9 ⟨rfl, hw⟩; obtain rfl := hw.symm; rw [hgg])
          try simp only [Exit.inBlock, Exit.then]
          refine bodyPost_ret (res_rread _ _ w.heap.size 0 0 0 0 0 false rfl rfl (blk_put (blk_put (blk_put (blk_put (blk_put HZ.out 0 _ rfl) 1 _ rfl) 2 _ rfl) 3 _ rfl) 4 _ rfl)) rfl ⟨?_, ?_⟩
          · first | (rw [HF.out]; rfl) | rfl
          · exact ((((HB.out.setCell (Nat.le_refl _) _).setCell (Nat.le_refl _) _).setCell (Nat.le_refl _) _).setCell (Nat.le_refl _) _).setCell (Nat.le_refl _) _
        | some n =>
          have hgg : get p.data.toList 255 = ((n : Int), true) := by rw [get255_get, hpl, hg]
          have HNX := Aside0.mk (show (ps.take (k + 1)).map get255 = (vs ++ [n]).map some from by
            rw [List.take_succ_eq_append_getElem hkp, List.map_append, List.map_append, HV.out, List.map_cons, List.map_nil, hg]; rfl)
          have HN2 := Aside0.mk (show (wr.setCell ⟨w1.heap.size + 1, k, none⟩ (.int .i64 n)).heap[w1.heap.size + 1]? = some (.cells (((vs ++ [n]).map iv ++ List.replicate (6 - (k + 1)) (iv 0)) ++ []).toArray 45 (0, 0)) from by
            refine blk_put HN.out k _ ?_
            rw [show 6 - k = (5 - k) + 1 from by omega, show 6 - (k + 1) = 5 - k from by omega, ← hvl]
            exact fill_put iv (iv 0) vs n _ [])
          have HVL := Aside0.mk (show (vs ++ [n]).length = k + 1 from by rw [List.length_append, hvl]; rfl)
          clear hg hvl hp hpl hkp HZo
          go_wp2_with (go_at_call 21; refine (ref_get_calls _ _ _).mono ?_; rintro e w9 ⟨rfl, hw⟩; obtain rfl := hw.symm; rw [hgg])
          go_roundw
          case rel => exact ⟨k + 1, vs ++ [n], by omega, by go_num, HVL.out, HNX, ⟨HB.out.setCell (by have := HW1.out; simp; omega) _⟩, ⟨blk_far HZ.out (by have := HW1.out; simp; omega) _⟩, ⟨blk_far HE.out (by simp) _⟩, ⟨(Below.heap_setCell _ _ _ _ (by have := HX.out.1; simp; omega)).trans HG.out⟩, HN2⟩
          case measure => simp [intOf]; omega
      · obtain rfl : k = 6 := by omega
        obtain ⟨a, b, c', d, e, f, rfl⟩ := list6 vs hvl
        have hall : (Cut.cut 44 s.data.toList).map get255 = [some a, some b, some c', some d, some e, some f] := by
          have := HV.out
          rw [← hl, List.take_length] at this
          rw [← HP.out]; exact this
        obtain ⟨hsix, ha, hb, hc, hd, he, hf⟩ := six_good hall
        obtain ⟨q, hq⟩ : ∃ q : Nat, q = 256 * e + f := ⟨_, rfl⟩
        have HF := Aside0.mk (show R = readR (some (a, b, c', d, q)) from by rw [HR.out, hsix, hq])
        have HQ := Aside0.mk (show q = 256 * e + f ∧ a < 256 ∧ b < 256 ∧ c' < 256 ∧ d < 256 ∧ e < 256 ∧ f < 256 from ⟨hq, ha, hb, hc, hd, he, hf⟩)
        have HN6 := Aside0.mk (show wr.heap[w1.heap.size + 1]? = some (.cells #[.int .i64 (a : Nat), .int .i64 (b : Nat), .int .i64 (c' : Nat), .int .i64 (d : Nat), .int .i64 (e : Nat), .int .i64 (f : Nat)] 45 (0, 0)) from HN.out)
        clear hvl hk hall hsix ha hb hc hd he hf hq HN HZo
        go_wp2
        go_loopw [10] (fun i_ wq => ∃ k : Nat, k ≤ 4 ∧ i_ = .int .i64 k ∧ Aside0 (Below w.heap.size w wq) ∧ Aside0 (wq.heap[w.heap.size]? = some (.cells #[.int .u8 0, .int .u8 0, .int .u8 0, .int .u8 0, .int .i64 0] 25 (0, 0))) ∧ Aside0 (wq.heap[w1.heap.size]? = some (.cells ((([a, b, c', d].take k).map bv ++ List.replicate (4 - k) (bv 0)) ++ [Value.int .i64 0]).toArray 25 (0, 0))) ∧ Aside0 (wq.heap[w1.heap.size + 1]? = some (.cells #[.int .i64 (a : Nat), .int .i64 (b : Nat), .int .i64 (c' : Nat), .int .i64 (d : Nat), .int .i64 (e : Nat), .int .i64 (f : Nat)] 45 (0, 0)))) (fun i_ _ => 4 - (intOf i_).toNat)
        case atStart => exact ⟨0, Nat.zero_le _, rfl, HB, HZ, HE, HN6⟩
        case round =>
          obtain ⟨k, hk, rfl, HB, HZ, HE, HN⟩ := hrel
          by_cases hlt : k < 4
          · have hkd : k < [a, b, c', d].length := hlt
            obtain ⟨x, hx⟩ : ∃ x, x = [a, b, c', d][k] := ⟨_, rfl⟩
            have hx256 : x < 256 := by
              have hm : x ∈ [a, b, c', d] := by rw [hx]; exact List.getElem_mem _
              have := HQ.out
              simp only [List.mem_cons, List.not_mem_nil, or_false] at hm
              rcases hm with rfl | rfl | rfl | rfl <;> omega
            have hcell : wr.cell? ⟨w1.heap.size + 1, k, none⟩ = some (.int .i64 x) := by
              rw [blk_cell HN.out]
              have h3 : ([a, b, c', d].map fun n : Nat => Value.int .i64 (n : Int))[k]? = some (.int .i64 x) := by rw [List.getElem?_map, List.getElem?_eq_getElem hkd, ← hx]; rfl
              obtain rfl | rfl | rfl | rfl : k = 0 ∨ k = 1 ∨ k = 2 ∨ k = 3 := by omega
              all_goals exact h3
            have hlk : ([a, b, c', d].take k).length = k := by rw [List.length_take]; omega
            have ef := blk_frozen HE.out k
            have ec : wr.cell? ⟨w1.heap.size, k, none⟩ = some (.int .u8 0) := by
              have h4 := fill_get bv (bv 0) ([a, b, c', d].take k) (3 - k) [Value.int .i64 0]
              rw [hlk, show 3 - k + 1 = 4 - k from by omega] at h4
              rw [blk_cell HE.out]; exact h4
            have hcv : IntKind.u8.wrap (x : Int) = (x : Int) := by simp [IntKind.wrap, IntKind.bits, IntKind.signed]; omega
            have HE2 := Aside0.mk (show (wr.setCell ⟨w1.heap.size, k, none⟩ (.int .u8 x)).heap[w1.heap.size]? = some (.cells ((([a, b, c', d].take (k + 1)).map bv ++ List.replicate (4 - (k + 1)) (bv 0)) ++ [Value.int .i64 0]).toArray 25 (0, 0)) from by
              refine blk_put HE.out k _ ?_
              have h4 := fill_put bv (bv 0) ([a, b, c', d].take k) x (3 - k) [Value.int .i64 0]
              rw [hlk, show 3 - k + 1 = 4 - k from by omega, hx, ← List.take_succ_eq_append_getElem hkd] at h4
              rw [show 4 - (k + 1) = 3 - k from by omega, hx]; exact h4)
            clear hx hx256 hkd hlk
            go_wp2
            go_roundw
            case rel => exact ⟨k + 1, by omega, by go_num, ⟨HB.out.setCell (by have := HW1.out; simp; omega) _⟩, ⟨blk_far HZ.out (by have := HW1.out; simp; omega) _⟩, HE2, ⟨blk_far HN.out (by simp) _⟩⟩
            case measure => simp [intOf]; omega
          · obtain rfl : k = 4 := by omega
            have HE4 := Aside0.mk (show wr.heap[w1.heap.size]? = some (.cells #[.int .u8 (a : Nat), .int .u8 (b : Nat), .int .u8 (c' : Nat), .int .u8 (d : Nat), .int .i64 0] 25 (0, 0)) from HE.out)
            have HZo := HZ.out
            have HE4o := HE4.out
            have zf0 := blk_frozen HZo 0
            have zc0 : wr.cell? ⟨w.heap.size, 0, none⟩ = some (.int .u8 0) := (blk_cell HZo 0).trans rfl
            have zf1 := blk_frozen HZo 1
            have zc1 : wr.cell? ⟨w.heap.size, 1, none⟩ = some (.int .u8 0) := (blk_cell HZo 1).trans rfl
            have zf2 := blk_frozen HZo 2
            have zc2 : wr.cell? ⟨w.heap.size, 2, none⟩ = some (.int .u8 0) := (blk_cell HZo 2).trans rfl
            have zf3 := blk_frozen HZo 3
            have zc3 : wr.cell? ⟨w.heap.size, 3, none⟩ = some (.int .u8 0) := (blk_cell HZo 3).trans rfl
            have zf4 := blk_frozen HZo 4
            have zc4 : wr.cell? ⟨w.heap.size, 4, none⟩ = some (.int .i64 0) := (blk_cell HZo 4).trans rfl
            have ef0 := blk_frozen HE4o 0
            have ec0 : wr.cell? ⟨w1.heap.size, 0, none⟩ = some (.int .u8 (a : Nat)) := (blk_cell HE4o 0).trans rfl
            have ef1 := blk_frozen HE4o 1
            have ec1 : wr.cell? ⟨w1.heap.size, 1, none⟩ = some (.int .u8 (b : Nat)) := (blk_cell HE4o 1).trans rfl
            have ef2 := blk_frozen HE4o 2
            have ec2 : wr.cell? ⟨w1.heap.size, 2, none⟩ = some (.int .u8 (c' : Nat)) := (blk_cell HE4o 2).trans rfl
            have ef3 := blk_frozen HE4o 3
            have ec3 : wr.cell? ⟨w1.heap.size, 3, none⟩ = some (.int .u8 (d : Nat)) := (blk_cell HE4o 3).trans rfl
            have ef4 := blk_frozen HE4o 4
            have ec4 : wr.cell? ⟨w1.heap.size, 4, none⟩ = some (.int .i64 0) := (blk_cell HE4o 4).trans rfl
            have n4 : wr.cell? ⟨w1.heap.size + 1, 4, none⟩ = some (.int .i64 (e : Nat)) := (blk_cell HN.out 4).trans rfl
            have n5 : wr.cell? ⟨w1.heap.size + 1, 5, none⟩ = some (.int .i64 (f : Nat)) := (blk_cell HN.out 5).trans rfl
            have hw1 : wrap64 (256 * (e : Int)) = 256 * (e : Int) := by have := HQ.out; unfold wrap64; omega
            have hw2 : wrap64 (q : Int) = (q : Int) := by have := HQ.out; unfold wrap64; omega
            have hne1 : w.heap.size ≠ w1.heap.size := by have := HW1.out; omega
            have hne2 : w1.heap.size ≠ w.heap.size := by have := HW1.out; omega
            have hsum : 256 * (e : Int) + (f : Int) = (q : Int) := by have := HQ.out; omega
            clear HZo HE4o hk
            go_wp2
            try simp only [Exit.inBlock, Exit.then]
            refine bodyPost_ret (res_rread _ _ w.heap.size a b c' d q true rfl rfl (blk_put (blk_put (blk_put (blk_put (blk_put (blk_far HZ.out (by have := HW1.out; simp; omega) _) 0 _ rfl) 1 _ rfl) 2 _ rfl) 3 _ rfl) 4 _ rfl)) rfl ⟨?_, ?_⟩
            · first | (rw [HF.out]; rfl) | rfl
            · exact (((((HB.out.setCell (by have := HW1.out; simp; omega) _).setCell (Nat.le_refl _) _).setCell (Nat.le_refl _) _).setCell (Nat.le_refl _) _).setCell (Nat.le_refl _) _).setCell (Nat.le_refl _) _
  · have HF := Aside0.mk (show R = readR none from by rw [HR.out, six_len (by rw [← HP.out]; exact hl)])
    obtain ⟨N, hN⟩ : ∃ N, N = ps.length := ⟨_, rfl⟩
    have hl2 : ((N : Int) != 6) = true := by simp; omega
    have hl3 : ((N : Int) == 6) = false := beq_eq_false_iff_ne.2 (by omega)
    have HN := Aside0.mk hN
    clear hN hl
    go_enter Tryd.func12, Tryd.ntmps12
    go_wp2_with (go_at_call 20; refine (ref_cut_calls s 44 HS.out _).mono ?_; rw [← HP.out]; rintro e w1 ⟨v, rfl, ho, hb⟩; have HB1 := Aside0.mk (H0.out.1.trans (hb.mono H0.out.1.size)); have HZ1 := Aside0.mk (blk_below H0.out.2 hb); rw [← HN.out] at ho; obtain ⟨A, M, c, rfl, hM, hc, hx⟩ := (show Row.Lies w1 _ _ v (ps.map str) from .inl (by have := ho; rw [HN.out] at this; rw [List.length_map]; exact this)).readN; rw [List.length_map, ← HN.out] at hM; subst hM; clear ho hb hc hx; have zf0 : ∀ o, (w1.alloc o).frozen? ⟨w.heap.size, 0, none⟩ = false := fun o => blk_frozen (blk_alloc HZ1.out o) 0; have zc0 : ∀ o, (w1.alloc o).cell? ⟨w.heap.size, 0, none⟩ = some (.int .u8 0) := fun o => (blk_cell (blk_alloc HZ1.out o) 0).trans rfl; have zf1 : ∀ o, (w1.alloc o).frozen? ⟨w.heap.size, 1, none⟩ = false := fun o => blk_frozen (blk_alloc HZ1.out o) 1; have zc1 : ∀ o, (w1.alloc o).cell? ⟨w.heap.size, 1, none⟩ = some (.int .u8 0) := fun o => (blk_cell (blk_alloc HZ1.out o) 1).trans rfl; have zf2 : ∀ o, (w1.alloc o).frozen? ⟨w.heap.size, 2, none⟩ = false := fun o => blk_frozen (blk_alloc HZ1.out o) 2; have zc2 : ∀ o, (w1.alloc o).cell? ⟨w.heap.size, 2, none⟩ = some (.int .u8 0) := fun o => (blk_cell (blk_alloc HZ1.out o) 2).trans rfl; have zf3 : ∀ o, (w1.alloc o).frozen? ⟨w.heap.size, 3, none⟩ = false := fun o => blk_frozen (blk_alloc HZ1.out o) 3; have zc3 : ∀ o, (w1.alloc o).cell? ⟨w.heap.size, 3, none⟩ = some (.int .u8 0) := fun o => (blk_cell (blk_alloc HZ1.out o) 3).trans rfl; have zf4 : ∀ o, (w1.alloc o).frozen? ⟨w.heap.size, 4, none⟩ = false := fun o => blk_frozen (blk_alloc HZ1.out o) 4; have zc4 : ∀ o, (w1.alloc o).cell? ⟨w.heap.size, 4, none⟩ = some (.int .i64 0) := fun o => (blk_cell (blk_alloc HZ1.out o) 4).trans rfl; have HW1 := Aside0.mk (blk_lt HZ1.out); have hne1 : w.heap.size ≠ w1.heap.size := Nat.ne_of_lt HW1.out; have hne2 : w1.heap.size ≠ w.heap.size := Nat.ne_of_gt HW1.out)
    try simp only [Exit.inBlock, Exit.then]
    refine bodyPost_ret (res_rread _ _ w.heap.size 0 0 0 0 0 false rfl rfl (blk_put (blk_put (blk_put (blk_put (blk_put (blk_alloc HZ1.out _) 0 _ rfl) 1 _ rfl) 2 _ rfl) 3 _ rfl) 4 _ rfl)) rfl ⟨?_, ?_⟩
    · first | (rw [HF.out]; rfl) | rfl
    · exact (((((HB1.out.alloc HB1.out.size _).setCell (Nat.le_refl _) _).setCell (Nat.le_refl _) _).setCell (Nat.le_refl _) _).setCell (Nat.le_refl _) _).setCell (Nat.le_refl _) _
end Go.Proofs.YtfhfldpdkmankaaDoor.Six
