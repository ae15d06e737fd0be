/- The contract of the reference's Find. -/
import Derived.Test.YtfhfldpdkmankaaDoorSixFind
namespace Go.Proofs.YtfhfldpdkmankaaDoor.Six
open Go Go.RowKit Go.Proofs.YtfhfldpdkmankaaDoorW.PrintWords Go.Proofs.YtfhfldpdkmankaaDoorW.PrintLast Go.Proofs.YtfhfldpdkmankaaDoorW.PrintMore Go.Proofs.YtfhfldpdkmankaaDoor.Dig Go.Proofs.YtfhfldpdkmankaaDoor.Quad Go.Proofs.YtfhfldpdkmankaaDoor.SixP
set_option linter.unusedVariables false
set_option linter.unusedSimpArgs false

theorem res_rfind (tmps : Array Value) (W : World) (H : Nat) (a b c d p : Int) (t : Bool) (h2 : tmps.getD 2 undef = .pointer (some ⟨H, 0, none⟩)) (h3 : tmps.getD 3 undef = .bool t) (hh : W.heap[H]? = some (.cells #[.int .u8 a, .int .u8 b, .int .u8 c, .int .u8 d, .int .i64 p] 25 (0, 0))) :
   (results Tryd.f14 tmps).run Tryd.prog W = .ok (.tuple #[.agg #[.int .u8 a, .int .u8 b, .int .u8 c, .int .u8 d, .int .i64 p], .bool t]) W := by
  have c0 : W.cell? ⟨H, 0, none⟩ = some (.int .u8 a) := (blk_cell hh 0).trans rfl
  have c1 : W.cell? ⟨H, 1, none⟩ = some (.int .u8 b) := (blk_cell hh 1).trans rfl
  have c2 : W.cell? ⟨H, 2, none⟩ = some (.int .u8 c) := (blk_cell hh 2).trans rfl
  have c3 : W.cell? ⟨H, 3, none⟩ = some (.int .u8 d) := (blk_cell hh 3).trans rfl
  have c4 : W.cell? ⟨H, 4, none⟩ = some (.int .i64 p) := (blk_cell hh 4).trans rfl
  rw [Array.getD_eq_getD_getElem?] at h2 h3
  simp [results, show Tryd.f14.results = #[.cell 2 25, .tmp 3] from rfl, h2, h3, go_sem, c0, c1, c2, c3, c4]
/-- The next byte, in a text that has none so far. -/
theorem not_next {b : UInt8} {l : List UInt8} {f k : Nat} (h : b ∉ (l.take k).drop f) (hf : f ≤ k) (hk : k < l.length) (hb : l[k] ≠ b) : b ∉ (l.take (k + 1)).drop f := by
  rw [List.take_succ_eq_append_getElem hk, List.drop_append_of_le_length (by rw [List.length_take]; omega), List.mem_append, List.mem_singleton]
  exact fun e => e.elim h (fun e => hb e.symm)

set_option maxHeartbeats 2000000 in
set_option maxRecDepth 100000 in
theorem ref_find_calls (s : ByteArray) (hs : s.size ≤ 1000000) (w : World) :
    Calls Tryd.prog 14 #[.string s] w fun e w' => e = .returned (readR (find s.data.toList)) ∧ Below w.heap.size w w' := by
  have HS := Aside0.mk hs
  have HL := Aside0.mk (data_length s)
  clear hs
  go_enter Tryd.func14, Tryd.ntmps14
  go_wp2
  obtain ⟨W0, hW0⟩ : ∃ W0, W0 = w.alloc (.cells #[.int .u8 0, .int .u8 0, .int .u8 0, .int .u8 0, .int .i64 0] 25) := ⟨_, rfl⟩
  have HB := Aside0.mk (show Below w.heap.size w W0 from by rw [hW0]; exact (Below.refl _ _).alloc (Nat.le_refl _) _)
  have HZ := Aside0.mk (show W0.heap[w.heap.size]? = some (.cells #[.int .u8 0, .int .u8 0, .int .u8 0, .int .u8 0, .int .i64 0] 25 (0, 0)) from by rw [hW0]; exact blk_new _ _)
  rw [← hW0]
  clear hW0
  go_loop [4] (fun i_ => ∃ k : Nat, k ≤ s.size ∧ i_ = .int .i64 k ∧ Aside0 (40 ∉ (s.data.toList.take k).drop 0)) (fun i_ => s.size - (intOf i_).toNat)
  case atStart => exact ⟨0, Nat.zero_le _, rfl, ⟨by simp⟩⟩
  case round =>
    obtain ⟨k, hk, rfl, HA⟩ := hrel
    by_cases hlt : k < s.size
    · have hk6 : k < 1000000 := by have := HS.out; omega
      have hk' : k < s.data.toList.length := by rw [HL.out]; exact hlt
      obtain ⟨c, hc⟩ : ∃ c, c = s.data.toList[k] := ⟨_, rfl⟩
      obtain ⟨x, hx⟩ : ∃ x : Nat, x = c.toNat := ⟨_, rfl⟩
      have hckc : ∀ h : k < s.size, ((s[k]'h).toNat : Int) = (x : Int) := fun h => by rw [hx, hc, ← bt_byte s k hk']; exact bt_at s k h
      by_cases h40 : c = 40
      · have hcmp : ((x : Int) == 40) = true := by rw [hx, h40]; rfl
        have hsplit : s.data.toList = s.data.toList.take k ++ 40 :: s.data.toList.drop (k + 1) := by
          conv => lhs; rw [← List.take_append_drop k s.data.toList]
          rw [List.drop_eq_getElem_cons hk', ← hc, h40]
        have HC1 := Aside0.mk (show cut1 40 s.data.toList = some (s.data.toList.take k, s.data.toList.drop (k + 1)) from by
          conv => lhs; rw [hsplit]
          exact cut1_some _ (by have := HA.out; rwa [List.drop_zero] at this))
        clear hc hx h40 hk' hsplit
        go_wp2
        go_loop [5] (fun j_ => ∃ j : Nat, k + 1 ≤ j ∧ j ≤ s.size ∧ j_ = .int .i64 j ∧ Aside0 (41 ∉ (s.data.toList.take j).drop (k + 1))) (fun j_ => s.size - (intOf j_).toNat)
        case atStart => exact ⟨k + 1, Nat.le_refl _, by omega, by go_num, ⟨by simp⟩⟩
        case round =>
          obtain ⟨j, hkj, hj, rfl, HA2⟩ := hrel
          clear hcmp hckc
          by_cases hltj : j < s.size
          · have hj6 : j < 1000000 := by have := HS.out; omega
            have hj' : j < s.data.toList.length := by rw [HL.out]; exact hltj
            obtain ⟨c, hc⟩ : ∃ c, c = s.data.toList[j] := ⟨_, rfl⟩
            obtain ⟨x, hx⟩ : ∃ x : Nat, x = c.toNat := ⟨_, rfl⟩
            have hckc : ∀ h : j < s.size, ((s[j]'h).toNat : Int) = (x : Int) := fun h => by rw [hx, hc, ← bt_byte s j hj']; exact bt_at s j h
            by_cases h41 : c = 41
            · have hcmp : ((x : Int) == 41) = true := by rw [hx, h41]; rfl
              obtain ⟨m, hm⟩ : ∃ m, m = (s.data.toList.take j).drop (k + 1) := ⟨_, rfl⟩
              have hsplit : s.data.toList.drop (k + 1) = m ++ 41 :: s.data.toList.drop (j + 1) := by
                rw [take_split s.data.toList j (k + 1) hkj (by omega), ← hm, List.drop_eq_getElem_cons hj', ← hc, h41]
              have hc2 : cut1 41 (s.data.toList.drop (k + 1)) = some (m, s.data.toList.drop (j + 1)) := by
                rw [hsplit]; exact cut1_some _ (by rw [hm]; exact HA2.out)
              have hmr : readR (find s.data.toList) = readR (readSix m) := by
                rw [find, HC1.out]; show readR ((cut1 41 (s.data.toList.drop (k + 1))).bind fun y => readSix y.1) = _; rw [hc2]; rfl
              obtain ⟨M, hM⟩ : ∃ M : ByteArray, M = ⟨m.toArray⟩ := ⟨_, rfl⟩
              have hsl : ∀ W, (Instr.slice 9 (.string s) (some (.int .i64 ((k : Int) + 1))) (some (.int .i64 j)) none).run Tryd.prog W = .ok (.string M) W := fun W => by rw [hM, hm]; exact slice_fk s (k + 1) j hkj (by omega) W
              obtain ⟨a1, b1, c1, d1, p1, t1, hrv⟩ := readR_form (readSix m)
              have HRV := Aside0.mk (show readR (readSix M.data.toList) = .tuple #[.agg #[.int .u8 a1, .int .u8 b1, .int .u8 c1, .int .u8 d1, .int .i64 p1], .bool t1] from by rw [hM]; exact hrv)
              have HF := Aside0.mk (show readR (find s.data.toList) = .tuple #[.agg #[.int .u8 a1, .int .u8 b1, .int .u8 c1, .int .u8 d1, .int .i64 p1], .bool t1] from hmr.trans hrv)
              have HRS := Aside0.mk (show M.size ≤ 1000000 from by
                rw [← data_length, hM]; show m.length ≤ _
                rw [hm, List.length_drop, List.length_take]; omega)
              clear hc hx h41 hj' hsplit hc2 hmr hM hrv hm
              go_wp2_with (go_at_call 12; refine (ref_read_calls _ HRS.out _).mono ?_; rw [HRV.out]; rintro e w3 ⟨rfl, hb⟩; have HB3 := Aside0.mk (HB.out.trans (hb.mono HB.out.size)); have HZ3 := Aside0.mk (blk_below HZ.out hb); clear hb; have zf0 : ∀ o, (w3.alloc o).frozen? ⟨w.heap.size, 0, none⟩ = false := fun o => blk_frozen (blk_alloc HZ3.out o) 0; have zc0 : ∀ o, (w3.alloc o).cell? ⟨w.heap.size, 0, none⟩ = some (.int .u8 0) := fun o => (blk_cell (blk_alloc HZ3.out o) 0).trans rfl; have zf1 : ∀ o, (w3.alloc o).frozen? ⟨w.heap.size, 1, none⟩ = false := fun o => blk_frozen (blk_alloc HZ3.out o) 1; have zc1 : ∀ o, (w3.alloc o).cell? ⟨w.heap.size, 1, none⟩ = some (.int .u8 0) := fun o => (blk_cell (blk_alloc HZ3.out o) 1).trans rfl; have zf2 : ∀ o, (w3.alloc o).frozen? ⟨w.heap.size, 2, none⟩ = false := fun o => blk_frozen (blk_alloc HZ3.out o) 2; have zc2 : ∀ o, (w3.alloc o).cell? ⟨w.heap.size, 2, none⟩ = some (.int .u8 0) := fun o => (blk_cell (blk_alloc HZ3.out o) 2).trans rfl; have zf3 : ∀ o, (w3.alloc o).frozen? ⟨w.heap.size, 3, none⟩ = false := fun o => blk_frozen (blk_alloc HZ3.out o) 3; have zc3 : ∀ o, (w3.alloc o).cell? ⟨w.heap.size, 3, none⟩ = some (.int .u8 0) := fun o => (blk_cell (blk_alloc HZ3.out o) 3).trans rfl; have zf4 : ∀ o, (w3.alloc o).frozen? ⟨w.heap.size, 4, none⟩ = false := fun o => blk_frozen (blk_alloc HZ3.out o) 4; have zc4 : ∀ o, (w3.alloc o).cell? ⟨w.heap.size, 4, none⟩ = some (.int .i64 0) := fun o => (blk_cell (blk_alloc HZ3.out o) 4).trans rfl; have HW1 := Aside0.mk (blk_lt HZ3.out); have hne1 : w.heap.size ≠ w3.heap.size := Nat.ne_of_lt HW1.out; have hne2 : w3.heap.size ≠ w.heap.size := Nat.ne_of_gt HW1.out)
              try simp only [Exit.inBlock, Exit.then]
              refine bodyPost_ret (res_rfind _ _ w.heap.size a1 b1 c1 d1 p1 t1 rfl rfl (blk_put (blk_put (blk_put (blk_put (blk_put (blk_alloc HZ3.out _) 0 _ rfl) 1 _ rfl) 2 _ rfl) 3 _ rfl) 4 _ rfl)) rfl ⟨?_, ?_⟩
              · first | (rw [HF.out]; rfl) | (rw [HF.out]) | rfl
              · exact ((((((HB3.out.alloc HB3.out.size _).setCell (Nat.le_refl _) _).setCell (Nat.le_refl _) _).setCell (Nat.le_refl _) _).setCell (Nat.le_refl _) _).setCell (Nat.le_refl _) _)
            · have hcmp : ((x : Int) == 41) = false := by
                refine beq_eq_false_iff_ne.2 fun e => h41 (UInt8.toNat_inj.1 ?_)
                rw [← hx]; have e2 : (41 : UInt8).toNat = 41 := rfl
                omega
              have HA3 := Aside0.mk (not_next HA2.out hkj hj' (by rw [← hc]; exact h41))
              clear hc hx h41 hj'
              go_wp2
              go_round
              case rel => exact ⟨j + 1, by omega, by omega, by go_num, HA3⟩
              case measure => simp [intOf]; omega
          · obtain rfl : j = s.size := by omega
            have HF := Aside0.mk (show readR (find s.data.toList) = readR none from by
              rw [find, HC1.out]
              show readR ((cut1 41 (s.data.toList.drop (k + 1))).bind fun y => readSix y.1) = _
              have := HA2.out
              rw [List.take_of_length_le (by rw [HL.out]; exact Nat.le_refl _)] at this
              rw [cut1_none this]; rfl)
            have zf0 := blk_frozen HZ.out 0
            have zc0 : W0.cell? ⟨w.heap.size, 0, none⟩ = some (.int .u8 0) := (blk_cell HZ.out 0).trans rfl
            have zf1 := blk_frozen HZ.out 1
            have zc1 : W0.cell? ⟨w.heap.size, 1, none⟩ = some (.int .u8 0) := (blk_cell HZ.out 1).trans rfl
            have zf2 := blk_frozen HZ.out 2
            have zc2 : W0.cell? ⟨w.heap.size, 2, none⟩ = some (.int .u8 0) := (blk_cell HZ.out 2).trans rfl
            have zf3 := blk_frozen HZ.out 3
            have zc3 : W0.cell? ⟨w.heap.size, 3, none⟩ = some (.int .u8 0) := (blk_cell HZ.out 3).trans rfl
            have zf4 := blk_frozen HZ.out 4
            have zc4 : W0.cell? ⟨w.heap.size, 4, none⟩ = some (.int .i64 0) := (blk_cell HZ.out 4).trans rfl
            go_wp2
            try simp only [Exit.inBlock, Exit.then]
            refine bodyPost_ret (res_rfind _ _ w.heap.size 0 0 0 0 0 false rfl rfl (blk_put (blk_put (blk_put (blk_put (blk_put (HZ.out) 0 _ rfl) 1 _ rfl) 2 _ rfl) 3 _ rfl) 4 _ rfl)) rfl ⟨?_, ?_⟩
            · first | (rw [HF.out]; rfl) | (rw [HF.out]) | rfl
            · exact ((((((HB.out).setCell (Nat.le_refl _) _).setCell (Nat.le_refl _) _).setCell (Nat.le_refl _) _).setCell (Nat.le_refl _) _).setCell (Nat.le_refl _) _)
      · have hcmp : ((x : Int) == 40) = false := by
          refine beq_eq_false_iff_ne.2 fun e => h40 (UInt8.toNat_inj.1 ?_)
          rw [← hx]; have e2 : (40 : UInt8).toNat = 40 := rfl
          omega
        have HA3 := Aside0.mk (not_next HA.out (Nat.zero_le _) hk' (by rw [← hc]; exact h40))
        clear hc hx h40 hk'
        go_wp2
        go_round
        case rel => exact ⟨k + 1, by omega, by go_num, HA3⟩
        case measure => simp [intOf]; omega
    · obtain rfl : k = s.size := by omega
      have HF := Aside0.mk (show readR (find s.data.toList) = readR none from by
        have := HA.out
        rw [List.drop_zero, List.take_of_length_le (by rw [HL.out]; exact Nat.le_refl _)] at this
        rw [find, cut1_none this]; rfl)
      have zf0 := blk_frozen HZ.out 0
      have zc0 : W0.cell? ⟨w.heap.size, 0, none⟩ = some (.int .u8 0) := (blk_cell HZ.out 0).trans rfl
      have zf1 := blk_frozen HZ.out 1
      have zc1 : W0.cell? ⟨w.heap.size, 1, none⟩ = some (.int .u8 0) := (blk_cell HZ.out 1).trans rfl
      have zf2 := blk_frozen HZ.out 2
      have zc2 : W0.cell? ⟨w.heap.size, 2, none⟩ = some (.int .u8 0) := (blk_cell HZ.out 2).trans rfl
      have zf3 := blk_frozen HZ.out 3
      have zc3 : W0.cell? ⟨w.heap.size, 3, none⟩ = some (.int .u8 0) := (blk_cell HZ.out 3).trans rfl
      have zf4 := blk_frozen HZ.out 4
      have zc4 : W0.cell? ⟨w.heap.size, 4, none⟩ = some (.int .i64 0) := (blk_cell HZ.out 4).trans rfl
      go_wp2
      try simp only [Exit.inBlock, Exit.then]
      refine bodyPost_ret (res_rfind _ _ w.heap.size 0 0 0 0 0 false rfl rfl (blk_put (blk_put (blk_put (blk_put (blk_put (HZ.out) 0 _ rfl) 1 _ rfl) 2 _ rfl) 3 _ rfl) 4 _ rfl)) rfl ⟨?_, ?_⟩
      · first | (rw [HF.out]; rfl) | (rw [HF.out]) | rfl
      · exact ((((((HB.out).setCell (Nat.le_refl _) _).setCell (Nat.le_refl _) _).setCell (Nat.le_refl _) _).setCell (Nat.le_refl _) _).setCell (Nat.le_refl _) _)
end Go.Proofs.YtfhfldpdkmankaaDoor.Six
