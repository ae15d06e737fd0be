/- The contract of six.Text. -/
import Derived.Test.YtfhfldpdkmankaaDoorHost
import Derived.Test.YtfhfldpdkmankaaDoorSixP
import Derived.Test.YtfhfldpdkmankaaDoorRow
import Derived.Test.YtfhfldpdkmankaaDoorRefCut
import Derived.Test.YtfhfldpdkmankaaDoorJoin
import Derived.Deep.RegionLawGrows
namespace Go.Proofs.YtfhfldpdkmankaaDoor.Six
open Go Go.RowKit Go.Proofs.YtfhfldpdkmankaaDoorW.PrintWords Go.Proofs.YtfhfldpdkmankaaDoorW.PrintLast Go.Proofs.YtfhfldpdkmankaaDoorW.PrintMore Go.Proofs.YtfhfldpdkmankaaDoor.Dig Go.Proofs.YtfhfldpdkmankaaDoor.Quad Go.Proofs.YtfhfldpdkmankaaDoor.SixP
set_option linter.unusedVariables false
set_option linter.unusedSimpArgs false

theorem info5 : (Tryd.prog.info? 5).map (fun i => (i.zero, i.size, i.bytes)) = some (some (.int .u8 0), 1, 1) := by kernel_rfl
/-- What Text hands back. -/
def textR (a b c d : Nat) (p : Int) : Value := if p < 0 ∨ 65535 < p then .tuple #[str [], .bool false] else .tuple #[str (sixU a b c d p.toNat), .bool true]
def endV (a b c d : Nat) (p : Int) : Value := .agg #[.int .u8 a, .int .u8 b, .int .u8 c, .int .u8 d, .int .i64 p]
def endCells (a b c d : Nat) (p : Int) : Obj := .cells #[.int .u8 a, .int .u8 b, .int .u8 c, .int .u8 d, .int .i64 p] 25

set_option maxHeartbeats 2000000 in
set_option maxRecDepth 100000 in
theorem text_calls (a b c d : Nat) (p : Int) (ha : a < 256) (hb : b < 256) (hc : c < 256) (hd : d < 256) (w : World) :
    Calls Tryd.prog 9 #[endV a b c d p] w fun e w' => e = .returned (textR a b c d p) ∧ Below w.heap.size w w' := by
  unfold endV
  by_cases h0 : p < 0
  · have h0' := decide_eq_true h0
    have HF := Aside0.mk (show textR a b c d p = .tuple #[str [], .bool false] from if_pos (.inl h0))
    clear h0
    go_enter Tryd.func9, Tryd.ntmps9
    go_wp2
    go_ret2
    exact ⟨by rw [HF.out]; rfl, (Below.refl _ _).alloc (Nat.le_refl _) _⟩
  · have h0' := decide_eq_false h0
    by_cases h1 : 65535 < p
    · have h1' := decide_eq_true h1
      have HF := Aside0.mk (show textR a b c d p = .tuple #[str [], .bool false] from if_pos (.inr h1))
      clear h0 h1
      go_enter Tryd.func9, Tryd.ntmps9
      go_wp2
      go_ret2
      exact ⟨by rw [HF.out]; rfl, (Below.refl _ _).alloc (Nat.le_refl _) _⟩
    · obtain ⟨n, rfl⟩ : ∃ n : Nat, p = n := ⟨p.toNat, by omega⟩
      have h1' := decide_eq_false h1
      have HF := Aside0.mk (show textR a b c d n = .tuple #[str (sixU a b c d n), .bool true] from by rw [textR, if_neg (by omega)]; rfl)
      obtain ⟨hi, hhi⟩ : ∃ hi : Nat, hi = n / 256 := ⟨_, rfl⟩
      obtain ⟨lo, hlo⟩ : ∃ lo : Nat, lo = n % 256 := ⟨_, rfl⟩
      have HN := Aside0.mk (show hi = n / 256 ∧ lo = n % 256 ∧ hi < 256 ∧ lo < 256 from by omega)
      obtain ⟨i0, hi0, hz0, hz1, hz2⟩ := info_parts info9
      have HI := Aside0.mk (And.intro hi0 (And.intro hz0 (And.intro hz1 hz2)))
      obtain ⟨i5, hi5, hy0, hy1, hy2⟩ := info_parts info5
      have HI5 := Aside0.mk (And.intro hi5 (And.intro hy0 (And.intro hy1 hy2)))
      have HABCD := Aside0.mk (And.intro ha (And.intro hb (And.intro hc hd)))
      clear h0 h1 hi0 hz0 hz1 hz2 hi5 hy0 hy1 hy2 ha hb hc hd hhi hlo
      go_enter Tryd.func9, Tryd.ntmps9
      go_wp2
      obtain ⟨W0, hW0⟩ : ∃ W0, W0 = w.alloc (.cells #[.int .u8 a, .int .u8 b, .int .u8 c, .int .u8 d, .int .i64 n] 25) := ⟨_, rfl⟩
      have HW := Aside0.mk (show Below w.heap.size w W0 ∧ W0.heap[w.heap.size]? = some (.cells #[.int .u8 a, .int .u8 b, .int .u8 c, .int .u8 d, .int .i64 n] 25 (0, 0)) from by
        rw [hW0]; exact ⟨(Below.refl _ _).alloc (Nat.le_refl _) _, blk_new _ _⟩)
      rw [← hW0]
      clear hW0
      have c4 : W0.cell? ⟨w.heap.size, 4, none⟩ = some (.int .i64 n) := (blk_cell HW.out.2 4).trans rfl
      have hw1 : IntKind.u8.wrap ((n : Int) / 256) = (hi : Int) := by have := HN.out; simp [IntKind.wrap, IntKind.bits, IntKind.signed]; omega
      have hw2 : IntKind.u8.wrap (n : Int) = (lo : Int) := by have := HN.out; simp [IntKind.wrap, IntKind.bits, IntKind.signed]; omega
      obtain ⟨ds, hds⟩ : ∃ ds : List Nat, ds = [a, b, c, d, hi, lo] := ⟨_, rfl⟩
      have HDS := Aside0.mk hds
      clear hds
      have HC0 := Aside0.mk (show ∀ W : World, Below (w.heap.size + 1) W0 W → ∀ (j : Nat) (u : Value), [Value.int .u8 a, .int .u8 b, .int .u8 c, .int .u8 d][j]? = some u → W.cell? ((⟨w.heap.size, 0, none⟩ : Addr).add j) = some u from fun W hW j u hj => by
        rw [add_plain, hW.cell (show w.heap.size < w.heap.size + 1 from Nat.lt_succ_self _), blk_cell HW.out.2]
        have hj4 := (List.getElem?_eq_some_iff.1 hj).1
        simp only [List.length_cons, List.length_nil] at hj4
        obtain rfl | rfl | rfl | rfl : j = 0 ∨ j = 1 ∨ j = 2 ∨ j = 3 := by omega
        all_goals exact hj)
      have HS0 := Aside0.mk (show w.heap.size + 1 ≤ W0.heap.size from by have := blk_lt HW.out.2; omega)
      go_region_law (refine step_append_grows rfl (.tmp 16) (.tmp 24) 37 rfl 5 i5 (.int .u8 0) 1 1 Tryd.underlying37 HI5.out.1 HI5.out.2.1 HI5.out.2.2.1 HI5.out.2.2.2 rfl (by decide) (some ⟨w.heap.size, 0, none⟩) 4 4 [.int .u8 a, .int .u8 b, .int .u8 c, .int .u8 d] (by simp [Act.eval, Act.put]) (fun h => by cases h) rfl (fun b' hb' j u hj => by cases hb'; first | exact HC0.out _ (((Below.refl _ _).alloc HS0.out _).drew) j u hj | exact HC0.out _ (((Below.refl _ _).drew).alloc HS0.out _) j u hj) ⟨W0.heap.size, 0, none⟩ 2 2 [.int .u8 hi, .int .u8 lo] (by simp [Act.eval, Act.put]) rfl (fun j u hj => Laws.new_cells W0 [.int .u8 hi, .int .u8 lo] _ _ rfl j u hj) (fun u hu => by simp at hu; rcases hu with rfl | rfl <;> rfl) (by decide) (by decide) (by decide) ?_; intro v6 w6 ho6 hg6; obtain ⟨q6, c6, e6, hc6, hb6, hl6, hx6⟩ := Laws.own_cells ho6 (by decide); subst e6; have HB6 := Aside0.mk (show Below w.heap.size w w6 from HW.out.1.trans ((((Below.refl w.heap.size W0).alloc HW.out.1.size _).drew).grown hg6 (Nat.le_trans HW.out.1.size (by simp)) (fun k h => by cases h))); have HX6 := Aside0.mk (And.intro hl6 hx6); clear ho6 hg6 hc6 hb6 hl6 hx6)
      all_goals
        simp only [List.getElem_toArray, List.getElem_cons_succ, List.getElem_cons_zero, Act.put, Array.set!, List.setIfInBounds_toArray, List.set_cons_succ, List.set_cons_zero]
        go_wp2
        go_loopw [4, 27] (fun v i wr => ∃ k : Nat, k ≤ 6 ∧ i = .int .i64 k ∧ Aside0 (wr.ownsRow w6.heap.size 9 1 v k ((ds.take k).map fun x => str (digU x))) ∧ Aside0 (Below w6.heap.size w6 wr)) (fun _ i _ => 6 - (intOf i).toNat)
        case atStart => exact ⟨0, Nat.zero_le _, rfl, ⟨own_nil _ _ _ _⟩, ⟨Below.refl _ _⟩⟩
        case round =>
          obtain ⟨k, hk, rfl, HO, HB⟩ := hrel
          by_cases hlt : k < 6
          · have hkd : k < ds.length := by rw [HDS.out]; exact hlt
            obtain ⟨x, hx⟩ : ∃ x, x = ds[k] := ⟨_, rfl⟩
            have hx256 : x < 256 := by
              have hm : x ∈ ds := by rw [hx]; exact List.getElem_mem _
              rw [HDS.out] at hm
              have h1 := HABCD.out; have h2 := HN.out
              simp only [List.mem_cons, List.not_mem_nil, or_false] at hm
              rcases hm with rfl | rfl | rfl | rfl | rfl | rfl <;> omega
            have hcell : wr.cell? ⟨q6, k, none⟩ = some (.int .u8 x) := by
              rw [HB.out.cell HX6.out.1]
              have := HX6.out.2 k (.int .u8 x) (by
                have h3 : (ds.map fun n : Nat => Value.int .u8 (n : Int))[k]? = some (.int .u8 x) := by rw [List.getElem?_map, List.getElem?_eq_getElem hkd, ← hx]; rfl
                rw [HDS.out] at h3; exact h3)
              rwa [Nat.zero_add] at this
            have hcv : IntKind.i64.wrap (x : Int) = (x : Int) := by simp [IntKind.wrap, IntKind.bits, IntKind.signed]; omega
            have HV := Aside0.mk hx256
            have HNX := Aside0.mk (show (ds.take (k + 1)).map (fun x => str (digU x)) = (ds.take k).map (fun x => str (digU x)) ++ [str (digU x)] from by
              rw [List.take_succ_eq_append_getElem hkd, List.map_append, ← hx]; rfl)
            have HS := Aside0.mk HB.out.size
            clear hx hx256 hkd
            go_wp2_with (first
              | (go_at_call 15; refine (num_calls' x HV.out _).mono ?_; rintro e w1 ⟨rfl, hb1⟩; have HB1 := Aside0.mk (HB.out.trans (hb1.mono HS.out)); have HO1 := Aside0.mk (own_move HO.out (fun j hj => hb1.block j (own_lt HO.out j hj))); clear hb1)
              | ((with_reducible refine Laws.gate 36 rfl ?_); refine Laws.append_any rfl (.tmp 31) (.tmp 35) 36 rfl w6.heap.size 9 i0 (.string ⟨#[]⟩) 1 16 Tryd.underlying36 HI.out.1 HI.out.2.1 HI.out.2.2.1 HI.out.2.2.2 rfl (by decide) _ _ _ rfl (HO1.out.alloc _) (some ⟨w1.heap.size, 0, none⟩) 1 1 [str (digU x)] rfl rfl (fun _ => ⟨_, rfl, Laws.new_cells w1 _ _ _ rfl⟩) (fun u hu => by simp at hu; subst hu; rfl) (by simp only [maxLen]; omega) (by omega) (Nat.le_trans HB1.out.size (by simp)) ?_; intro v7 w7 ho7 hg7 _ _; have HO7 := Aside0.mk (show w7.ownsRow w6.heap.size 9 1 v7 (k + 1) ((ds.take (k + 1)).map fun x => str (digU x)) from by rw [HNX.out]; exact ho7); have HB7 := Aside0.mk (show Below w6.heap.size w6 w7 from ((HB1.out.alloc HB1.out.size _).grown hg7 (Nat.le_trans HB1.out.size (by simp)) (fun k h => Laws.own_ge HO1.out k h))); clear ho7 hg7))
            go_roundw
            case rel => exact ⟨k + 1, by omega, by go_num, HO7, HB7⟩
            case measure => simp [intOf]; omega
          · obtain rfl : k = 6 := by omega
            have hlast : (ds.take 6).map (fun x => str (digU x)) = ([digU a, digU b, digU c, digU d, digU hi, digU lo] : List (List UInt8)).map str := by rw [HDS.out]; rfl
            have hlies : Row.Lies wr w6.heap.size 9 u4 (([digU a, digU b, digU c, digU d, digU hi, digU lo] : List (List UInt8)).map str) := by
              have := HO.out; rw [hlast] at this; exact .inl this
            have htot : tot ([digU a, digU b, digU c, digU d, digU hi, digU lo] : List (List UInt8)) ≤ 100000000 := by
              have hll : ∀ n : Nat, n < 256 → (digU n).length ≤ 3 := fun n hn => by rw [digU_len]; exact dig_len 2 n (by omega)
              have h1 := HABCD.out; have h2 := HN.out
              have := hll a (by omega); have := hll b (by omega); have := hll c (by omega); have := hll d (by omega); have := hll hi (by omega); have := hll lo (by omega)
              simp only [tot]; omega
            have HJ := Aside0.mk (And.intro hlies htot)
            have HE := Aside0.mk (show Cut.jn 44 [digU a, digU b, digU c, digU d, digU hi, digU lo] = sixU a b c d n from by rw [sixU, ← HN.out.1, ← HN.out.2.1])
            clear hlies htot hlast
            go_wp2_with (go_at_call 16; refine (join_lies 44 _ _ _ _ HJ.out.1 HJ.out.2).mono ?_; rw [HE.out]; rintro e w8 ⟨rfl, hb8⟩; have HB8 := Aside0.mk ((HB6.out.trans (HB.out.mono HB6.out.size)).trans (hb8.mono (HB6.out.trans (HB.out.mono HB6.out.size)).size)); clear hb8)
            go_ret2
            exact ⟨by rw [HF.out]; rfl, HB8.out⟩
end Go.Proofs.YtfhfldpdkmankaaDoor.Six
