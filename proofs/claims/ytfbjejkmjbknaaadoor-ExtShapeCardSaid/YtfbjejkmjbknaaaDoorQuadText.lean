/- The contract of quad.Text. -/
import Derived.Test.YtfbjejkmjbknaaaDoorHost
namespace Go.Proofs.YtfbjejkmjbknaaaDoor.Quad
open Go Go.RowKit Go.Proofs.YtfbjejkmjbknaaaDoorW.PrintWords Go.Proofs.YtfbjejkmjbknaaaDoorW.PrintLast Go.Proofs.YtfbjejkmjbknaaaDoorW.PrintMore Go.Proofs.YtfbjejkmjbknaaaDoor.Dig
set_option linter.unusedVariables false
set_option linter.unusedSimpArgs false

def host (a b c d : Nat) : Value := .agg #[.int .u8 a, .int .u8 b, .int .u8 c, .int .u8 d]
def parts (a b c d : Nat) : List ByteArray := [⟨(digU a).toArray⟩, ⟨(digU b).toArray⟩, ⟨(digU c).toArray⟩, ⟨(digU d).toArray⟩]

theorem join4 (q c : Nat) (l : List ByteArray) (out : List UInt8) (w : World) (h4 : l.length = 4) (hj : Lib.join (l.map (·.data.toList)) [46] = out) (ho : out.length ≤ 140737488355328) (hc : 4 ≤ c) (hq : q < w.heap.size) (hcell : ∀ (j : Nat) x, (l.map Value.string)[j]? = some x → w.cell? ⟨q, 0 + j, none⟩ = some x) :
    Calls Tryd.prog 18 #[.slice (some ⟨q, 0, none⟩) 4 c, .string ⟨#[46]⟩] w fun e w' => e = .returned (.string ⟨out.toArray⟩) ∧ Below w.heap.size w w' := by
  have h := Tryd.strings_Join q 0 c l ⟨#[46]⟩ w (fun j x hx => hcell j (.string x) (by rw [List.getElem?_map, hx]; rfl)) hq (by rw [h4]; decide) (by rw [h4]; exact hc) (by rw [show (ByteArray.mk #[46]).data.toList = [46] from rfl, hj]; exact ho)
  rwa [show (ByteArray.mk #[46]).data.toList = [46] from rfl, hj, h4] at h

set_option maxHeartbeats 1000000 in
set_option maxRecDepth 100000 in
theorem text_calls (a b c d : Nat) (ha : a < 256) (hb : b < 256) (hc : c < 256) (hd : d < 256) (w : World) :
    Calls Tryd.prog 19 #[.agg #[.int .u8 a, .int .u8 b, .int .u8 c, .int .u8 d]] w fun e w' => e = .returned (.string ⟨(hostU a b c d).toArray⟩) ∧ Below w.heap.size w w' := by
  obtain ⟨i0, hi, hz0, hz1, hz2⟩ := info_parts info9
  have HI := Aside0.mk (And.intro hi (And.intro hz0 (And.intro hz1 hz2)))
  clear hi hz0 hz1 hz2
  go_enter Tryd.func19, Tryd.ntmps19
  go_wp2
  go_loopw [3, 7] (fun v i wr => ∃ k : Nat, k ≤ 4 ∧ i = .int .i64 k ∧ Aside0 (wr.ownsRow w.heap.size 9 1 v k (((parts a b c d).take k).map Value.string)) ∧ Aside0 (Below w.heap.size w wr)) (fun _ i _ => 4 - (intOf i).toNat)
  case atStart => exact ⟨0, Nat.zero_le _, rfl, ⟨own_nil _ _ _ _⟩, ⟨(Below.refl _ _).alloc (Nat.le_refl _) _⟩⟩
  case round =>
    obtain ⟨k, hk, rfl, HO, HB⟩ := hrel
    have HS := Aside0.mk HB.out.size
    obtain rfl | rfl | rfl | rfl | rfl : k = 0 ∨ k = 1 ∨ k = 2 ∨ k = 3 ∨ k = 4 := by omega
    · have hx : ∀ W, (Instr.index 23 (.agg #[.int .u8 a, .int .u8 b, .int .u8 c, .int .u8 d]) (.int .i64 0)).run Tryd.prog W = .ok (.int .u8 a) W := fun W => rfl
      have hcv : IntKind.i64.wrap (a : Int) = (a : Int) := by simp [IntKind.wrap, IntKind.bits, IntKind.signed]; omega
      have HV := Aside0.mk ha
      clear ha hb hc hd
      go_wp2_with (first
        | (go_at_call 20; refine (num_calls' a HV.out _).mono ?_; rintro e w1 ⟨rfl, hb1⟩; have HB1 := Aside0.mk (HB.out.trans (hb1.mono HS.out)); have HO1 := Aside0.mk (own_move HO.out (fun j hj => hb1.block j (own_lt HO.out j hj))); clear hb1)
        | ((with_reducible refine Laws.gate 15 rfl ?_); refine Laws.append_any rfl (.tmp 10) (.tmp 14) 45 rfl w.heap.size 9 i0 (.string ⟨#[]⟩) 1 16 Tryd.underlying45 HI.out.1 HI.out.2.1 HI.out.2.2.1 HI.out.2.2.2 rfl (by decide) _ _ _ rfl (HO1.out.alloc _) (some ⟨w1.heap.size, 0, none⟩) 1 1 [.string ⟨(digU a).toArray⟩] rfl rfl (fun _ => ⟨_, rfl, Laws.new_cells w1 _ _ _ rfl⟩) (fun u hu => by simp at hu; subst hu; rfl) (by decide) (by decide) (Nat.le_trans HB1.out.size (by simp)) ?_; intro v6 w6 ho6 hg6 hn6 hl6; have HO6 := Aside0.mk (show w6.ownsRow w.heap.size 9 1 v6 (0 + 1) (((parts a b c d).take (0 + 1)).map Value.string) from ho6); have HB6 := Aside0.mk (show Below w.heap.size w w6 from ((HB1.out.alloc HB1.out.size _).grown hg6 (Nat.le_trans HB1.out.size (by simp)) (fun k h => Laws.own_ge HO1.out k h))); clear ho6 hg6 hn6 hl6))
      go_roundw
      case rel => exact ⟨0 + 1, by omega, by first | rfl | go_num, HO6, HB6⟩
      case measure => simp [intOf]
    · have hx : ∀ W, (Instr.index 23 (.agg #[.int .u8 a, .int .u8 b, .int .u8 c, .int .u8 d]) (.int .i64 1)).run Tryd.prog W = .ok (.int .u8 b) W := fun W => rfl
      have hcv : IntKind.i64.wrap (b : Int) = (b : Int) := by simp [IntKind.wrap, IntKind.bits, IntKind.signed]; omega
      have HV := Aside0.mk hb
      clear ha hb hc hd
      go_wp2_with (first
        | (go_at_call 20; refine (num_calls' b HV.out _).mono ?_; rintro e w1 ⟨rfl, hb1⟩; have HB1 := Aside0.mk (HB.out.trans (hb1.mono HS.out)); have HO1 := Aside0.mk (own_move HO.out (fun j hj => hb1.block j (own_lt HO.out j hj))); clear hb1)
        | ((with_reducible refine Laws.gate 15 rfl ?_); refine Laws.append_any rfl (.tmp 10) (.tmp 14) 45 rfl w.heap.size 9 i0 (.string ⟨#[]⟩) 1 16 Tryd.underlying45 HI.out.1 HI.out.2.1 HI.out.2.2.1 HI.out.2.2.2 rfl (by decide) _ _ _ rfl (HO1.out.alloc _) (some ⟨w1.heap.size, 0, none⟩) 1 1 [.string ⟨(digU b).toArray⟩] rfl rfl (fun _ => ⟨_, rfl, Laws.new_cells w1 _ _ _ rfl⟩) (fun u hu => by simp at hu; subst hu; rfl) (by decide) (by decide) (Nat.le_trans HB1.out.size (by simp)) ?_; intro v6 w6 ho6 hg6 hn6 hl6; have HO6 := Aside0.mk (show w6.ownsRow w.heap.size 9 1 v6 (1 + 1) (((parts a b c d).take (1 + 1)).map Value.string) from ho6); have HB6 := Aside0.mk (show Below w.heap.size w w6 from ((HB1.out.alloc HB1.out.size _).grown hg6 (Nat.le_trans HB1.out.size (by simp)) (fun k h => Laws.own_ge HO1.out k h))); clear ho6 hg6 hn6 hl6))
      go_roundw
      case rel => exact ⟨1 + 1, by omega, by first | rfl | go_num, HO6, HB6⟩
      case measure => simp [intOf]
    · have hx : ∀ W, (Instr.index 23 (.agg #[.int .u8 a, .int .u8 b, .int .u8 c, .int .u8 d]) (.int .i64 2)).run Tryd.prog W = .ok (.int .u8 c) W := fun W => rfl
      have hcv : IntKind.i64.wrap (c : Int) = (c : Int) := by simp [IntKind.wrap, IntKind.bits, IntKind.signed]; omega
      have HV := Aside0.mk hc
      clear ha hb hc hd
      go_wp2_with (first
        | (go_at_call 20; refine (num_calls' c HV.out _).mono ?_; rintro e w1 ⟨rfl, hb1⟩; have HB1 := Aside0.mk (HB.out.trans (hb1.mono HS.out)); have HO1 := Aside0.mk (own_move HO.out (fun j hj => hb1.block j (own_lt HO.out j hj))); clear hb1)
        | ((with_reducible refine Laws.gate 15 rfl ?_); refine Laws.append_any rfl (.tmp 10) (.tmp 14) 45 rfl w.heap.size 9 i0 (.string ⟨#[]⟩) 1 16 Tryd.underlying45 HI.out.1 HI.out.2.1 HI.out.2.2.1 HI.out.2.2.2 rfl (by decide) _ _ _ rfl (HO1.out.alloc _) (some ⟨w1.heap.size, 0, none⟩) 1 1 [.string ⟨(digU c).toArray⟩] rfl rfl (fun _ => ⟨_, rfl, Laws.new_cells w1 _ _ _ rfl⟩) (fun u hu => by simp at hu; subst hu; rfl) (by decide) (by decide) (Nat.le_trans HB1.out.size (by simp)) ?_; intro v6 w6 ho6 hg6 hn6 hl6; have HO6 := Aside0.mk (show w6.ownsRow w.heap.size 9 1 v6 (2 + 1) (((parts a b c d).take (2 + 1)).map Value.string) from ho6); have HB6 := Aside0.mk (show Below w.heap.size w w6 from ((HB1.out.alloc HB1.out.size _).grown hg6 (Nat.le_trans HB1.out.size (by simp)) (fun k h => Laws.own_ge HO1.out k h))); clear ho6 hg6 hn6 hl6))
      go_roundw
      case rel => exact ⟨2 + 1, by omega, by first | rfl | go_num, HO6, HB6⟩
      case measure => simp [intOf]
    · have hx : ∀ W, (Instr.index 23 (.agg #[.int .u8 a, .int .u8 b, .int .u8 c, .int .u8 d]) (.int .i64 3)).run Tryd.prog W = .ok (.int .u8 d) W := fun W => rfl
      have hcv : IntKind.i64.wrap (d : Int) = (d : Int) := by simp [IntKind.wrap, IntKind.bits, IntKind.signed]; omega
      have HV := Aside0.mk hd
      clear ha hb hc hd
      go_wp2_with (first
        | (go_at_call 20; refine (num_calls' d HV.out _).mono ?_; rintro e w1 ⟨rfl, hb1⟩; have HB1 := Aside0.mk (HB.out.trans (hb1.mono HS.out)); have HO1 := Aside0.mk (own_move HO.out (fun j hj => hb1.block j (own_lt HO.out j hj))); clear hb1)
        | ((with_reducible refine Laws.gate 15 rfl ?_); refine Laws.append_any rfl (.tmp 10) (.tmp 14) 45 rfl w.heap.size 9 i0 (.string ⟨#[]⟩) 1 16 Tryd.underlying45 HI.out.1 HI.out.2.1 HI.out.2.2.1 HI.out.2.2.2 rfl (by decide) _ _ _ rfl (HO1.out.alloc _) (some ⟨w1.heap.size, 0, none⟩) 1 1 [.string ⟨(digU d).toArray⟩] rfl rfl (fun _ => ⟨_, rfl, Laws.new_cells w1 _ _ _ rfl⟩) (fun u hu => by simp at hu; subst hu; rfl) (by decide) (by decide) (Nat.le_trans HB1.out.size (by simp)) ?_; intro v6 w6 ho6 hg6 hn6 hl6; have HO6 := Aside0.mk (show w6.ownsRow w.heap.size 9 1 v6 (3 + 1) (((parts a b c d).take (3 + 1)).map Value.string) from ho6); have HB6 := Aside0.mk (show Below w.heap.size w w6 from ((HB1.out.alloc HB1.out.size _).grown hg6 (Nat.le_trans HB1.out.size (by simp)) (fun k h => Laws.own_ge HO1.out k h))); clear ho6 hg6 hn6 hl6))
      go_roundw
      case rel => exact ⟨3 + 1, by omega, by first | rfl | go_num, HO6, HB6⟩
      case measure => simp [intOf]
    · have ho := HO.out
      rw [show (parts a b c d).take 4 = parts a b c d from rfl] at ho
      have hll : ∀ n : Nat, n < 256 → (digU n).length ≤ 3 := fun n hn => by rw [digU_len]; exact dig_len 2 n (by omega)
      have HJ := Aside0.mk (show (Lib.join ((parts a b c d).map (·.data.toList)) [46]) = hostU a b c d ∧ (hostU a b c d).length ≤ 140737488355328 from ⟨by simp [parts, Lib.join, List.intercalate, hostU], by
        have := hll a ha; have := hll b hb; have := hll c hc; have := hll d hd
        simp [hostU]; omega⟩)
      obtain ⟨q, cp, rfl, hcp, hq, hql, hcell⟩ := Laws.own_cells ho (by decide)
      have HC := Aside0.mk (And.intro hcp (And.intro hql (And.intro hcell hq)))
      clear hcp hq hql hcell ho ha hb hc hd hll HO
      go_wp2_with (go_at_call 18; refine (join4 q cp (parts a b c d) (hostU a b c d) _ rfl HJ.out.1 HJ.out.2 HC.out.1 HC.out.2.1 HC.out.2.2.1).mono ?_; rintro e w1 ⟨rfl, hb1⟩; have HB1 := Aside0.mk (HB.out.trans (hb1.mono HS.out)); clear hb1)
      go_ret
      exact ⟨rfl, HB1.out⟩
end Go.Proofs.YtfbjejkmjbknaaaDoor.Quad
