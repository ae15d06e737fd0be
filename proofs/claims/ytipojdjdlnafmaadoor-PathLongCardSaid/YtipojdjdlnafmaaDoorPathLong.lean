/- The walk of PathLong. -/
import Derived.Test.YtipojdjdlnafmaaDoorPathLaws
namespace Go.Proofs.YtipojdjdlnafmaaDoor.Path
open Go Go.RowKit Go.Proofs.YtipojdjdlnafmaaDoorW.PrintWords Go.Proofs.YtipojdjdlnafmaaDoorW.PrintLast Go.Proofs.YtipojdjdlnafmaaDoorW.PrintMore Go.Proofs.YtipojdjdlnafmaaDoor.Quad
set_option linter.unusedVariables false
set_option linter.unusedSimpArgs false

theorem info5 : (Tryd.prog.info? 5).map (fun i => (i.zero, i.size, i.bytes)) = some (some (.int .u8 0), 1, 1) := by kernel_rfl
def lenN : Value → Nat
  | .slice _ n _ => n
  | _ => 0
def ints (l : List UInt8) : List Int := l.map fun c => (c.toNat : Int)
theorem str_ints (l : List UInt8) : strOfNums (ints l) = ⟨l.toArray⟩ := by
  unfold strOfNums ints
  rw [List.map_map]
  congr 2
  conv => rhs; rw [← List.map_id l]
  apply List.map_congr_left
  intro c _
  apply UInt8.toNat_inj.1
  simp
theorem xs_succ (k : Nat) : PathP.xs (k + 1) = PathP.xs k ++ [120] := by
  rw [PathP.xs, PathP.xs, List.replicate_succ', List.cons_append]
theorem xs_len (k : Nat) : (PathP.xs k).length = k + 1 := by simp [PathP.xs]

set_option maxHeartbeats 2000000 in
set_option maxRecDepth 100000 in
theorem long_walk (n : Int) (hn : -9223372036854775808 ≤ n ∧ n ≤ 9223372036854775807) (w : World) (hm : Mx w) :
    Calls Tryd.prog 8 #[.int .i64 n] w fun e w' => e = .returned (.bool true) ∧ Below w.heap.size w w' := by
  have HM := Aside0.mk hm
  have HB := Aside0.mk (Below.refl w.heap.size w)
  clear hm
  by_cases h1 : n < 1
  · have h1' := decide_eq_true h1
    clear h1 hn
    go_enter Tryd.func8, Tryd.ntmps8
    go_wp2_with (go_at_call 10; with_reducible refine (awake' HM.out HB.out).mono ?_; rintro e w9 ⟨rfl, hb⟩; replace HB := Aside0.mk hb; clear hb)
    go_ret
    exact ⟨rfl, HB.out⟩
  · have h1' := decide_eq_false h1
    by_cases h2 : 250 < n
    · have h2' := decide_eq_true h2
      clear h1 h2 hn
      go_enter Tryd.func8, Tryd.ntmps8
      go_wp2_with (go_at_call 10; with_reducible refine (awake' HM.out HB.out).mono ?_; rintro e w9 ⟨rfl, hb⟩; replace HB := Aside0.mk hb; clear hb)
      go_ret
      exact ⟨rfl, HB.out⟩
    · obtain ⟨m, rfl⟩ : ∃ m : Nat, n = (m : Int) + 1 := ⟨(n - 1).toNat, by omega⟩
      have hm : m ≤ 249 := by omega
      have h1' : decide ((m : Int) + 1 < 1) = false := decide_eq_false (by omega)
      have h2' : decide (250 < (m : Int) + 1) = false := decide_eq_false (by omega)
      obtain ⟨i0, hi, hz0, hz1, hz2⟩ := info_parts info5
      have HI := Aside0.mk (And.intro hi (And.intro hz0 (And.intro hz1 hz2)))
      clear h1 h2 hn hi hz0 hz1 hz2
      go_enter Tryd.func8, Tryd.ntmps8
      go_wp2_with (go_at_call 10; with_reducible refine (awake' HM.out HB.out).mono ?_; rintro e w9 ⟨rfl, hb⟩; replace HB := Aside0.mk hb; clear hb)
      go_loopw [4] (fun v wr => ∃ (k N : Nat) (A : Option Addr) (c : Nat), k ≤ m ∧ v = .slice A N c ∧ Aside0 (N = k + 1) ∧ Aside0 (wr.ownsRow w.heap.size 5 1 v N (nums .u8 (ints (PathP.xs k)))) ∧ Aside0 (Below w.heap.size w wr)) (fun v _ => (m + 1) - lenN v)
      case atStart => exact ⟨0, 1, _, 1, Nat.zero_le _, rfl, ⟨rfl⟩, ⟨rfl, .inr ⟨_, 1, _, rfl, HB.out.size, blk_new _ _, Nat.le_refl _, by decide, rfl, rfl⟩⟩, ⟨HB.out.alloc HB.out.size _⟩⟩
      case round =>
        obtain ⟨k, N, A, c, hk, rfl, HN, HO, HB2⟩ := hrel
        by_cases hlt : k < m
        · have hlt' : decide ((N : Int) < (m : Int) + 1) = true := decide_eq_true (by have := HN.out; omega)
          have hN6 : N ≤ 300 := by have := HN.out; omega
          go_wp2_with ((with_reducible refine Laws.gate 27 rfl ?_); refine Laws.append_any rfl (.tmp 25) (.tmp 26) 29 rfl w.heap.size 5 i0 (.int .u8 0) 1 1 Tryd.underlying29 HI.out.1 HI.out.2.1 HI.out.2.2.1 HI.out.2.2.2 rfl (by decide) (.slice A N c) N _ rfl (own_move HO.out (fun j hj => Below.heap_alloc _ _ _ (own_lt HO.out j hj))) (some ⟨wr.heap.size, 0, none⟩) 1 1 [.int .u8 120] rfl rfl (fun _ => ⟨_, rfl, Laws.new_cells wr _ _ _ rfl⟩) (fun u hu => by simp at hu; subst hu; rfl) (by simp only [maxLen]; omega) (by omega) (Nat.le_trans HB2.out.size (by simp)) ?_; intro v6 w6 ho6 hg6 _ _; have HO6 := Aside0.mk (show w6.ownsRow w.heap.size 5 1 v6 (N + 1) (nums .u8 (ints (PathP.xs (k + 1)))) from by rw [xs_succ]; simpa [nums, ints] using ho6); have HB6 := Aside0.mk (show Below w.heap.size w w6 from (HB2.out.alloc HB2.out.size _).grown hg6 (Nat.le_trans HB2.out.size (by simp)) (fun k h => Laws.own_ge HO.out k h)); clear ho6 hg6; obtain ⟨q6, c6, hA6⟩ := Laws.own_form HO6.out (by omega); subst hA6)
          go_roundw
          case rel => exact ⟨k + 1, N + 1, some ⟨q6, 0, none⟩, c6, by omega, rfl, ⟨by rw [HN.out]⟩, HO6, HB6⟩
          case measure => have := HN.out; simp [lenN]; omega
        · obtain rfl : k = m := by omega
          have hlt' : decide ((N : Int) < (k : Int) + 1) = false := decide_eq_false (by have := HN.out; omega)
          obtain ⟨S, hS⟩ : ∃ S : ByteArray, S = ⟨(PathP.xs k).toArray⟩ := ⟨_, rfl⟩
          have hcv : (convert 29 9 (.slice A N c)).run Tryd.prog wr = .ok (.string S) wr := by
            rw [hS, ← str_ints]; exact own_string Tryd.underlying29 Tryd.underlying5 Tryd.underlying9 HO.out
          have hSl : S.data.toList = PathP.xs k := by rw [hS]
          have hSs : S.size ≤ 1000000 := by rw [← data_length, hSl, xs_len]; omega
          replace HB := HB2
          clear hS
          by_cases h200 : 200 ≤ k
          · have J1 := Aside0.mk (show JoinIs S ⟨#[121]⟩ ⟨#[]⟩ 1 from ⟨hSs, by decide, by
              rw [hSl, show (ByteArray.mk #[121]).data.toList = [121] from rfl, PathP.long_join_not h200]; rfl⟩)
            have M1 := Aside0.mk (show MayIs S false from ⟨hSs, by rw [hSl]; exact PathP.long_not h200⟩)
            have hg : decide (200 < (k : Int) + 1) = true := decide_eq_true (by omega)
            clear hSl h200
            go_wp2_with (first
              | (go_at_call 12; with_reducible refine (J1.out.calls HM.out HB.out).mono ?_; rintro e w9 ⟨rfl, hb⟩; replace HB := Aside0.mk hb; clear hb)
              | (go_at_call 15; with_reducible refine (M1.out.calls HM.out HB.out).mono ?_; rintro e w9 ⟨rfl, hb⟩; replace HB := Aside0.mk hb; clear hb))
            go_ret
            exact ⟨rfl, HB.out⟩
          · have M1 := Aside0.mk (show MayIs S true from ⟨hSs, by rw [hSl]; exact PathP.long_may (by omega)⟩)
            have hg : decide (200 < (k : Int) + 1) = false := decide_eq_false (by omega)
            have hok : 0 < k → PathP.join S.data.toList [121] = ((PathP.join S.data.toList [121]).1, if 200 < k + 3 then .over else .ok) := fun h0 => by
              rw [Prod.ext_iff]; exact ⟨rfl, by rw [hSl]; exact PathP.long_join h0 (by omega)⟩
            by_cases h0 : k = 0
            · subst h0
              obtain rfl : N = 1 := HN.out
              clear hlt'
              obtain ⟨r, z, hj, _, hz⟩ := joinIs (s := S) (t := ⟨#[121]⟩) hSs (by decide)
              have hz0 : z = 0 := by
                rw [hz, show (ByteArray.mk #[121]).data.toList = [121] from rfl, hSl, PathP.long_join0]; rfl
              subst hz0
              have J1 := Aside0.mk hj
              clear hSl h200 hok hz hj
              go_wp2_with (first
                | (go_at_call 12; with_reducible refine (J1.out.calls HM.out HB.out).mono ?_; rintro e w9 ⟨rfl, hb⟩; replace HB := Aside0.mk hb; clear hb)
                | (go_at_call 15; with_reducible refine (M1.out.calls HM.out HB.out).mono ?_; rintro e w9 ⟨rfl, hb⟩; replace HB := Aside0.mk hb; clear hb))
              go_ret
              exact ⟨rfl, HB.out⟩
            · have h1n : ((k : Int) + 1 == 1) = false := beq_eq_false_iff_ne.2 (by omega)
              obtain ⟨r, z, hj, _, hz⟩ := joinIs (s := S) (t := ⟨#[121]⟩) hSs (by decide)
              rw [show (ByteArray.mk #[121]).data.toList = [121] from rfl, hok (by omega)] at hz
              have J1 := Aside0.mk hj
              clear hj
              by_cases h3 : 200 < k + 3
              · obtain rfl : z = 5 := by rw [hz, if_pos h3]; rfl
                have hg3 : decide (200 < (k : Int) + 1 + 2) = true := decide_eq_true (by omega)
                clear hSl h200 hok hz h0
                go_wp2_with (first
                  | (go_at_call 12; with_reducible refine (J1.out.calls HM.out HB.out).mono ?_; rintro e w9 ⟨rfl, hb⟩; replace HB := Aside0.mk hb; clear hb)
                  | (go_at_call 15; with_reducible refine (M1.out.calls HM.out HB.out).mono ?_; rintro e w9 ⟨rfl, hb⟩; replace HB := Aside0.mk hb; clear hb))
                go_ret
                exact ⟨by simp, HB.out⟩
              · obtain rfl : z = 0 := by rw [hz, if_neg h3]; rfl
                have hg3 : decide (200 < (k : Int) + 1 + 2) = false := decide_eq_false (by omega)
                clear hSl h200 hok hz h0
                go_wp2_with (first
                  | (go_at_call 12; with_reducible refine (J1.out.calls HM.out HB.out).mono ?_; rintro e w9 ⟨rfl, hb⟩; replace HB := Aside0.mk hb; clear hb)
                  | (go_at_call 15; with_reducible refine (M1.out.calls HM.out HB.out).mono ?_; rintro e w9 ⟨rfl, hb⟩; replace HB := Aside0.mk hb; clear hb))
                go_ret
                exact ⟨by simp, HB.out⟩
end Go.Proofs.YtipojdjdlnafmaaDoor.Path
