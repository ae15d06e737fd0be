/- The walk of QuadOnly. -/
import Derived.Test.YtdbbmcbkhjmokaaDoorQuadParts
namespace Go.Proofs.YtdbbmcbkhjmokaaDoor.Quad
open Go Go.RowKit Go.Proofs.YtdbbmcbkhjmokaaDoorW.PrintWords Go.Proofs.YtdbbmcbkhjmokaaDoorW.PrintLast Go.Proofs.YtdbbmcbkhjmokaaDoorW.PrintMore Go.Proofs.YtdbbmcbkhjmokaaDoor.Dig
set_option linter.unusedVariables false
set_option linter.unusedSimpArgs false

theorem host_inj {a b c d a' b' c' d' : Nat} (ha : a < 256) (hb : b < 256) (hc : c < 256) (hd : d < 256) (h : hostU a b c d = hostU a' b' c' d') : a = a' ∧ b = b' ∧ c = c' ∧ d = d' := by
  have h1 := (readN_iff (hostU a b c d) a b c d).2 ⟨rfl, by omega, by omega, by omega, by omega⟩
  have h2 : Cut.cut 46 (hostU a b c d) = [digU a, digU b, digU c, digU d] := by
    rw [host_jn]
    refine Cut.cut_jn 46 _ (by simp) ?_
    intro p hp
    simp only [List.mem_cons, List.not_mem_nil, or_false] at hp
    rcases hp with rfl | rfl | rfl | rfl <;> exact dig_not46 _
  have h3 : Cut.cut 46 (hostU a' b' c' d') = [digU a', digU b', digU c', digU d'] := by
    rw [host_jn]
    refine Cut.cut_jn 46 _ (by simp) ?_
    intro p hp
    simp only [List.mem_cons, List.not_mem_nil, or_false] at hp
    rcases hp with rfl | rfl | rfl | rfl <;> exact dig_not46 _
  rw [h, h3] at h2
  simp only [List.cons.injEq, and_true] at h2
  exact ⟨(digU_inj h2.1).symm, (digU_inj h2.2.1).symm, (digU_inj h2.2.2.1).symm, (digU_inj h2.2.2.2).symm⟩
theorem numU_inj {n m : Int} (h : numU n = numU m) : n = m := by
  have hh : ∀ u : Nat, (digU u).head? ≠ some 45 := fun u e => by
    have hm := List.mem_of_mem_head? (show (45 : UInt8) ∈ (digU u).head? from e)
    exact absurd (List.all_eq_true.1 (digU_all u).1 _ hm) (by decide)
  unfold numU at h
  split at h <;> split at h
  · simp only [List.cons.injEq, true_and] at h
    have := digU_inj h; omega
  · exact absurd (by rw [← h]; rfl) (hh m.natAbs)
  · exact absurd (by rw [h]; rfl) (hh n.natAbs)
  · have := digU_inj h; omega
theorem read_not_get {l : List UInt8} {x : Nat × Nat × Nat × Nat} (h : readN l = some x) : getN l = none := by
  obtain ⟨a, b, c, d⟩ := x
  have hl := ((readN_iff l a b c d).1 h).1
  rw [getN, if_neg]
  rintro ⟨_, _, _, h4⟩
  exact absurd (List.all_eq_true.1 h4 46 (by rw [hl]; simp [hostU])) (by decide)

theorem num_callsU (n : Int) (h : -9223372036854775808 ≤ n ∧ n ≤ 9223372036854775807) (w : World) :
    Calls Tryd.prog 13 #[.int .i64 n] w fun e w' => e = .returned (.string ⟨(numU n).toArray⟩) ∧ Below w.heap.size w w' := by
  have := num_calls n h.1 h.2 w
  rwa [numU_eq] at this

/-- Two addresses in blocks of the call's own. -/
def Two (w W : World) (a b c d a' b' c' d' : Nat) : Prop :=
  Below w.heap.size w W ∧ W.heap[w.heap.size]? = some (.cells #[.int .u8 a, .int .u8 b, .int .u8 c, .int .u8 d] 23 (0, 0)) ∧
  W.heap[w.heap.size + 1]? = some (.cells #[.int .u8 a', .int .u8 b', .int .u8 c', .int .u8 d'] 23 (0, 0))
theorem Two.below {w W W' : World} {a b c d a' b' c' d' : Nat} (h : Two w W a b c d a' b' c' d') (hb : Below W.heap.size W W') : Two w W' a b c d a' b' c' d' :=
  ⟨h.1.trans (hb.mono h.1.size), blk_below h.2.1 hb, blk_below h.2.2 hb⟩
theorem Two.alloc {w W : World} {a b c d a' b' c' d' : Nat} (h : Two w W a b c d a' b' c' d') (o : Obj) : Two w (W.alloc o) a b c d a' b' c' d' :=
  h.below ((Below.refl _ _).alloc (Nat.le_refl _) o)
theorem Two.drew {w W : World} {a b c d a' b' c' d' : Nat} (h : Two w W a b c d a' b' c' d') : Two w { W with drawn := W.drawn + 1 } a b c d a' b' c' d' := ⟨h.1.drew, h.2.1, h.2.2⟩
theorem Two.start (w : World) (a b c d a' b' c' d' : Nat) : Two w ((w.alloc (.cells #[.int .u8 a, .int .u8 b, .int .u8 c, .int .u8 d] 23)).alloc (.cells #[.int .u8 a', .int .u8 b', .int .u8 c', .int .u8 d'] 23)) a b c d a' b' c' d' :=
  ⟨((Below.refl _ _).alloc (Nat.le_refl _) _).alloc (by simp) _, blk_alloc (blk_new w _) _, by have := blk_new (w.alloc (.cells #[.int .u8 a, .int .u8 b, .int .u8 c, .int .u8 d] 23)) (.cells #[.int .u8 a', .int .u8 b', .int .u8 c', .int .u8 d'] 23); simpa using this⟩
theorem Two.cells {w W : World} {a b c d a' b' c' d' : Nat} (h : Two w W a b c d a' b' c' d') :
    (W.cell? ⟨w.heap.size, 0, none⟩ = some (.int .u8 a) ∧ W.cell? ⟨w.heap.size, 1, none⟩ = some (.int .u8 b) ∧ W.cell? ⟨w.heap.size, 2, none⟩ = some (.int .u8 c) ∧ W.cell? ⟨w.heap.size, 3, none⟩ = some (.int .u8 d)) ∧
    (W.cell? ⟨w.heap.size + 1, 0, none⟩ = some (.int .u8 a') ∧ W.cell? ⟨w.heap.size + 1, 1, none⟩ = some (.int .u8 b') ∧ W.cell? ⟨w.heap.size + 1, 2, none⟩ = some (.int .u8 c') ∧ W.cell? ⟨w.heap.size + 1, 3, none⟩ = some (.int .u8 d')) :=
  ⟨⟨(blk_cell h.2.1 0).trans rfl, (blk_cell h.2.1 1).trans rfl, (blk_cell h.2.1 2).trans rfl, (blk_cell h.2.1 3).trans rfl⟩, ⟨(blk_cell h.2.2 0).trans rfl, (blk_cell h.2.2 1).trans rfl, (blk_cell h.2.2 2).trans rfl, (blk_cell h.2.2 3).trans rfl⟩⟩

set_option maxHeartbeats 2000000 in
set_option maxRecDepth 100000 in
theorem only_walk (s : ByteArray) (a b c d a' b' c' d' : Nat) (n m : Int) (ha : a < 256 ∧ b < 256 ∧ c < 256 ∧ d < 256) (ha' : a' < 256 ∧ b' < 256 ∧ c' < 256 ∧ d' < 256) (hn : -9223372036854775808 ≤ n ∧ n ≤ 9223372036854775807) (hm : -9223372036854775808 ≤ m ∧ m ≤ 9223372036854775807) (w : World) (hmx : Mx w) :
    Calls Tryd.prog 4 #[.string s, .agg #[.int .u8 a, .int .u8 b, .int .u8 c, .int .u8 d], .agg #[.int .u8 a', .int .u8 b', .int .u8 c', .int .u8 d'], .int .i64 n, .int .i64 m] w fun e w' => e = .returned (.bool true) ∧ Below w.heap.size w w' := by
  have HM := Aside0.mk hmx
  have HA := Aside0.mk ha
  have HA' := Aside0.mk ha'
  have HN := Aside0.mk hn
  have HMM := Aside0.mk hm
  have HT := Aside0.mk (Two.start w a b c d a' b' c' d')
  obtain ⟨qq, hqq⟩ : ∃ qq : Bool, (hostU a b c d == hostU a' b' c' d') = qq := ⟨_, rfl⟩
  have heq : ∀ W, (Op.equalIn 10000 23 (.agg #[.int .u8 a, .int .u8 b, .int .u8 c, .int .u8 d]) (.agg #[.int .u8 a', .int .u8 b', .int .u8 c', .int .u8 d'])).run Tryd.prog W = .ok qq W := fun W => by
    rw [eq_host, ← hqq]
    congr 1
    rw [Bool.eq_iff_iff]
    simp only [Bool.and_eq_true, beq_iff_eq]
    constructor
    · rintro ⟨h1, h2, h3, h4⟩
      obtain rfl : a = a' := by omega
      obtain rfl : b = b' := by omega
      obtain rfl : c = c' := by omega
      obtain rfl : d = d' := by omega
      rfl
    · intro h
      obtain ⟨rfl, rfl, rfl, rfl⟩ := host_inj ha.1 ha.2.1 ha.2.2.1 ha.2.2.2 h
      exact ⟨rfl, rfl, rfl, rfl⟩
  obtain ⟨qn, hqn⟩ : ∃ qn : Bool, (n == m) = qn := ⟨_, rfl⟩
  have hqn2 : (numU n == numU m) = qn := by
    rw [← hqn, Bool.eq_iff_iff]
    simp only [beq_iff_eq]
    exact ⟨numU_inj, fun h => by rw [h]⟩
  clear hmx ha ha' hn hm
  by_cases hs : 40 < (s.size : Int)
  · have hs' := decide_eq_true hs
    clear hs
    go_enter Tryd.func4, Tryd.ntmps4
    go_wp2_with (go_at_call 8; refine (awake_calls _ (HM.out.below HT.out.1)).mono ?_; rintro e w1 ⟨rfl, hb1⟩; have HT1 := Aside0.mk (HT.out.below hb1); clear hb1)
    go_ret
    exact ⟨rfl, HT1.out.1⟩
  · have hs' := decide_eq_false hs
    have HSZ := Aside0.mk (show s.size < 4294967281 from by omega)
    clear hs
    cases hr : readN s.data.toList with
    | some x =>
        obtain ⟨x0, x1, x2, x3⟩ := x
        have hr' : readR (readN s.data.toList) = .tuple #[.agg #[.int .u8 x0, .int .u8 x1, .int .u8 x2, .int .u8 x3], .bool true] := by rw [hr]; rfl
        have hx := (readN_iff _ _ _ _ _).1 hr
        have hg' : get s.data.toList 1000000 = (0, false) := by rw [Dig.get, read_not_get hr]
        have HX := Aside0.mk (show x0 < 256 ∧ x1 < 256 ∧ x2 < 256 ∧ x3 < 256 ∧ (⟨(hostU x0 x1 x2 x3).toArray⟩ : ByteArray) = s from ⟨by omega, by omega, by omega, by omega, by rw [← hx.1]⟩)
        have HR := Aside0.mk hr'
        have HG := Aside0.mk hg'
        clear hr hg' hr' hx
        go_enter Tryd.func4, Tryd.ntmps4
        go_wp2_with (first
          | (go_at_call 8; refine (awake_calls _ (HM.out.below HT.out.1)).mono ?_; rintro e w1 ⟨rfl, hb1⟩; have HT1 := Aside0.mk (HT.out.below hb1); clear hb1)
          | (go_at_call 11; refine (read_calls _ HSZ.out _ (HM.out.below HT1.out.1)).mono ?_; rw [HR.out]; rintro e w2 ⟨rfl, hb2⟩; have HT2 := Aside0.mk (HT1.out.below hb2); clear hb2)
          | (go_at_call 9; refine (get_calls _ _ _).mono ?_; rw [HG.out]; rintro e w9 ⟨rfl, rfl⟩)
          | (go_at_call 15; refine (text_calls x0 x1 x2 x3 HX.out.1 HX.out.2.1 HX.out.2.2.1 HX.out.2.2.2.1 _).mono ?_; rw [HX.out.2.2.2.2]; rintro e w3 ⟨rfl, hb3⟩; have HT3 := Aside0.mk ((HT2.out.alloc _).below hb3); clear hb3)
          | (go_at_call 13; refine (num_callsU _ HK.out.1 _).mono ?_; rw [HK.out.2]; rintro e w3 ⟨rfl, hb3⟩; have HT3 := Aside0.mk ((HT2.out.alloc _).below hb3); clear hb3))
        refine wp_region_quiet (C := fun W => Two w W a b c d a' b' c' d') (by kernel_rfl) (by kernel_rfl) (HT3.out.drew) ?_
        simp only []
        repeat
          refine wpQuiet_step (fun K hK => ?_)
          go_simp
          first
            | (refine hK _ ?_; clear hK K)
            | (apply Exists.intro
               refine ⟨fun W hW => ?_, hK _ ?_⟩
               (first
                | (go_at_call 15; with_reducible refine (text_calls a b c d HA.out.1 HA.out.2.1 HA.out.2.2.1 HA.out.2.2.2 _).mono ?_; rintro e w5 ⟨rfl, hb5⟩; exact ⟨rfl, hW.below hb5⟩)
                | (go_at_call 15; with_reducible refine (text_calls a' b' c' d' HA'.out.1 HA'.out.2.1 HA'.out.2.2.1 HA'.out.2.2.2 _).mono ?_; rintro e w5 ⟨rfl, hb5⟩; exact ⟨rfl, hW.below hb5⟩)
                | (go_at_call 13; with_reducible refine (num_callsU n HN.out _).mono ?_; rintro e w5 ⟨rfl, hb5⟩; exact ⟨rfl, hW.below hb5⟩)
                | (go_at_call 13; with_reducible refine (num_callsU m HMM.out _).mono ?_; rintro e w5 ⟨rfl, hb5⟩; exact ⟨rfl, hW.below hb5⟩)
                | (obtain ⟨⟨q0, q1, q2, q3⟩, ⟨r0, r1, r2, r3⟩⟩ := hW.cells; go_simp; rfl))
               clear hK K)
        refine wpQuiet_nil ?_
        intro W hW
        go_wp2
        go_ret
        exact ⟨rfl, hW.1⟩
    | none =>
      have hr' : readR (readN s.data.toList) = .tuple #[.agg #[.int .u8 0, .int .u8 0, .int .u8 0, .int .u8 0], .bool false] := by rw [hr]; rfl
      have HR := Aside0.mk hr'
      cases hg : (get s.data.toList 1000000).2 with
      | true =>
        obtain ⟨k, hk⟩ : ∃ k : Nat, getN s.data.toList = some k ∧ get s.data.toList 1000000 = ((k : Int), true) := by
          unfold Dig.get at hg ⊢
          cases hn : getN s.data.toList with
          | none => rw [hn] at hg; cases hg
          | some k =>
            rw [hn] at hg
            simp only at hg ⊢
            by_cases h : (1000000 : Int) < (k : Int)
            · rw [if_pos h] at hg; cases hg
            · exact ⟨k, rfl, by rw [if_neg h]⟩
        have hkk := (getN_iff _ _).1 hk.1
        have HG := Aside0.mk hk.2
        have HK := Aside0.mk (show (-9223372036854775808 ≤ (k : Int) ∧ (k : Int) ≤ 9223372036854775807) ∧ (⟨(numU (k : Int)).toArray⟩ : ByteArray) = s from ⟨by omega, by rw [numU_nat, ← hkk.1]⟩)
        clear hr hg hr' hk hkk
        go_enter Tryd.func4, Tryd.ntmps4
        go_wp2_with (first
          | (go_at_call 8; refine (awake_calls _ (HM.out.below HT.out.1)).mono ?_; rintro e w1 ⟨rfl, hb1⟩; have HT1 := Aside0.mk (HT.out.below hb1); clear hb1)
          | (go_at_call 11; refine (read_calls _ HSZ.out _ (HM.out.below HT1.out.1)).mono ?_; rw [HR.out]; rintro e w2 ⟨rfl, hb2⟩; have HT2 := Aside0.mk (HT1.out.below hb2); clear hb2)
          | (go_at_call 9; refine (get_calls _ _ _).mono ?_; rw [HG.out]; rintro e w9 ⟨rfl, rfl⟩)
          | (go_at_call 15; refine (text_calls x0 x1 x2 x3 HX.out.1 HX.out.2.1 HX.out.2.2.1 HX.out.2.2.2.1 _).mono ?_; rw [HX.out.2.2.2.2]; rintro e w3 ⟨rfl, hb3⟩; have HT3 := Aside0.mk ((HT2.out.alloc _).below hb3); clear hb3)
          | (go_at_call 13; refine (num_callsU _ HK.out.1 _).mono ?_; rw [HK.out.2]; rintro e w3 ⟨rfl, hb3⟩; have HT3 := Aside0.mk ((HT2.out.alloc _).below hb3); clear hb3))
        refine wp_region_quiet (C := fun W => Two w W a b c d a' b' c' d') (by kernel_rfl) (by kernel_rfl) (HT3.out.drew) ?_
        simp only []
        repeat
          refine wpQuiet_step (fun K hK => ?_)
          go_simp
          first
            | (refine hK _ ?_; clear hK K)
            | (apply Exists.intro
               refine ⟨fun W hW => ?_, hK _ ?_⟩
               (first
                | (go_at_call 15; with_reducible refine (text_calls a b c d HA.out.1 HA.out.2.1 HA.out.2.2.1 HA.out.2.2.2 _).mono ?_; rintro e w5 ⟨rfl, hb5⟩; exact ⟨rfl, hW.below hb5⟩)
                | (go_at_call 15; with_reducible refine (text_calls a' b' c' d' HA'.out.1 HA'.out.2.1 HA'.out.2.2.1 HA'.out.2.2.2 _).mono ?_; rintro e w5 ⟨rfl, hb5⟩; exact ⟨rfl, hW.below hb5⟩)
                | (go_at_call 13; with_reducible refine (num_callsU n HN.out _).mono ?_; rintro e w5 ⟨rfl, hb5⟩; exact ⟨rfl, hW.below hb5⟩)
                | (go_at_call 13; with_reducible refine (num_callsU m HMM.out _).mono ?_; rintro e w5 ⟨rfl, hb5⟩; exact ⟨rfl, hW.below hb5⟩)
                | (obtain ⟨⟨q0, q1, q2, q3⟩, ⟨r0, r1, r2, r3⟩⟩ := hW.cells; go_simp; rfl))
               clear hK K)
        refine wpQuiet_nil ?_
        intro W hW
        go_wp2
        go_ret
        exact ⟨rfl, hW.1⟩
      | false =>
        have hg' : get s.data.toList 1000000 = (0, false) := Prod.ext (get_zero hg) hg
        have HG := Aside0.mk hg'
        clear hr hg hr' hg'
        go_enter Tryd.func4, Tryd.ntmps4
        go_wp2_with (first
          | (go_at_call 8; refine (awake_calls _ (HM.out.below HT.out.1)).mono ?_; rintro e w1 ⟨rfl, hb1⟩; have HT1 := Aside0.mk (HT.out.below hb1); clear hb1)
          | (go_at_call 11; refine (read_calls _ HSZ.out _ (HM.out.below HT1.out.1)).mono ?_; rw [HR.out]; rintro e w2 ⟨rfl, hb2⟩; have HT2 := Aside0.mk (HT1.out.below hb2); clear hb2)
          | (go_at_call 9; refine (get_calls _ _ _).mono ?_; rw [HG.out]; rintro e w9 ⟨rfl, rfl⟩)
          | (go_at_call 15; refine (text_calls x0 x1 x2 x3 HX.out.1 HX.out.2.1 HX.out.2.2.1 HX.out.2.2.2.1 _).mono ?_; rw [HX.out.2.2.2.2]; rintro e w3 ⟨rfl, hb3⟩; have HT3 := Aside0.mk ((HT2.out.alloc _).below hb3); clear hb3)
          | (go_at_call 13; refine (num_callsU _ HK.out.1 _).mono ?_; rw [HK.out.2]; rintro e w3 ⟨rfl, hb3⟩; have HT3 := Aside0.mk ((HT2.out.alloc _).below hb3); clear hb3))
        refine wp_region_quiet (C := fun W => Two w W a b c d a' b' c' d') (by kernel_rfl) (by kernel_rfl) ((HT2.out.alloc _).drew) ?_
        simp only []
        repeat
          refine wpQuiet_step (fun K hK => ?_)
          go_simp
          first
            | (refine hK _ ?_; clear hK K)
            | (apply Exists.intro
               refine ⟨fun W hW => ?_, hK _ ?_⟩
               (first
                | (go_at_call 15; with_reducible refine (text_calls a b c d HA.out.1 HA.out.2.1 HA.out.2.2.1 HA.out.2.2.2 _).mono ?_; rintro e w5 ⟨rfl, hb5⟩; exact ⟨rfl, hW.below hb5⟩)
                | (go_at_call 15; with_reducible refine (text_calls a' b' c' d' HA'.out.1 HA'.out.2.1 HA'.out.2.2.1 HA'.out.2.2.2 _).mono ?_; rintro e w5 ⟨rfl, hb5⟩; exact ⟨rfl, hW.below hb5⟩)
                | (go_at_call 13; with_reducible refine (num_callsU n HN.out _).mono ?_; rintro e w5 ⟨rfl, hb5⟩; exact ⟨rfl, hW.below hb5⟩)
                | (go_at_call 13; with_reducible refine (num_callsU m HMM.out _).mono ?_; rintro e w5 ⟨rfl, hb5⟩; exact ⟨rfl, hW.below hb5⟩)
                | (obtain ⟨⟨q0, q1, q2, q3⟩, ⟨r0, r1, r2, r3⟩⟩ := hW.cells; go_simp; rfl))
               clear hK K)
        refine wpQuiet_nil ?_
        intro W hW
        go_wp2
        go_ret
        exact ⟨rfl, hW.1⟩
end Go.Proofs.YtdbbmcbkhjmokaaDoor.Quad
