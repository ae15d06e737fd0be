/- The walk of QuadTells. -/
import Derived.Test.YtdbbmcbkhjmokaaDoorRefText
import Derived.Test.YtdbbmcbkhjmokaaDoorRefRead
namespace Go.Proofs.YtdbbmcbkhjmokaaDoor.Quad
open Go Go.RowKit Go.Proofs.YtdbbmcbkhjmokaaDoorW.PrintWords Go.Proofs.YtdbbmcbkhjmokaaDoorW.PrintLast Go.Proofs.YtdbbmcbkhjmokaaDoorW.PrintMore Go.Proofs.YtdbbmcbkhjmokaaDoor.Dig
set_option linter.unusedVariables false
set_option linter.unusedSimpArgs false

theorem ref_num_callsI (n : Int) (h : -9223372036854775808 ≤ n ∧ n ≤ 9223372036854775807) (w : World) :
    Calls Tryd.prog 14 #[.int .i64 n] w fun e w' => e = .returned (.string ⟨(numU n).toArray⟩) ∧ w' = w := ref_num_calls n h.1 h.2 w

/-- Three addresses in blocks of the call's own: the argument, and what both reads handed back. -/
def Three (w W : World) (g1 g2 : Nat) (a b c d x0 x1 x2 x3 : Nat) : Prop :=
  One w W a b c d ∧ W.heap[g1]? = some (.cells #[.int .u8 x0, .int .u8 x1, .int .u8 x2, .int .u8 x3] 23 (0, 0)) ∧ W.heap[g2]? = some (.cells #[.int .u8 x0, .int .u8 x1, .int .u8 x2, .int .u8 x3] 23 (0, 0))
theorem One.below {w W W' : World} {a b c d : Nat} (h : One w W a b c d) (hb : Below W.heap.size W W') : One w W' a b c d := ⟨h.1.trans (hb.mono h.1.size), blk_below h.2 hb⟩
theorem One.alloc {w W : World} {a b c d : Nat} (h : One w W a b c d) (o : Obj) : One w (W.alloc o) a b c d := h.below ((Below.refl _ _).alloc (Nat.le_refl _) o)
theorem Three.below {w W W' : World} {g1 g2 a b c d x0 x1 x2 x3 : Nat} (h : Three w W g1 g2 a b c d x0 x1 x2 x3) (hb : Below W.heap.size W W') : Three w W' g1 g2 a b c d x0 x1 x2 x3 := ⟨h.1.below hb, blk_below h.2.1 hb, blk_below h.2.2 hb⟩
theorem Three.cells {w W : World} {g1 g2 a b c d x0 x1 x2 x3 : Nat} (h : Three w W g1 g2 a b c d x0 x1 x2 x3) :
    (W.cell? ⟨w.heap.size, 0, none⟩ = some (.int .u8 a) ∧ W.cell? ⟨w.heap.size, 1, none⟩ = some (.int .u8 b) ∧ W.cell? ⟨w.heap.size, 2, none⟩ = some (.int .u8 c) ∧ W.cell? ⟨w.heap.size, 3, none⟩ = some (.int .u8 d)) ∧
    (W.cell? ⟨g1, 0, none⟩ = some (.int .u8 x0) ∧ W.cell? ⟨g1, 1, none⟩ = some (.int .u8 x1) ∧ W.cell? ⟨g1, 2, none⟩ = some (.int .u8 x2) ∧ W.cell? ⟨g1, 3, none⟩ = some (.int .u8 x3)) ∧
    (W.cell? ⟨g2, 0, none⟩ = some (.int .u8 x0) ∧ W.cell? ⟨g2, 1, none⟩ = some (.int .u8 x1) ∧ W.cell? ⟨g2, 2, none⟩ = some (.int .u8 x2) ∧ W.cell? ⟨g2, 3, none⟩ = some (.int .u8 x3)) :=
  ⟨h.1.cells, ⟨(blk_cell h.2.1 0).trans rfl, (blk_cell h.2.1 1).trans rfl, (blk_cell h.2.1 2).trans rfl, (blk_cell h.2.1 3).trans rfl⟩, ⟨(blk_cell h.2.2 0).trans rfl, (blk_cell h.2.2 1).trans rfl, (blk_cell h.2.2 2).trans rfl, (blk_cell h.2.2 3).trans rfl⟩⟩

set_option maxHeartbeats 2000000 in
set_option maxRecDepth 100000 in
theorem tells_walk (n : Int) (a b c d : Nat) (s : ByteArray) (most : Int) (hn : -9223372036854775808 ≤ n ∧ n ≤ 9223372036854775807) (ha : a < 256 ∧ b < 256 ∧ c < 256 ∧ d < 256) (w : World) (hmx : Mx w) :
    Calls Tryd.prog 3 #[.int .i64 n, .agg #[.int .u8 a, .int .u8 b, .int .u8 c, .int .u8 d], .string s, .int .i64 most] w fun e w' => e = .returned (.bool true) ∧ Below w.heap.size w w' := by
  have HM := Aside0.mk hmx
  have HA := Aside0.mk ha
  have HN := Aside0.mk hn
  have HO := Aside0.mk (One.start w a b c d)
  clear hmx ha hn
  by_cases hs : 40 < (s.size : Int)
  · have hs' := decide_eq_true hs
    clear hs
    go_enter Tryd.func3, Tryd.ntmps3
    go_wp2_with (go_at_call 8; refine (awake_calls _ (HM.out.below HO.out.1)).mono ?_; rintro e w1 ⟨rfl, hb1⟩; have HO1 := Aside0.mk (HO.out.below hb1); clear hb1)
    go_ret
    exact ⟨rfl, HO1.out.1⟩
  · have hs' := decide_eq_false hs
    have HSZ := Aside0.mk (show s.size < 4294967281 ∧ s.size ≤ 1000000 from by omega)
    clear hs
    obtain ⟨v, t, hv⟩ : ∃ v t, get s.data.toList most = (v, t) := ⟨_, _, rfl⟩
    obtain ⟨x0, x1, x2, x3, r, hr⟩ : ∃ (x0 x1 x2 x3 : Nat) (r : Bool), readR (readN s.data.toList) = .tuple #[.agg #[.int .u8 x0, .int .u8 x1, .int .u8 x2, .int .u8 x3], .bool r] := by
      cases readN s.data.toList with
      | none => exact ⟨0, 0, 0, 0, false, rfl⟩
      | some x => obtain ⟨x0, x1, x2, x3⟩ := x; exact ⟨x0, x1, x2, x3, true, rfl⟩
    have HV := Aside0.mk hv
    have HR := Aside0.mk hr
    have hq : ∀ W, (Op.equalIn 10000 23 (.agg #[.int .u8 x0, .int .u8 x1, .int .u8 x2, .int .u8 x3]) (.agg #[.int .u8 x0, .int .u8 x1, .int .u8 x2, .int .u8 x3])).run Tryd.prog W = .ok true W := fun W => by rw [eq_host]; simp
    clear hv hr
    go_enter Tryd.func3, Tryd.ntmps3
    go_wp2_with (first
      | (go_at_call 8; refine (awake_calls _ (HM.out.below HO.out.1)).mono ?_; rintro e w1 ⟨rfl, hb1⟩; have HO1 := Aside0.mk (HO.out.below hb1); clear hb1)
      | (go_at_call 9; refine (get_calls _ _ _).mono ?_; rw [HV.out]; rintro e w9 ⟨rfl, rfl⟩)
      | (go_at_call 10; refine (ref_get_calls _ _ _).mono ?_; rw [HV.out]; rintro e w9 ⟨rfl, rfl⟩)
      | (go_at_call 11; refine (read_calls _ HSZ.out.1 _ (HM.out.below HO1.out.1)).mono ?_; rw [HR.out]; rintro e w2 ⟨rfl, hb2⟩; have HO2 := Aside0.mk (HO1.out.below hb2); clear hb2)
      | (go_at_call 12; refine (ref_read_calls _ HSZ.out.2 _).mono ?_; rw [HR.out]; rintro e w3 ⟨rfl, hb3⟩; have HT3 := Aside0.mk (And.intro ((HO2.out.alloc _).below hb3) (blk_below (blk_new w2 (.cells #[.int .u8 x0, .int .u8 x1, .int .u8 x2, .int .u8 x3] 23)) hb3)); clear hb3))
    refine wp_region_quiet (C := fun W => Three w W w2.heap.size w3.heap.size a b c d x0 x1 x2 x3) (by kernel_rfl) (by kernel_rfl) ⟨(HT3.out.1.alloc _).drew, blk_alloc HT3.out.2 _, blk_new w3 _⟩ ?_
    simp only []
    repeat
      refine wpQuiet_step (fun K hK => ?_)
      go_simp
      first
        | (refine hK _ ?_; clear hK K)
        | (apply Exists.intro
           refine ⟨fun W hW => ?_, hK _ ?_⟩
           (first
            | (go_at_call 13; with_reducible refine (num_callsU n HN.out _).mono ?_; rintro e w5 ⟨rfl, hb5⟩; exact ⟨rfl, hW.below hb5⟩)
            | (go_at_call 14; with_reducible refine (ref_num_callsI n HN.out _).mono ?_; rintro e w5 ⟨rfl, rfl⟩; exact ⟨rfl, hW⟩)
            | (go_at_call 15; with_reducible refine (text_calls a b c d HA.out.1 HA.out.2.1 HA.out.2.2.1 HA.out.2.2.2 _).mono ?_; rintro e w5 ⟨rfl, hb5⟩; exact ⟨rfl, hW.below hb5⟩)
            | (go_at_call 16; with_reducible refine (ref_text_calls a b c d HA.out.1 HA.out.2.1 HA.out.2.2.1 HA.out.2.2.2 _).mono ?_; rintro e w5 ⟨rfl, hb5⟩; exact ⟨rfl, hW.below hb5⟩)
            | (obtain ⟨⟨q0, q1, q2, q3⟩, ⟨r0, r1, r2, r3⟩, ⟨t0, t1, t2, t3⟩⟩ := hW.cells; go_simp; rfl))
           clear hK K)
    refine wpQuiet_nil ?_
    intro W hW
    go_wp2
    go_ret
    exact ⟨rfl, hW.1.1⟩
end Go.Proofs.YtdbbmcbkhjmokaaDoor.Quad
