/- The walks of two laws of package pool whose texts append: what is picked is one of them and not busy; what is not one of them does not matter. -/
import Derived.Test.YtjfddeflkehccaaPurePoolRef
import Derived.Test.YtjfddeflkehccaaLib
namespace Go.Proofs.Ytjfddeflkehccaa.PoolLaws
open Go Go.RowKit Go.Proofs.Ytjfddeflkehccaa.PoolExt Go.Proofs.Ytjfddeflkehccaa.Q Go.Proofs.YtjfddeflkehccaaW.PrintWords Go.Proofs.YtjfddeflkehccaaW.PrintLast Go.Proofs.YtjfddeflkehccaaW.PrintMore
set_option linter.unusedVariables false
set_option linter.unusedSimpArgs false

theorem info3 : (Try.prog.info? 3).map (fun i => (i.zero, i.size, i.bytes)) = some (some (.int .i64 0), 1, 8) := by kernel_rfl

theorem row_cells {w : World} {A : Option Addr} {l : List Int} (h : Kd.C (Kd.int .i64) w A l.length l) : 0 < l.length → ∃ ad, A = some ad ∧ ∀ j u, (nums .i64 l)[j]? = some u → w.cell? (ad.add j) = some u := by
  intro hl
  obtain ⟨h1, h2, h3⟩ := Kd.reads_of_C (d := (0 : Int)) (h1 := fun _ => rfl) h
  obtain ⟨ad, e, hc⟩ := h3 hl
  refine ⟨ad, e, fun j u hj => ?_⟩
  have hjl : j < l.length := by
    have := (List.getElem?_eq_some_iff.1 hj).1
    simpa [nums] using this
  rw [hc j hjl]
  simp [nums, List.getD, hjl] at hj ⊢
  exact hj

theorem own_row {w : World} {b : Nat} {v : Value} {n : Nat} {l : List Int} {p : Int} (h : w.ownsRow b 3 1 v n ([] ++ nums .i64 l ++ [.int .i64 p])) : ∃ L A c, Aside0 (L = l ++ [p]) ∧ v = .slice A L.length c ∧ Aside0 (L.length ≤ c) ∧ Aside0 (Kd.C (Kd.int .i64) w A L.length L) := by
  have hn : n = (l ++ [p]).length := by have := h.1; simp [nums] at this; simp; omega
  subst hn
  have e : [] ++ nums .i64 l ++ [.int .i64 p] = encs (Value.int .i64) (l ++ [p]) := by simp [nums, encs]
  rw [e] at h
  obtain ⟨A, c, h1, h2, h3⟩ := own_reads_of_le (d := (0 : Int)) h
  exact ⟨l ++ [p], A, c, ⟨rfl⟩, h1, ⟨h2⟩, ⟨Kd.C_of_reads (d := (0 : Int)) (h1 := fun _ => rfl) h3⟩⟩

def wharfingerlaw15_PoolFree.f (a0 a1 a2 : Int) (l3 : List Int) : Option Bool := some true

set_option maxHeartbeats 1000000 in
set_option maxRecDepth 100000 in
theorem free_walk (low high draw : Int) (A : Option Addr) (c : Nat) (l : List Int) (w : World) (hr : Kd.C (Kd.int .i64) w A l.length l) (hc : l.length ≤ c) :
    Calls Try.prog 4 #[.int .i64 low, .int .i64 high, .int .i64 draw, .slice A l.length c] w fun e w' => e = .returned (.bool true) ∧ Below w.heap.size w w' := by
  have HR := Aside0.mk hr
  have HC := Aside0.mk hc
  clear hr hc
  by_cases hl : 60 < l.length
  · have d1 : decide (60 < l.length) = true := decide_eq_true hl
    go_enter Try.func4, Try.ntmps4
    go_wp2_with (go_at_call 8; refine (wharfingerlaw15_awake.calls true _ Pure.awake).mono ?_; rintro e w1 ⟨rfl, hb1⟩; have HB1 := Aside0.mk hb1; clear hb1)
    go_ret
    exact ⟨rfl, HB1.out⟩
  · have d1 : decide (60 < l.length) = false := decide_eq_false hl
    have hl2 : l.length ≤ 60 := by omega
    clear hl
    generalize hp : Pool.pick low high draw l = pr
    obtain ⟨p, b⟩ := pr
    have HP := Aside0.mk hp
    clear hp
    have HF := Aside0.mk (rfl : Pool.free low high l = Pool.free low high l)
    cases b with
    | false =>
      have h0 : p = 0 ∧ Pool.free low high l = 0 := by
        by_cases hm : Pool.may low high = true
        · obtain ⟨h1, h2⟩ := Pool.pick_none hm HP.out
          exact ⟨h1, Pool.free_none h2⟩
        · have h1 := HP.out
          rw [Pool.pick_not (Bool.eq_false_iff.2 hm)] at h1
          simp at h1
          exact ⟨h1.symm, Pool.free_not (Bool.eq_false_iff.2 hm) l⟩
      obtain ⟨rfl, h0⟩ := h0
      have H0 := Aside0.mk h0
      clear h0
      go_enter Try.func4, Try.ntmps4
      go_wp2_with (first
        | (go_at_call 8; refine (wharfingerlaw15_awake.calls true _ Pure.awake).mono ?_; rintro e w1 ⟨rfl, hb1⟩; have HB1 := Aside0.mk hb1; clear hb1)
        | (go_at_call 9; refine (Pool.pick_calls low high draw _ _ l _ (Kd.C_below HR.out HB1.out)).mono ?_; rw [HP.out]; rintro e w2 ⟨rfl, hb2⟩; have HB2 := Aside0.mk (HB1.out.trans (hb2.mono HB1.out.size)); clear hb2)
        | (go_at_call 11; refine (Pool.free_calls low high _ _ l _ (Kd.C_below HR.out HB2.out) (by omega)).mono ?_; rw [H0.out]; rintro e w3 ⟨rfl, hb3⟩; have HB3 := Aside0.mk (HB2.out.trans (hb3.mono HB2.out.size)); clear hb3))
      go_ret
      exact ⟨rfl, HB3.out⟩
    | true =>
      obtain ⟨hm, p1, p2, p3⟩ := Pool.pick_yes HP.out
      have HM := Aside0.mk hm
      have HN := Aside0.mk p3
      have hf := Pool.free_less hm p1 p2 p3
      have hge := Pool.free_nonneg low high (l ++ [p])
      clear hm p3
      generalize hq : Pool.free low high l = q at hf
      have HQ := Aside0.mk hq
      have hq1 : 1 ≤ q := by omega
      have HQ2 : Aside0 (Pool.free low high (l ++ [p]) = q - 1) := ⟨by omega⟩
      have hq3 : q ≤ 65535 := by
        have hb := (Pool.may_iff _ _).1 HM.out
        have : Pool.free low high l ≤ high - low + 1 := by unfold Pool.free; rw [if_pos HM.out]; omega
        omega
      clear hf hge hq HF
      obtain ⟨i0, hi, hz0, hz1, hz2⟩ := info_parts info3
      have HI := Aside0.mk (And.intro hi (And.intro hz0 (And.intro hz1 hz2)))
      clear hi hz0 hz1 hz2
      have HH : Aside0 (wharfingerref15_Has.f 1001 l p = some false) := ⟨by rw [Pure.has l p (by omega) 1001 (by omega), decide_eq_false HN.out]⟩
      have z1 : decide (1 ≤ q) = true := decide_eq_true hq1
      have z2 : decide (low ≤ p) = true := decide_eq_true p1
      have z3 : decide (p ≤ high) = true := decide_eq_true p2
      have tok1 : True := trivial
      go_enter Try.func4, Try.ntmps4
      go_wp2_with (first
        | (go_at_call 8; refine (wharfingerlaw15_awake.calls true _ Pure.awake).mono ?_; rintro e w1 ⟨rfl, hb1⟩; have HB1 := Aside0.mk hb1; clear hb1)
        | (go_at_call 9; refine (Pool.pick_calls low high draw _ _ l _ (Kd.C_below HR.out HB1.out)).mono ?_; rw [HP.out]; rintro e w2 ⟨rfl, hb2⟩; have HB2 := Aside0.mk (HB1.out.trans (hb2.mono HB1.out.size)); clear hb2)
        | (go_at_call 11; refine (Pool.free_calls low high A6 c6 L _ HC6.out (by rw [HL.out]; simp; omega)).mono ?_; rw [show Pool.free low high L = q - 1 from by rw [HL.out]; exact HQ2.out]; rintro e w7 ⟨rfl, hb7⟩; have HB7 := Aside0.mk (HB6.out.trans (hb7.mono HB6.out.size)); clear hb7)
        | (go_at_call 11; have _t := tok1; clear tok1; refine (Pool.free_calls low high _ _ l _ (Kd.C_below HR.out HB2.out) (by omega)).mono ?_; rw [HQ.out]; rintro e w3 ⟨rfl, hb3⟩; have HB3 := Aside0.mk (HB2.out.trans (hb3.mono HB2.out.size)); clear hb3)
        | (go_at_call 13; refine (wharfingerref15_Has.calls 1001 _ _ l p false _ (Kd.C_below HR.out HB3.out) HC.out HH.out).mono ?_; rintro e w4 ⟨rfl, ⟨nd, rfl⟩⟩; have HB4 := Aside0.mk (show Below w.heap.size w (w3.drewN nd) from pw_below_drewN HB3.out nd); clear HB3)
        | ((with_reducible refine Laws.gate 66 rfl ?_); refine Laws.unguard (by rfl) ?_; refine Laws.append_any rfl (.const (.slice none 0 0)) (.tmp 65) 22 rfl w.heap.size 3 i0 (.int .i64 0) 1 8 Try.underlying22 HI.out.1 HI.out.2.1 HI.out.2.2.1 HI.out.2.2.2 rfl (by decide) (.slice none 0 0) 0 [] rfl (own_nil _ _ _ _) A l.length c (nums .i64 l) rfl (by simp [nums]) (row_cells (Kd.C_below HR.out HB4.out)) (fun u hu => by simp [nums] at hu; obtain ⟨x, _, rfl⟩ := hu; rfl) (by simp only [maxLen]; omega) (by omega) HB4.out.size ?_; intro v5 w5 ho5 hg5 hn5 hl5; have HO5 := Aside0.mk ho5; have HG5 := Aside0.mk (show Below w.heap.size w w5 from HB4.out.grown hg5 HB4.out.size (fun k h => by cases h)); clear ho5 hg5 hn5 hl5)
        | ((with_reducible refine Laws.gate 69 rfl ?_); refine Laws.unguard (by rfl) ?_; refine Laws.append_any rfl (.tmp 66) (.tmp 68) 22 rfl w.heap.size 3 i0 (.int .i64 0) 1 8 Try.underlying22 HI.out.1 HI.out.2.1 HI.out.2.2.1 HI.out.2.2.2 rfl (by decide) v5 _ _ rfl (HO5.out.alloc _) (some ⟨w5.heap.size, 0, none⟩) 1 1 [.int .i64 p] rfl rfl (fun _ => ⟨_, rfl, cell_one_new _ _ _⟩) (fun u hu => by simp at hu; subst hu; rfl) (by simp only [maxLen]; omega) (by omega) (Nat.le_trans HG5.out.size (by simp)) ?_; intro v6 w6 ho6 hg6 hn6 hl6; obtain ⟨L, A6, c6, HL, rfl, hc6, HC6⟩ := own_row (p := p) ho6; have HB6 := Aside0.mk (show Below w.heap.size w w6 from ((HG5.out.alloc HG5.out.size _).grown hg6 (Nat.le_trans HG5.out.size (by simp)) (fun k h => Laws.own_ge HO5.out k h))); clear ho6 hg6 hn6 hl6))
      go_ret
      exact ⟨rfl, HB7.out⟩

def wharfingerlaw15_PoolNone.f (a0 a1 a2 : Int) (l3 : List Int) (a4 : Int) : Option Bool := some true

set_option maxHeartbeats 1000000 in
set_option maxRecDepth 100000 in
theorem none_walk (low high draw : Int) (A : Option Addr) (c : Nat) (l : List Int) (p : Int) (w : World) (hr : Kd.C (Kd.int .i64) w A l.length l) (hc : l.length ≤ c) :
    Calls Try.prog 7 #[.int .i64 low, .int .i64 high, .int .i64 draw, .slice A l.length c, .int .i64 p] w fun e w' => e = .returned (.bool true) ∧ Below w.heap.size w w' := by
  have HR := Aside0.mk hr
  have HC := Aside0.mk hc
  clear hr hc
  by_cases hl : 59 < l.length
  · have d1 : decide (59 < l.length) = true := decide_eq_true hl
    go_enter Try.func7, Try.ntmps7
    go_wp2_with (go_at_call 8; refine (wharfingerlaw15_awake.calls true _ Pure.awake).mono ?_; rintro e w1 ⟨rfl, hb1⟩; have HB1 := Aside0.mk hb1; clear hb1)
    go_ret
    exact ⟨rfl, HB1.out⟩
  · have d1 : decide (59 < l.length) = false := decide_eq_false hl
    have hl2 : l.length ≤ 59 := by omega
    clear hl
    by_cases hm : Pool.may low high = true
    · have HM := Aside0.mk hm
      obtain ⟨b1, b2, b3⟩ := (Pool.may_iff _ _).1 hm
      clear hm
      have c1 : decide (low < 1024) = false := decide_eq_false (by omega)
      have c2 : decide (65535 < high) = false := decide_eq_false (by omega)
      have c3 : decide (high < low) = false := decide_eq_false (by omega)
      generalize hp : Pool.pick low high draw l = pr
      obtain ⟨q, b⟩ := pr
      have HP := Aside0.mk hp
      clear hp
      by_cases hin : low ≤ p ∧ p ≤ high
      · obtain ⟨i1, i2⟩ := hin
        have e1 : decide (low ≤ p) = true := decide_eq_true i1
        have e2 : decide (p ≤ high) = true := decide_eq_true i2
        go_enter Try.func7, Try.ntmps7
        go_wp2_with (first
        | (go_at_call 8; refine (wharfingerlaw15_awake.calls true _ Pure.awake).mono ?_; rintro e w1 ⟨rfl, hb1⟩; have HB1 := Aside0.mk hb1; clear hb1)
          | (go_at_call 9; refine (Pool.pick_calls low high draw _ _ l _ (Kd.C_below HR.out HB1.out)).mono ?_; rw [HP.out]; rintro e w2 ⟨rfl, hb2⟩; have HB2 := Aside0.mk (HB1.out.trans (hb2.mono HB1.out.size)); clear hb2))
        go_ret
        exact ⟨rfl, HB2.out⟩
      · have hcg : ∀ x, low ≤ x → x ≤ high → (x ∈ l ↔ x ∈ l ++ [p]) := fun x h1 h2 => by
          simp only [List.mem_append, List.mem_singleton]
          constructor
          · exact .inl
          · rintro (h | rfl)
            · exact h
            · exact absurd ⟨h1, h2⟩ hin
        have HP2 : Aside0 (Pool.pick low high draw (l ++ [p]) = (q, b)) := ⟨by rw [← HP.out]; exact (Pool.pick_congr draw hcg).symm⟩
        have HF2 : Aside0 (Pool.free low high (l ++ [p]) = Pool.free low high l) := ⟨(Pool.free_congr hcg).symm⟩
        generalize hq : Pool.free low high l = f at HF2
        have HF := Aside0.mk hq
        clear hq hcg
        obtain ⟨i0, hi, hz0, hz1, hz2⟩ := info_parts info3
        have HI := Aside0.mk (And.intro hi (And.intro hz0 (And.intro hz1 hz2)))
        clear hi hz0 hz1 hz2
        have hgoes : (decide (low ≤ p) = true ∧ decide (p ≤ high) = false) ∨ decide (low ≤ p) = false := by
          by_cases i1 : low ≤ p
          · exact .inl ⟨decide_eq_true i1, decide_eq_false (fun i2 => hin ⟨i1, i2⟩)⟩
          · exact .inr (decide_eq_false i1)
        have tok1 : True := trivial
        have tok2 : True := trivial
        have tok3 : True := trivial
        rcases hgoes with ⟨e1, e2⟩ | e1
        all_goals
          go_enter Try.func7, Try.ntmps7
          go_wp2_with (first
        | (go_at_call 8; refine (wharfingerlaw15_awake.calls true _ Pure.awake).mono ?_; rintro e w1 ⟨rfl, hb1⟩; have HB1 := Aside0.mk hb1; clear hb1)
            | (go_at_call 9; have _t := tok1; clear tok1 _t; refine (Pool.pick_calls low high draw _ _ l _ (Kd.C_below HR.out HB1.out)).mono ?_; rw [HP.out]; rintro e w2 ⟨rfl, hb2⟩; have HB2 := Aside0.mk (HB1.out.trans (hb2.mono HB1.out.size)); clear hb2)
            | ((with_reducible refine Laws.gate 67 rfl ?_); refine Laws.append_any rfl (.const (.slice none 0 0)) (.tmp 66) 22 rfl w.heap.size 3 i0 (.int .i64 0) 1 8 Try.underlying22 HI.out.1 HI.out.2.1 HI.out.2.2.1 HI.out.2.2.2 rfl (by decide) (.slice none 0 0) 0 [] rfl (own_nil _ _ _ _) A l.length c (nums .i64 l) rfl (by simp [nums]) (row_cells (Kd.C_below HR.out HB2.out)) (fun u hu => by simp [nums] at hu; obtain ⟨x, _, rfl⟩ := hu; rfl) (by simp only [maxLen]; omega) (by omega) HB2.out.size ?_; intro v5 w5 ho5 hg5 hn5 hl5; have HO5 := Aside0.mk ho5; have HG5 := Aside0.mk (show Below w.heap.size w w5 from HB2.out.grown hg5 HB2.out.size (fun k h => by cases h)); clear ho5 hg5 hn5 hl5)
            | ((with_reducible refine Laws.gate 70 rfl ?_); refine Laws.append_any rfl (.tmp 67) (.tmp 69) 22 rfl w.heap.size 3 i0 (.int .i64 0) 1 8 Try.underlying22 HI.out.1 HI.out.2.1 HI.out.2.2.1 HI.out.2.2.2 rfl (by decide) v5 _ _ rfl (HO5.out.alloc _) (some ⟨w5.heap.size, 0, none⟩) 1 1 [.int .i64 p] rfl rfl (fun _ => ⟨_, rfl, cell_one_new _ _ _⟩) (fun u hu => by simp at hu; subst hu; rfl) (by simp only [maxLen]; omega) (by omega) (Nat.le_trans HG5.out.size (by simp)) ?_; intro v6 w6 ho6 hg6 hn6 hl6; obtain ⟨L, A6, c6, HL, rfl, hc6, HC6⟩ := own_row (p := p) ho6; have HB6 := Aside0.mk (show Below w.heap.size w w6 from ((HG5.out.alloc HG5.out.size _).grown hg6 (Nat.le_trans HG5.out.size (by simp)) (fun k h => Laws.own_ge HO5.out k h))); clear ho6 hg6 hn6 hl6)
            | (go_at_call 9; refine (Pool.pick_calls low high draw A6 c6 L _ HC6.out).mono ?_; rw [show Pool.pick low high draw L = (q, b) from by rw [HL.out]; exact HP2.out]; rintro e w7 ⟨rfl, hb7⟩; have HB7 := Aside0.mk (HB6.out.trans (hb7.mono HB6.out.size)); have HC7 := Aside0.mk (Kd.C_below HC6.out hb7); clear hb7)
            | (go_at_call 11; have _t := tok2; refine (Pool.free_calls low high A6 c6 L _ HC7.out (by rw [HL.out]; simp; omega)).mono ?_; clear tok2 _t; rw [show Pool.free low high L = f from by rw [HL.out]; exact HF2.out]; rintro e w8 ⟨rfl, hb8⟩; have HB8 := Aside0.mk (HB7.out.trans (hb8.mono HB7.out.size)); clear hb8)
            | (go_at_call 11; have _t := tok3; refine (Pool.free_calls low high A c l _ (Kd.C_below HR.out HB8.out) (by omega)).mono ?_; clear tok3 _t; rw [HF.out]; rintro e w9 ⟨rfl, hb9⟩; have HB9 := Aside0.mk (HB8.out.trans (hb9.mono HB8.out.size)); clear hb9))
          go_ret
          exact ⟨by simp, HB9.out⟩
    · have HP : Aside0 (Pool.pick low high draw l = (0, false)) := ⟨Pool.pick_not (Bool.eq_false_iff.2 hm) draw l⟩
      have HF : Aside0 (Pool.free low high l = 0) := ⟨Pool.free_not (Bool.eq_false_iff.2 hm) l⟩
      have hgoes : decide (low < 1024) = true ∨ (decide (low < 1024) = false ∧ decide (65535 < high) = true) ∨ (decide (low < 1024) = false ∧ decide (65535 < high) = false ∧ decide (high < low) = true) := by
        rw [Pool.may_iff] at hm
        simp only [decide_eq_true_eq, decide_eq_false_iff_not]
        omega
      clear hm
      rcases hgoes with c1 | ⟨c1, c2⟩ | ⟨c1, c2, c3⟩
      all_goals
        go_enter Try.func7, Try.ntmps7
        go_wp2_with (first
        | (go_at_call 8; refine (wharfingerlaw15_awake.calls true _ Pure.awake).mono ?_; rintro e w1 ⟨rfl, hb1⟩; have HB1 := Aside0.mk hb1; clear hb1)
          | (go_at_call 9; refine (Pool.pick_calls low high draw _ _ l _ (Kd.C_below HR.out HB1.out)).mono ?_; rw [HP.out]; rintro e w2 ⟨rfl, hb2⟩; have HB2 := Aside0.mk (HB1.out.trans (hb2.mono HB1.out.size)); clear hb2)
          | (go_at_call 11; refine (Pool.free_calls low high _ _ l _ (Kd.C_below HR.out HB2.out) (by omega)).mono ?_; rw [HF.out]; rintro e w3 ⟨rfl, hb3⟩; have HB3 := Aside0.mk (HB2.out.trans (hb3.mono HB2.out.size)); clear hb3))
        go_ret
        exact ⟨rfl, HB3.out⟩

theorem wharfingerlaw15_PoolFree.calls (a0 : Int) (a1 : Int) (a2 : Int) (A3 : Option Addr) (c3 : Nat) (l3 : List Int) (r : Bool) (w : World) (hr3 : Kd.C (Kd.int .i64) w A3 l3.length l3) (hc3 : l3.length ≤ c3) (h : wharfingerlaw15_PoolFree.f a0 a1 a2 l3 = some r) :
    Calls Try.prog 4 #[.int .i64 a0, .int .i64 a1, .int .i64 a2, .slice A3 l3.length c3] w fun e w' => e = .returned (.bool r) ∧ Below w.heap.size w w' := by
  cases h; exact free_walk a0 a1 a2 A3 c3 l3 w hr3 hc3
theorem wharfingerlaw15_PoolNone.calls (a0 : Int) (a1 : Int) (a2 : Int) (A3 : Option Addr) (c3 : Nat) (l3 : List Int) (a4 : Int) (r : Bool) (w : World) (hr3 : Kd.C (Kd.int .i64) w A3 l3.length l3) (hc3 : l3.length ≤ c3) (h : wharfingerlaw15_PoolNone.f a0 a1 a2 l3 a4 = some r) :
    Calls Try.prog 7 #[.int .i64 a0, .int .i64 a1, .int .i64 a2, .slice A3 l3.length c3, .int .i64 a4] w fun e w' => e = .returned (.bool r) ∧ Below w.heap.size w w' := by
  cases h; exact none_walk a0 a1 a2 A3 c3 l3 a4 w hr3 hc3

end Go.Proofs.Ytjfddeflkehccaa.PoolLaws
