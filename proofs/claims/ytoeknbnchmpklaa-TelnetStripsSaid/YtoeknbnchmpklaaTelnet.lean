/- The contracts of package telnet's functions: what is left of bytes, from a state on, and what is counted. -/
import Derived.Test.YtoeknbnchmpklaaLib
import Derived.Test.YtoeknbnchmpklaaProg
namespace Go.Proofs.Ytoeknbnchmpklaa.Telnet
open Go Go.RowKit Go.Proofs.YtoeknbnchmpklaaW.PrintWords Go.Proofs.YtoeknbnchmpklaaW.PrintLast Go.Proofs.YtoeknbnchmpklaaW.PrintMore
set_option linter.unusedVariables false
set_option linter.unusedSimpArgs false

theorem info5 : (Try.prog.info? 5).map (fun i => (i.zero, i.size, i.bytes)) = some (some (.int .u8 0), 1, 1) := by kernel_rfl

/-- One byte more. -/
def step (st cnt : Int) (out : List Int) (c : Int) : Int × Int × List Int :=
  if st = 2 then (0, cnt, out)
  else if st = 1 ∧ 251 ≤ c ∧ c < 255 then (2, cnt, out)
  else if st = 1 ∧ c = 242 then (0, cnt + 1, out)
  else if st = 1 ∧ c ≠ 255 then (0, cnt, out)
  else if st = 0 ∧ c = 255 then (1, cnt, out)
  else (0, cnt, out ++ [c])

/-- The stripper at block g. -/
def At (w : World) (B g : Nat) (st cnt : Int) (out : List Int) : Prop :=
  ∃ v, w.heap[g]? = some (.cells #[.int .i64 st, .int .i64 cnt, v] 33 (0, 0)) ∧ w.ownsRow B 5 1 v out.length (nums .u8 out) ∧ some g ≠ v.ownBlock

theorem At.lt {w : World} {B g : Nat} {st cnt : Int} {out : List Int} (h : At w B g st cnt out) : g < w.heap.size := by obtain ⟨v, hb, _⟩ := h; exact blk_lt hb

theorem put0 {w : World} {B g : Nat} {st cnt : Int} {out : List Int} (h : At w B g st cnt out) (x : Int) : At (w.setCell ⟨g, 0, none⟩ (.int .i64 x)) B g x cnt out := by
  obtain ⟨v, hb, ho, hn⟩ := h
  exact ⟨v, blk_put hb 0 _ rfl, own_move ho (fun k hk => Below.heap_setCell w _ _ k (fun e => hn (by rw [hk]; exact congrArg some e.symm))), hn⟩
theorem put1 {w : World} {B g : Nat} {st cnt : Int} {out : List Int} (h : At w B g st cnt out) (x : Int) : At (w.setCell ⟨g, 1, none⟩ (.int .i64 x)) B g st x out := by
  obtain ⟨v, hb, ho, hn⟩ := h
  exact ⟨v, blk_put hb 1 _ rfl, own_move ho (fun k hk => Below.heap_setCell w _ _ k (fun e => hn (by rw [hk]; exact congrArg some e.symm))), hn⟩

set_option maxHeartbeats 1000000 in
set_option maxRecDepth 100000 in
theorem take_calls (B g : Nat) (st cnt : Int) (out : List Int) (c : Int) (w : World) (h : At w B g st cnt out) (hB : B ≤ g) (hc0 : 0 ≤ cnt) (hc1 : cnt ≤ 1000000000000) (hl : out.length ≤ 1000000000000) (R : Int × Int × List Int) (hR : step st cnt out c = R) :
    Calls Try.prog 13 #[.pointer (some ⟨g, 0, none⟩), .int .u8 c] w fun e w' =>
      e = .returned (.tuple #[]) ∧ At w' B g R.1 R.2.1 R.2.2 ∧ Below B w w' := by
  have HA := Aside0.mk h
  have HRR := Aside0.mk hR
  clear hR
  obtain ⟨v, hb, ho, hn⟩ := h
  have HO := Aside0.mk ho
  have HN := Aside0.mk hn
  have c0 : w.cell? ⟨g, 0, none⟩ = some (.int .i64 st) := (blk_cell hb 0).trans rfl
  have c1 : w.cell? ⟨g, 1, none⟩ = some (.int .i64 cnt) := (blk_cell hb 1).trans rfl
  have c2 : w.cell? ⟨g, 2, none⟩ = some v := (blk_cell hb 2).trans rfl
  have f0 : w.frozen? ⟨g, 0, none⟩ = false := blk_frozen hb 0
  have f1 : w.frozen? ⟨g, 1, none⟩ = false := blk_frozen hb 1
  have f2 : w.frozen? ⟨g, 2, none⟩ = false := blk_frozen hb 2
  have HBl := Aside0.mk hb
  clear ho hn hb
  have hlast : Aside0 (R = (0, cnt, out ++ [c])) → (st == 2) = false → ((st == 1) = false ∨ ((st == 1) = true ∧ decide (251 ≤ c) = true ∧ decide (c < 255) = false ∧ (c == 242) = false ∧ (c != 255) = false)) → ((st == 0) = false ∨ ((st == 0) = true ∧ (c == 255) = false)) →
      Calls Try.prog 13 #[.pointer (some ⟨g, 0, none⟩), .int .u8 c] w fun e w' => e = .returned (.tuple #[]) ∧ At w' B g R.1 R.2.1 R.2.2 ∧ Below B w w' := by
    intro HV e2 h1 h0
    obtain ⟨i0, hi, hz0, hz1, hz2⟩ := info_parts info5
    have HI := Aside0.mk (And.intro hi (And.intro hz0 (And.intro hz1 hz2)))
    clear hi hz0 hz1 hz2
    have hsz : B ≤ w.heap.size := Nat.le_trans hB (Nat.le_of_lt HA.out.lt)
    have HO1 : Aside0 ((w.setCell ⟨g, 0, none⟩ (.int .i64 0)).ownsRow B 5 1 v out.length (nums .u8 out)) := ⟨own_move HO.out (fun k hk => Below.heap_setCell w _ _ k (fun e => HN.out (by rw [hk]; exact congrArg some e.symm)))⟩
    rcases h1 with h1 | ⟨h1, h3, h4, h5, h6⟩ <;> rcases h0 with h0 | ⟨h0, h7⟩
    all_goals
      go_enter Try.func13, Try.ntmps13
      go_wp2_with ((with_reducible refine Laws.gate 67 rfl ?_); refine Laws.append_any rfl (.tmp 64) (.tmp 66) 22 rfl B 5 i0 (.int .u8 0) 1 1 Try.underlying22 HI.out.1 HI.out.2.1 HI.out.2.2.1 HI.out.2.2.2 rfl (by decide) v out.length (nums .u8 out) rfl (HO1.out.alloc _) (some ⟨w.heap.size, 0, none⟩) 1 1 [.int .u8 c] rfl rfl (fun _ => ⟨_, rfl, by first | exact cell_one_new (w.setCell ⟨g, 0, none⟩ (.int .i64 0)) _ _ | (have := cell_one_new (w.setCell ⟨g, 0, none⟩ (.int .i64 0)) (.int .u8 c) 5; simpa [World.setCell] using this)⟩) (fun u hu => by simp at hu; subst hu; rfl) (by simp only [maxLen]; omega) (by omega) (by simp [World.setCell]; omega) ?_; intro v6 w6 ho6 hg6 hn6 hl6; obtain ⟨q6, k6, rfl⟩ := Laws.own_form ho6 (by omega); have hb6 : w6.heap[g]? = some (.cells #[.int .i64 0, .int .i64 cnt, v] 33 (0, 0)) := blk_grown (blk_alloc (blk_put HBl.out 0 _ rfl) _) hg6 HN.out; have k2 : w6.cell? ⟨g, 2, none⟩ = some v := (blk_cell hb6 2).trans rfl; have f62 := blk_frozen hb6 2; have HB6 := Aside0.mk hb6; have HO6 := Aside0.mk ho6; have HL6 := Aside0.mk hl6; have HW6 := Aside0.mk (show Below B w w6 from (((Below.refl B w).setCell hB _).alloc (by simp [World.setCell]; omega) _).grown hg6 (by simp [World.setCell]; omega) (fun k h => own_base HO.out k h)); clear hb6 ho6 hg6 hn6 hl6)
      go_end0
      refine ⟨rfl, ?_, HW6.out.setCell hB _⟩
      have hne : g ≠ q6 := by
        rcases HL6.out with h | h
        · exact fun e => HN.out (by rw [← h]; exact congrArg some e)
        · have := HA.out.lt
          have h' : q6 = _ := Option.some.inj h
          rw [h']; simp [World.setCell]; omega
      rw [HV.out]
      refine ⟨_, blk_put HB6.out 2 _ rfl, ?_, fun e => hne (Option.some.inj e)⟩
      have e1 : nums .u8 (out ++ [c]) = nums .u8 out ++ [.int .u8 c] := by simp [nums]
      rw [e1, List.length_append]
      exact own_move HO6.out (fun k hk => Below.heap_setCell _ _ _ k (fun e => hne (by have := Option.some.inj hk; exact (e.symm.trans this.symm))))
  by_cases h2 : st = 2
  · have e2 : (st == 2) = true := beq_iff_eq.2 h2
    have HV : Aside0 (R = (0, cnt, out)) := ⟨by rw [← HRR.out, step, if_pos h2]⟩
    clear h2 hlast
    go_enter Try.func13, Try.ntmps13
    go_wp2
    go_end0
    exact ⟨rfl, by rw [HV.out]; exact put0 HA.out 0, (Below.refl _ _).setCell hB _⟩
  · have e2 : (st == 2) = false := beq_eq_false_iff_ne.2 h2
    by_cases h1 : st = 1
    · have e1 : (st == 1) = true := beq_iff_eq.2 h1
      have e0 : (st == 0) = false := beq_eq_false_iff_ne.2 (by omega)
      by_cases h3 : 251 ≤ c ∧ c < 255
      · have e3 : decide (251 ≤ c) = true := decide_eq_true h3.1
        have e4 : decide (c < 255) = true := decide_eq_true h3.2
        have HV : Aside0 (R = (2, cnt, out)) := ⟨by rw [← HRR.out, step, if_neg h2, if_pos ⟨h1, h3⟩]⟩
        clear h2 h1 h3 hlast
        go_enter Try.func13, Try.ntmps13
        go_wp2
        go_end0
        exact ⟨rfl, by rw [HV.out]; exact put0 (put0 HA.out 0) 2, ((Below.refl _ _).setCell hB _).setCell hB _⟩
      · have h34 : (decide (251 ≤ c) = true ∧ decide (c < 255) = false) ∨ decide (251 ≤ c) = false := by
          by_cases a1 : 251 ≤ c
          · exact .inl ⟨decide_eq_true a1, decide_eq_false (by omega)⟩
          · exact .inr (decide_eq_false a1)
        by_cases h5 : c = 242
        · have e5 : (c == 242) = true := beq_iff_eq.2 h5
          have e3 : decide (251 ≤ c) = false := decide_eq_false (by omega)
          have HV : Aside0 (R = (0, cnt + 1, out)) := ⟨by rw [← HRR.out, step, if_neg h2, if_neg (fun h => h3 h.2), if_pos ⟨h1, h5⟩]⟩
          clear h2 h1 h3 h5 h34 hlast
          go_enter Try.func13, Try.ntmps13
          go_wp2
          go_end0
          exact ⟨rfl, by rw [HV.out]; exact put1 (put0 HA.out 0) (cnt + 1), ((Below.refl _ _).setCell hB _).setCell hB _⟩
        · have e5 : (c == 242) = false := beq_eq_false_iff_ne.2 h5
          by_cases h6 : c = 255
          · have e6 : (c != 255) = false := by simp [h6]
            exact hlast ⟨by rw [← HRR.out, step, if_neg h2, if_neg (fun h => h3 h.2), if_neg (fun h => h5 h.2), if_neg (fun h => h.2 h6), if_neg (by omega)]⟩ e2 (.inr ⟨e1, decide_eq_true (by omega), decide_eq_false (by omega), e5, e6⟩) (.inl e0)
          · have e6 : (c != 255) = true := by simp [h6]
            have HV : Aside0 (R = (0, cnt, out)) := ⟨by rw [← HRR.out, step, if_neg h2, if_neg (fun h => h3 h.2), if_neg (fun h => h5 h.2), if_pos ⟨h1, h6⟩]⟩
            clear h2 h1 h3 h5 h6 hlast
            rcases h34 with ⟨e3, e4⟩ | e3
            all_goals
              go_enter Try.func13, Try.ntmps13
              go_wp2
              go_end0
              exact ⟨rfl, by rw [HV.out]; exact put0 HA.out 0, (Below.refl _ _).setCell hB _⟩
    · have e1 : (st == 1) = false := beq_eq_false_iff_ne.2 h1
      by_cases h0 : st = 0
      · have e0 : (st == 0) = true := beq_iff_eq.2 h0
        by_cases h7 : c = 255
        · have e7 : (c == 255) = true := beq_iff_eq.2 h7
          have HV : Aside0 (R = (1, cnt, out)) := ⟨by rw [← HRR.out, step, if_neg h2, if_neg (fun h => h1 h.1), if_neg (fun h => h1 h.1), if_neg (fun h => h1 h.1), if_pos ⟨h0, h7⟩]⟩
          clear h2 h1 h0 h7 hlast
          go_enter Try.func13, Try.ntmps13
          go_wp2
          go_end0
          exact ⟨rfl, by rw [HV.out]; exact put0 (put0 HA.out 0) 1, ((Below.refl _ _).setCell hB _).setCell hB _⟩
        · exact hlast ⟨by rw [← HRR.out, step, if_neg h2, if_neg (fun h => h1 h.1), if_neg (fun h => h1 h.1), if_neg (fun h => h1 h.1), if_neg (fun h => h7 h.2)]⟩ e2 (.inl e1) (.inr ⟨e0, beq_eq_false_iff_ne.2 h7⟩)
      · exact hlast ⟨by rw [← HRR.out, step, if_neg h2, if_neg (fun h => h1 h.1), if_neg (fun h => h1 h.1), if_neg (fun h => h1 h.1), if_neg (fun h => h0 h.1)]⟩ e2 (.inl e1) (.inl (beq_eq_false_iff_ne.2 h0))

def norm (st : Int) : Int := if st < 0 ∨ st ≥ 3 then 0 else st
/-- What is left of bytes. -/
def strip (st : Int) (l : List Int) : Int × Int × List Int := l.foldl (fun a c => step a.1 a.2.1 a.2.2 c) (norm st, 0, [])

theorem step_bounds (st cnt : Int) (out : List Int) (c : Int) : cnt ≤ (step st cnt out c).2.1 ∧ (step st cnt out c).2.1 ≤ cnt + 1 ∧ (step st cnt out c).2.2.length ≤ out.length + 1 := by
  unfold step
  repeat' split
  all_goals simp <;> omega

theorem strip_snoc (st : Int) (l : List Int) (k : Nat) (h : k < l.length) : strip st (l.take (k + 1)) = step (strip st (l.take k)).1 (strip st (l.take k)).2.1 (strip st (l.take k)).2.2 (rd l k) := by
  unfold strip
  rw [List.take_succ_eq_append_getElem h, List.foldl_append]
  have : rd l k = l[k] := by simp [rd, List.getD, h]
  rw [this]; rfl

theorem strip_bounds (st : Int) (l : List Int) : ∀ k : Nat, k ≤ l.length → 0 ≤ (strip st (l.take k)).2.1 ∧ (strip st (l.take k)).2.1 ≤ k ∧ (strip st (l.take k)).2.2.length ≤ k
  | 0, _ => by simp [strip]
  | k + 1, h => by
    have ih := strip_bounds st l k (by omega)
    have hb := step_bounds (strip st (l.take k)).1 (strip st (l.take k)).2.1 (strip st (l.take k)).2.2 (rd l k)
    rw [strip_snoc st l k (by omega)]
    omega

set_option maxHeartbeats 1000000 in
set_option maxRecDepth 100000 in
theorem strip_calls (st : Int) (A : Option Addr) (c : Nat) (l : List Int) (w : World) (hr : Kd.C (Kd.int .u8) w A l.length l) (hl : l.length ≤ 1000000) :
    Calls Try.prog 9 #[.int .i64 st, .slice A l.length c] w fun e w' => ∃ v1_ : Value, e = .returned (.tuple #[.int .i64 (strip st l).1, v1_, .int .i64 (strip st l).2.1]) ∧ Kd.R (Kd.int .u8) 5 w' w.heap.size (fun _ => True) v1_ (strip st l).2.2 ∧ Below w.heap.size w w' := by
  have HR := Aside0.mk hr
  clear hr
  have hhead : ∀ w1 : World, w1.heap[w.heap.size]? = some (.cells #[.int .i64 (norm st), .int .i64 0, .slice none 0 0] 33 (0, 0)) → Aside0 (At w1 w.heap.size w.heap.size (strip st (l.take 0)).1 (strip st (l.take 0)).2.1 (strip st (l.take 0)).2.2) := fun w1 h =>
    ⟨⟨.slice none 0 0, by simpa [strip] using h, by simpa [strip, nums] using own_nil _ _ _ _, by simp [Value.ownBlock]⟩⟩
  have hgoes : (decide (st < 0) = true ∧ norm st = 0) ∨ (decide (st < 0) = false ∧ decide (3 ≤ st) = true ∧ norm st = 0) ∨ (decide (st < 0) = false ∧ decide (3 ≤ st) = false ∧ norm st = st) := by
    by_cases h1 : st < 0
    · exact .inl ⟨decide_eq_true h1, by unfold norm; rw [if_pos (.inl h1)]⟩
    · by_cases h2 : 3 ≤ st
      · exact .inr (.inl ⟨decide_eq_false h1, decide_eq_true h2, by unfold norm; rw [if_pos (.inr h2)]⟩)
      · exact .inr (.inr ⟨decide_eq_false h1, decide_eq_false h2, by unfold norm; rw [if_neg (by omega)]⟩)
  rcases hgoes with ⟨d1, hn⟩ | ⟨d1, d2, hn⟩ | ⟨d1, d2, hn⟩
  all_goals
    have HN := Aside0.mk hn
    clear hn
    go_enter Try.func9, Try.ntmps9
    go_wp2
    go_loopw [24] (fun i wr => ∃ k : Nat, k ≤ l.length ∧ i = .int .i64 k ∧ Aside0 (At wr w.heap.size w.heap.size (strip st (l.take k)).1 (strip st (l.take k)).2.1 (strip st (l.take k)).2.2) ∧ Aside0 (Below w.heap.size w wr))
      (fun i _ => l.length - (intOf i).toNat)
    case atStart => exact ⟨0, Nat.zero_le _, rfl, hhead _ (by rw [HN.out]; exact blk_new w _), ⟨(Below.refl _ _).alloc (Nat.le_refl _) _⟩⟩
    case round =>
      clear hhead
      obtain ⟨k, hk, rfl, HA, HB⟩ := hrel
      by_cases hlt : k < l.length
      · have HS := Aside0.mk (strip_snoc st l k hlt)
        have HBD := Aside0.mk (strip_bounds st l k hk)
        obtain ⟨ad, e1, hx⟩ := Kd.at_int (Kd.C_below HR.out HB.out) k (by omega) (by omega)
        cases e1
        rw [Int.toNat_natCast] at hx
        go_wp2_with (go_at_call 13; refine (take_calls w.heap.size w.heap.size _ _ _ (rd l k) _ HA.out (Nat.le_refl _) HBD.out.1 (by have := HBD.out.2.1; omega) (by have := HBD.out.2.2; omega) _ HS.out.symm).mono ?_; rintro e w1 ⟨rfl, ha1, hb1⟩; have HA1 := Aside0.mk ha1; have HB1 := Aside0.mk (HB.out.trans hb1); clear ha1 hb1)
        go_roundw
        case rel => exact ⟨k + 1, by omega, by go_num, HA1, HB1⟩
        case measure => simp [intOf]; omega
      · obtain rfl : k = l.length := by omega
        obtain ⟨v, hb, ho, hn⟩ := HA.out
        rw [List.take_length] at hb ho
        have c0 : wr.cell? ⟨w.heap.size, 0, none⟩ = some (.int .i64 (strip st l).1) := (blk_cell hb 0).trans rfl
        have c1 : wr.cell? ⟨w.heap.size, 1, none⟩ = some (.int .i64 (strip st l).2.1) := (blk_cell hb 1).trans rfl
        have c2 : wr.cell? ⟨w.heap.size, 2, none⟩ = some v := (blk_cell hb 2).trans rfl
        have HO := Aside0.mk ho
        clear hb ho hn
        go_wp2
        go_quiet (fail)
        go_wp2
        go_ret3
        exact ⟨_, rfl, Kd.R_of_own (own_move HO.out (fun _ _ => rfl)) (fun _ _ => trivial), pw_below_drewN HB.out _⟩

end Go.Proofs.Ytoeknbnchmpklaa.Telnet
