/- The walks of three laws of package telnet: what is left is what the document says; a 242 is counted just where a 255 called; of nothing nothing is left. -/
import Derived.Test.YtoeknbnchmpklaaPureTelnetRef
import Derived.Test.YtoeknbnchmpklaaLib
import Derived.Deep.RegionWith
set_option linter.unusedVariables false
set_option linter.unusedSimpArgs false
namespace Go.Proofs.Ytoeknbnchmpklaa.TelnetLaws
open Go Go.RowKit Go.Proofs.Ytoeknbnchmpklaa.TelnetExt Go.Proofs.Ytoeknbnchmpklaa.Q Go.Proofs.YtoeknbnchmpklaaW.PrintWords Go.Proofs.YtoeknbnchmpklaaW.PrintLast Go.Proofs.YtoeknbnchmpklaaW.PrintMore

/-- A row that was made, as it is read: its text. -/
theorem row_str {w : World} {b : Nat} {ok : Nat → Prop} {v : Value} {l : List Int} (h : Kd.R (Kd.int .u8) 5 w b ok v l) : ∀ W : World, Below w.heap.size w W → (convert 22 9 v).run Try.prog W = .ok (.string (strOfNums l)) W := by
  intro W hW
  obtain ⟨A, c, rfl, _, hC⟩ := Kd.R_reads h
  exact string_of_reads Try.underlying22 Try.underlying5 Try.underlying9 (Kd.reads_of_C (d := (0 : Int)) (h1 := fun _ => rfl) (Kd.C_below hC hW))

theorem row_str' {w : World} {A : Option Addr} {c : Nat} {l : List Int} (h : Kd.C (Kd.int .u8) w A l.length l) : (convert 22 9 (.slice A l.length c)).run Try.prog w = .ok (.string (strOfNums l)) w :=
  string_of_reads Try.underlying22 Try.underlying5 Try.underlying9 (Kd.reads_of_C (d := (0 : Int)) (h1 := fun _ => rfl) h)

theorem strip_nil (st : Int) : Telnet.strip st [] = (Telnet.norm st, 0, []) := rfl
theorem strip_call : Telnet.strip 0 [255] = (1, 0, []) := by decide +kernel
theorem strip_call2 : Telnet.strip 1 [255] = (0, 0, [255]) := by decide +kernel

set_option maxHeartbeats 2000000 in
set_option maxRecDepth 100000 in
theorem none_walk (st : Int) (w : World) : Calls Try.prog 7 #[.int .i64 st] w fun e w' => e = .returned (.bool true) ∧ Below w.heap.size w w' := by
  have hgoes : (decide (st < 0) = true ∧ Telnet.norm st = 0) ∨ (decide (st < 0) = false ∧ decide (2 < st) = true ∧ Telnet.norm st = 0) ∨ (decide (st < 0) = false ∧ decide (2 < st) = false ∧ Telnet.norm st = st) := by
    by_cases h1 : st < 0
    · exact .inl ⟨decide_eq_true h1, by unfold Telnet.norm; rw [if_pos (.inl h1)]⟩
    · by_cases h2 : 2 < st
      · exact .inr (.inl ⟨decide_eq_false h1, decide_eq_true h2, by unfold Telnet.norm; rw [if_pos (.inr (by omega))]⟩)
      · exact .inr (.inr ⟨decide_eq_false h1, decide_eq_false h2, by unfold Telnet.norm; rw [if_neg (by omega)]⟩)
  rcases hgoes with ⟨d1, hn⟩ | ⟨d1, d2, hn⟩ | ⟨d1, d2, hn⟩
  all_goals
    have HN := Aside0.mk (show Telnet.strip st [] = _ from (strip_nil st).trans (by rw [hn]))
    clear hn
    have hs255 : (strOfNums [255]).toList = [255] := by decide +kernel
    have tok1 : True := trivial
    have tok2 : True := trivial
    go_enter Try.func7, Try.ntmps7
    go_wp2_with (first
      | (go_at_call 8; refine (wharfingerlaw05_awake.calls 1000 true _ Pure.awake).mono ?_; rintro e w1 ⟨rfl, hb1⟩; have HB1 := Aside0.mk hb1; clear hb1)
      | (go_at_call 9; have _t := tok1; clear tok1 _t; refine (Telnet.strip_calls st none 0 [] _ (Kd.C_of_reads (d := (0 : Int)) (h1 := fun _ => rfl) ⟨rfl, by decide, fun h => absurd h (by decide)⟩) (by decide)).mono ?_; rw [HN.out]; rintro e w2 ⟨v2, rfl, hR2, hb2⟩; obtain ⟨A2, c2, rfl, _, _⟩ := Kd.R_reads hR2; have HB2 := Aside0.mk (HB1.out.trans (hb2.mono HB1.out.size)); clear hb2 hR2)
      | (go_at_call 9; have _t := tok2; clear tok2 _t; refine (Telnet.strip_calls 0 _ 1 [255] _ (Laws.lit_ints w2 .u8 [255] 5 _ rfl (by decide)) (by decide)).mono ?_; rw [strip_call]; rintro e w3 ⟨v3, rfl, hR3, hb3⟩; obtain ⟨A3, c3, rfl, _, _⟩ := Kd.R_reads hR3; have HB3 := Aside0.mk ((HB2.out.alloc HB2.out.size (.cells #[.int .u8 255] 5)).trans (hb3.mono (HB2.out.alloc HB2.out.size (.cells #[.int .u8 255] 5)).size)); clear hb3 hR3)
      | (go_at_call 9; refine (Telnet.strip_calls 1 _ 1 [255] _ (Laws.lit_ints w3 .u8 [255] 5 _ rfl (by decide)) (by decide)).mono ?_; rw [strip_call2]; rintro e w4 ⟨v4, rfl, hR4, hb4⟩; have k4 := row_str hR4 _ (Below.refl _ _); have HB4 := Aside0.mk ((HB3.out.alloc HB3.out.size (.cells #[.int .u8 255] 5)).trans (hb4.mono (HB3.out.alloc HB3.out.size (.cells #[.int .u8 255] 5)).size)); clear hb4 hR4))
    go_ret
    exact ⟨rfl, HB4.out⟩

/-- What calls: n times. -/
def rep (m : Int) : Nat → List Int
  | 0 => []
  | j + 1 => rep m j ++ [255, 242, 255, m, 7]
theorem rep_length (m : Int) : ∀ j, (rep m j).length = 5 * j
  | 0 => rfl
  | j + 1 => by rw [rep, List.length_append, rep_length m j]; simp; omega
theorem strip_five (m : Int) (h1 : 251 ≤ m) (h2 : m ≤ 254) : Telnet.strip 0 [255, 242, 255, m, 7] = (0, 1, []) := by
  have hm : 251 ≤ m ∧ m < 255 := ⟨h1, by omega⟩
  simp [Telnet.strip, Telnet.norm, Telnet.step, hm]
theorem strip_rep (m : Int) (h1 : 251 ≤ m) (h2 : m ≤ 254) : ∀ j : Nat, Telnet.strip 0 (rep m j) = (0, (j : Int), [])
  | 0 => rfl
  | j + 1 => by
    rw [rep, Telnet.strip_append, strip_rep m h1 h2 j]
    simp only
    rw [strip_five m h1 h2]
    simp
theorem strip_counts (b : List Int) (hb : ∀ x ∈ b, x ≠ 255) (m : Int) (h1 : 251 ≤ m) (h2 : m ≤ 254) (j : Nat) : Telnet.strip 0 (b ++ rep m j ++ b) = (0, (j : Int), b ++ b) := by
  rw [Telnet.strip_append, Telnet.strip_append, Telnet.strip_plain b hb]
  simp only
  rw [strip_rep m h1 h2 j]
  simp only
  rw [Telnet.strip_plain b hb]
  simp

theorem info5 : (Try.prog.info? 5).map (fun i => (i.zero, i.size, i.bytes)) = some (some (.int .u8 0), 1, 1) := by kernel_rfl

set_option maxHeartbeats 2000000 in
set_option maxRecDepth 100000 in
theorem counts_walk (A : Option Addr) (c : Nat) (b : List Int) (wish n : Int) (w : World) (hr : Kd.C (Kd.int .u8) w A b.length b) (hw0 : 0 ≤ wish) (hw1 : wish ≤ 255) :
    Calls Try.prog 6 #[.slice A b.length c, .int .u8 wish, .int .i64 n] w fun e w' => e = .returned (.bool true) ∧ Below w.heap.size w w' := by
  have HR := Aside0.mk hr
  clear hr
  have hgoes : (decide (200 < (b.length : Int)) = true) ∨ (decide (200 < (b.length : Int)) = false ∧ decide (n < 0) = true) ∨ (decide (200 < (b.length : Int)) = false ∧ decide (n < 0) = false ∧ decide (20 < n) = true) ∨ (b.length ≤ 200 ∧ 0 ≤ n ∧ n ≤ 20) := by
    simp only [decide_eq_true_eq, decide_eq_false_iff_not]; omega
  rcases hgoes with d1 | ⟨d1, d2⟩ | ⟨d1, d2, d3⟩ | ⟨hl, hn0, hn1⟩
  · go_enter Try.func6, Try.ntmps6
    go_wp2_with (go_at_call 8; refine (wharfingerlaw05_awake.calls 1000 true _ Pure.awake).mono ?_; rintro e w1 ⟨rfl, hb1⟩; have HB1 := Aside0.mk hb1; clear hb1)
    go_ret
    exact ⟨rfl, HB1.out⟩
  · go_enter Try.func6, Try.ntmps6
    go_wp2_with (go_at_call 8; refine (wharfingerlaw05_awake.calls 1000 true _ Pure.awake).mono ?_; rintro e w1 ⟨rfl, hb1⟩; have HB1 := Aside0.mk hb1; clear hb1)
    go_ret
    exact ⟨rfl, HB1.out⟩
  · go_enter Try.func6, Try.ntmps6
    go_wp2_with (go_at_call 8; refine (wharfingerlaw05_awake.calls 1000 true _ Pure.awake).mono ?_; rintro e w1 ⟨rfl, hb1⟩; have HB1 := Aside0.mk hb1; clear hb1)
    go_ret
    exact ⟨rfl, HB1.out⟩
  · obtain ⟨N, rfl⟩ : ∃ N : Nat, n = N := ⟨n.toNat, by omega⟩
    have d1 : decide (200 < (b.length : Int)) = false := decide_eq_false (by omega)
    have d2 : decide ((N : Int) < 0) = false := decide_eq_false (by omega)
    have d3 : decide (20 < (N : Int)) = false := decide_eq_false (by omega)
    have d3' : decide (20 < N) = false := decide_eq_false (by omega)
    obtain ⟨i0, hi, hz0, hz1, hz2⟩ := info_parts info5
    have HI := Aside0.mk (And.intro hi (And.intro hz0 (And.intro hz1 hz2)))
    clear hi hz0 hz1 hz2
    go_enter Try.func6, Try.ntmps6
    go_wp2_with (go_at_call 8; refine (wharfingerlaw05_awake.calls 1000 true _ Pure.awake).mono ?_; rintro e w1 ⟨rfl, hb1⟩; have HB1 := Aside0.mk hb1; clear hb1)
    go_loop [8] (fun i => ∃ k : Nat, k ≤ b.length ∧ i = .int .i64 k ∧ Aside0 (∀ x ∈ b.take k, x ≠ 255)) (fun i => b.length - (intOf i).toNat)
    case atStart => exact ⟨0, Nat.zero_le _, rfl, ⟨by simp⟩⟩
    case round =>
      obtain ⟨k, hk, rfl, HA⟩ := hrel
      by_cases hlt : k < b.length
      · obtain ⟨ad, e1, hx⟩ := Kd.at_int (Kd.C_below HR.out HB1.out) k (by omega) (by omega)
        cases e1
        rw [Int.toNat_natCast] at hx
        by_cases h255 : rd b k = 255
        · have e5 : (rd b k == 255) = true := beq_iff_eq.2 h255
          clear h255
          go_wp2
          go_ret
          exact ⟨rfl, HB1.out⟩
        · have e5 : (rd b k == 255) = false := beq_eq_false_iff_ne.2 h255
          have HA2 : Aside0 (∀ x ∈ b.take (k + 1), x ≠ 255) := ⟨by
            intro x hx
            rw [List.take_succ_eq_append_getElem hlt, List.mem_append, List.mem_singleton] at hx
            rcases hx with hx | hx
            · exact HA.out x hx
            · rw [hx, ← Pure.rd_at b k hlt]; exact h255⟩
          clear h255
          go_wp2
          go_round
          case rel => exact ⟨k + 1, by omega, by go_num, HA2⟩
          case measure => simp [intOf]; omega
      · obtain rfl : k = b.length := by omega
        have HA2 : Aside0 (∀ x ∈ b, x ≠ 255) := ⟨by have := HA.out; rwa [List.take_length] at this⟩
        go_wp2_with ((with_reducible refine Laws.gate 43 rfl ?_); refine Laws.append_any rfl (.const (.slice none 0 0)) (.tmp 42) 22 rfl w.heap.size 5 i0 (.int .u8 0) 1 1 Try.underlying22 HI.out.1 HI.out.2.1 HI.out.2.2.1 HI.out.2.2.2 rfl (by decide) (.slice none 0 0) 0 [] rfl (own_nil _ _ _ _) A b.length c (nums .u8 b) rfl (by simp [nums]) (Laws.row_cells (Kd.C_below HR.out HB1.out)) (fun u hu => by simp [nums] at hu; obtain ⟨x, _, rfl⟩ := hu; rfl) (by simp only [maxLen]; omega) (by omega) HB1.out.size ?_; intro v5 w5 ho5 hg5 hn5 hl5; have HO5 := Aside0.mk (show w5.ownsRow w.heap.size 5 1 v5 (b.length + 5 * 0) (nums .u8 (b ++ rep (251 + wish % 4) 0)) from by simpa [rep] using ho5); have HB5 := Aside0.mk (show Below w.heap.size w w5 from HB1.out.grown hg5 HB1.out.size (fun k h => by cases h)); clear ho5 hg5 hn5 hl5)
        have hm1 : 251 ≤ 251 + wish % 4 := by omega
        have hm2 : 251 + wish % 4 ≤ 254 := by omega
        go_loopw [9, 10] (fun v i wr => ∃ j : Nat, j ≤ N ∧ i = .int .i64 j ∧ Aside0 (wr.ownsRow w.heap.size 5 1 v (b.length + 5 * j) (nums .u8 (b ++ rep (251 + wish % 4) j))) ∧ Aside0 (Below w.heap.size w wr)) (fun _ i _ => N - (intOf i).toNat)
        case atStart => exact ⟨0, Nat.zero_le _, rfl, HO5, HB5⟩
        case round =>
          obtain ⟨j, hj, rfl, HO, HB⟩ := hrel
          by_cases hlt : j < N
          · go_wp2_with ((with_reducible refine Laws.gate 54 rfl ?_); refine Laws.append_any rfl (.tmp 49) (.tmp 53) 22 rfl w.heap.size 5 i0 (.int .u8 0) 1 1 Try.underlying22 HI.out.1 HI.out.2.1 HI.out.2.2.1 HI.out.2.2.2 rfl (by decide) _ _ _ rfl (HO.out.alloc _) (some ⟨wr.heap.size, 0, none⟩) 5 5 (nums .u8 [255, 242, 255, 251 + wish % 4, 7]) rfl rfl (fun _ => ⟨_, rfl, Laws.new_cells wr _ _ _ rfl⟩) (fun u hu => by simp [nums] at hu; rcases hu with h | h | h | h | h <;> subst h <;> rfl) (by simp only [maxLen]; omega) (by omega) (Nat.le_trans HB.out.size (by simp)) ?_; intro v6 w6 ho6 hg6 hn6 hl6; have HO6 := Aside0.mk (show w6.ownsRow w.heap.size 5 1 v6 (b.length + 5 * (j + 1)) (nums .u8 (b ++ rep (251 + wish % 4) (j + 1))) from by rw [rep, show b.length + 5 * (j + 1) = b.length + 5 * j + 5 from by omega]; simpa [nums] using ho6); have HB6 := Aside0.mk (show Below w.heap.size w w6 from ((HB.out.alloc HB.out.size _).grown hg6 (Nat.le_trans HB.out.size (by simp)) (fun k h => Laws.own_ge HO.out k h))); clear ho6 hg6 hn6 hl6)
            go_roundw
            case rel => exact ⟨j + 1, by omega, by go_num, HO6, HB6⟩
            case measure => simp [intOf]; omega
          · obtain rfl : j = N := by omega
            have HF := Aside0.mk (strip_counts b HA2.out (251 + wish % 4) hm1 hm2 j)
            have hsz : (strOfNums b).size + (strOfNums b).size ≤ 9223372036854775807 := by rw [strOfNums_size]; omega
            clear hm1 hm2
            go_wp2_with (first
              | ((with_reducible refine Laws.gate 57 rfl ?_); refine Laws.append_any rfl (.tmp 55) (.tmp 56) 22 rfl w.heap.size 5 i0 (.int .u8 0) 1 1 Try.underlying22 HI.out.1 HI.out.2.1 HI.out.2.2.1 HI.out.2.2.2 rfl (by decide) _ _ _ rfl HO.out A b.length c (nums .u8 b) rfl (by simp [nums]) (Laws.row_cells (Kd.C_below HR.out HB.out)) (fun u hu => by simp [nums] at hu; obtain ⟨x, _, rfl⟩ := hu; rfl) (by simp only [maxLen]; omega) (by omega) HB.out.size ?_; intro v6 w6 ho6 hg6 hn6 hl6; obtain ⟨L, A6, c6, HL, rfl, hc6, HC6⟩ := Laws.own_ints (q := .u8) (l := b ++ rep (251 + wish % 4) j ++ b) (by simpa [nums] using ho6); have HB6 := Aside0.mk (show Below w.heap.size w w6 from (HB.out.grown hg6 HB.out.size (fun k h => Laws.own_ge HO.out k h))); clear ho6 hg6 hn6 hl6)
              | (go_at_call 9; refine (Telnet.strip_calls 0 A6 c6 L _ HC6.out (by rw [HL.out]; simp [rep_length]; omega)).mono ?_; rw [show Telnet.strip 0 L = (0, (j : Int), b ++ b) from by rw [HL.out]; exact HF.out]; rintro e w7 ⟨v7, rfl, hR7, hb7⟩; have HB7 := Aside0.mk (HB6.out.trans (hb7.mono HB6.out.size)); have k7 := row_str hR7 _ (Below.refl _ _); have kb := row_str' (c := c) (Kd.C_below HR.out HB7.out); clear hb7 hR7))
            go_ret
            exact ⟨by simp [Telnet.str_append], HB7.out⟩

def wharfingerlaw05_TelnetNone.f (a0 : Int) : Option Bool := some true
theorem wharfingerlaw05_TelnetNone.calls (a0 : Int) (r : Bool) (w : World) (h : wharfingerlaw05_TelnetNone.f a0 = some r) :
    Calls Try.prog 7 #[.int .i64 a0] w fun e w' => e = .returned (.bool r) ∧ Below w.heap.size w w' := by
  cases h; exact none_walk a0 w
def wharfingerlaw05_TelnetCounts.f (l0 : List Int) (a1 a2 : Int) : Option Bool := if 0 ≤ a1 ∧ a1 ≤ 255 then some true else none
theorem wharfingerlaw05_TelnetCounts.calls (A0 : Option Addr) (c0 : Nat) (l0 : List Int) (a1 a2 : Int) (r : Bool) (w : World) (hr0 : Kd.C (Kd.int .u8) w A0 l0.length l0) (hc0 : l0.length ≤ c0) (h : wharfingerlaw05_TelnetCounts.f l0 a1 a2 = some r) :
    Calls Try.prog 6 #[.slice A0 l0.length c0, .int .u8 a1, .int .i64 a2] w fun e w' => e = .returned (.bool r) ∧ Below w.heap.size w w' := by
  unfold wharfingerlaw05_TelnetCounts.f at h
  split at h
  · rename_i hw
    cases h; exact counts_walk A0 c0 l0 a1 a2 w hr0 hw.1 hw.2
  · cases h

end Go.Proofs.Ytoeknbnchmpklaa.TelnetLaws
