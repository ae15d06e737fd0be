/- The contracts of package pool's functions: which port is picked of some that are not busy, and how many are free. -/
import Derived.Test.YtjfddeflkehccaaWMore
import Derived.Test.YtjfddeflkehccaaWNEv
import Derived.Test.YtjfddeflkehccaaMap
import Derived.Test.YtjfddeflkehccaaProg
namespace Go.Proofs.Ytjfddeflkehccaa.Pool
open Go Go.RowKit Go.Proofs.YtjfddeflkehccaaW.PrintWords Go.Proofs.YtjfddeflkehccaaW.PrintLast Go.Proofs.YtjfddeflkehccaaW.PrintMore
set_option linter.unusedVariables false
set_option linter.unusedSimpArgs false

theorem key3 : MapLaw.KeyOk Try.prog 3 (Value.int .i64) := MapLaw.int_key Try.underlying3
theorem zero4 (w : World) : (zeroValue 4).run Try.prog w = .ok (.bool false) w := by kernel_rfl

/-- What the first k of a list leave in the set. -/
def ofl (l : List Int) (low high : Int) (k : Nat) : List (Int × Value) := (l.take k).foldl (fun m p => if p ≥ low ∧ p ≤ high then MapLaw.put p (.bool true) m else m) []

theorem ofl_step (l : List Int) (low high : Int) (k : Nat) (h : k < l.length) : ofl l low high (k + 1) = if rd l k ≥ low ∧ rd l k ≤ high then MapLaw.put (rd l k) (.bool true) (ofl l low high k) else ofl l low high k := by
  unfold ofl
  rw [List.take_succ_eq_append_getElem h, List.foldl_append]
  have : rd l k = l[k] := by simp [rd, List.getD, h]
  rw [this]; rfl

set_option maxRecDepth 100000 in
theorem of_calls (A : Option Addr) (c : Nat) (l : List Int) (low high : Int) (w : World) (hr : Kd.C (Kd.int .i64) w A l.length l) :
    Calls Try.prog 15 #[.slice A l.length c, .int .i64 low, .int .i64 high] w fun e w' =>
      e = .returned (.map (some w.heap.size)) ∧ MapLaw.Is (Value.int .i64) w' w.heap.size (ofl l low high l.length) ∧ Below w.heap.size w w' := by
  have hmm := @run_makeMap Try.prog
  have HR := Aside0.mk hr
  have hlen : l.length ≤ 9223372036854775807 := hr.2.1
  clear hr
  go_enter Try.func15, Try.ntmps15
  go_wp2
  go_loopw [13] (fun i wr => ∃ k : Nat, k ≤ l.length ∧ i = .int .i64 k ∧ MapLaw.Is (Value.int .i64) wr w.heap.size (ofl l low high k) ∧ Below w.heap.size w wr)
    (fun i _ => l.length - (intOf i).toNat)
  case atStart => exact ⟨0, Nat.zero_le _, rfl, MapLaw.Is.made _ _, (Below.refl _ _).alloc (Nat.le_refl _) _⟩
  case round =>
    obtain ⟨k, hk, rfl, hm, hb⟩ := hrel
    have HM := Aside0.mk hm
    have HB := Aside0.mk hb
    clear hm hb
    by_cases hlt : k < l.length
    · have hs := Aside0.mk (ofl_step l low high k hlt)
      obtain ⟨ad, e1, hx⟩ := Kd.at_int (Kd.C_below HR.out HB.out) k (by omega) (by omega)
      cases e1
      rw [Int.toNat_natCast] at hx
      by_cases h1 : low ≤ rd l k
      · have d1 : decide (low ≤ rd l k) = true := decide_eq_true h1
        by_cases h2 : rd l k ≤ high
        · have d2 : decide (rd l k ≤ high) = true := decide_eq_true h2
          go_wp2_with (at_mapUpdate; refine MapLaw.wp_update _ rfl _ _ _ 34 4 rfl key3 Try.underlying34 rfl HM.out (rd l k) rfl _ rfl ?_; intro w1 hm1 hg1)
          go_roundw
          case rel => exact ⟨k + 1, by omega, by go_num, by rw [hs.out, if_pos ⟨h1, h2⟩]; exact hm1, HB.out.grown hg1 HB.out.size (fun j hj => by cases hj; exact Nat.le_refl _)⟩
          case measure => simp [intOf]; omega
        · have d2 : decide (rd l k ≤ high) = false := decide_eq_false h2
          go_wp2
          go_roundw
          case rel => exact ⟨k + 1, by omega, by go_num, by rw [hs.out, if_neg (by omega)]; exact HM.out, HB.out⟩
          case measure => simp [intOf]; omega
      · have d1 : decide (low ≤ rd l k) = false := decide_eq_false h1
        go_wp2
        go_roundw
        case rel => exact ⟨k + 1, by omega, by go_num, by rw [hs.out, if_neg (by omega)]; exact HM.out, HB.out⟩
        case measure => simp [intOf]; omega
    · obtain rfl : k = l.length := by omega
      go_wp2
      go_ret
      exact ⟨rfl, HM.out, HB.out⟩


/-- Whether ports may be. -/
def may (low high : Int) : Bool := decide (1024 ≤ low ∧ low ≤ high ∧ high ≤ 65535)
theorem may_calls (low high : Int) (b : Bool) (w : World) (h : may low high = b) : Calls Try.prog 14 #[.int .i64 low, .int .i64 high] w fun e w' => e = .returned (.bool b) ∧ w = w' := by
  subst h
  unfold may
  have HG := Aside0.mk (show (decide (1024 ≤ low) && decide (low ≤ high) && decide (high ≤ 65535)) = decide (1024 ≤ low ∧ low ≤ high ∧ high ≤ 65535) by simp [Bool.and_assoc])
  by_cases h1 : 1024 ≤ low
  · have d1 : decide (1024 ≤ low) = true := decide_eq_true h1
    by_cases h2 : low ≤ high
    · have d2 : decide (low ≤ high) = true := decide_eq_true h2
      go_enter Try.func14, Try.ntmps14
      go_wp2
      go_ret
      exact ⟨by first | (rw [← HG.out]; simp [h1, h2]; done) | simp, rfl⟩
    · have d2 : decide (low ≤ high) = false := decide_eq_false h2
      go_enter Try.func14, Try.ntmps14
      go_wp2
      go_ret
      exact ⟨by first | (rw [← HG.out]; simp [h2]; done) | simp, rfl⟩
  · have d1 : decide (1024 ≤ low) = false := decide_eq_false h1
    go_enter Try.func14, Try.ntmps14
    go_wp2
    go_ret
    exact ⟨by first | (rw [← HG.out]; simp [h1]; done) | simp, rfl⟩

theorem at_ofl (l : List Int) (low high p : Int) (k : Nat) : MapLaw.at_ p (ofl l low high k) = if p ∈ l.take k ∧ low ≤ p ∧ p ≤ high then some (.bool true) else none := by
  unfold ofl
  generalize l.take k = q
  suffices h : ∀ (q : List Int) (m : List (Int × Value)), MapLaw.at_ p (q.foldl (fun m p => if p ≥ low ∧ p ≤ high then MapLaw.put p (.bool true) m else m) m) = if p ∈ q ∧ low ≤ p ∧ p ≤ high then some (.bool true) else MapLaw.at_ p m by
    rw [h q []]; rfl
  intro q
  induction q with
  | nil => intro m; simp
  | cons x q ih =>
    intro m
    rw [List.foldl_cons, ih]
    by_cases hx : x ≥ low ∧ x ≤ high
    · rw [if_pos hx, MapLaw.at_put]
      by_cases e : p = x
      · subst e
        simp only [if_true, List.mem_cons, true_or, true_and]
        rw [if_pos (show low ≤ p ∧ p ≤ high from hx)]
        split <;> rfl
      · simp [e]
    · rw [if_neg hx]
      by_cases e : p = x
      · subst e
        rw [if_neg (by intro h; exact hx h.2), if_neg (by intro h; exact hx h.2)]
      · simp [e]

/-- The port that is picked: the first one that is not busy, from place k on. -/
def scan (l : List Int) (low n at_ : Int) : Nat → Int → Int × Bool
  | 0, _ => (0, false)
  | d + 1, k => if low + (at_ + k) % n ∈ l then scan l low n at_ d (k + 1) else (low + (at_ + k) % n, true)

def pick (low high draw : Int) (l : List Int) : Int × Bool := if may low high then scan l low (high - low + 1) (draw % (high - low + 1)) (high - low + 1).toNat 0 else (0, false)

theorem emod_of_tmod (d n : Int) (h : 0 < n) : (d.tmod n + n) % n = d % n := by
  have h1 := Int.tmod_lt_of_pos d h
  have h2 : -n < d.tmod n := by
    rcases Int.le_total 0 d with h | h
    · have := Int.tmod_nonneg n h; omega
    · have h3 := Int.tmod_lt_of_pos (-d) ‹0 < n›
      rw [Int.neg_tmod] at h3; omega
  have h3 : d % n = (d.tmod n + n) % n := by
    rw [Int.add_emod_right]
    have h4 := Int.tmod_add_mul_tdiv d n
    conv => lhs; rw [← h4]
    rw [Int.add_mul_emod_self_left]
  rw [h3]

set_option maxRecDepth 100000 in
theorem pick_calls (low high draw : Int) (A : Option Addr) (c : Nat) (l : List Int) (w : World) (hr : Kd.C (Kd.int .i64) w A l.length l) :
    Calls Try.prog 9 #[.int .i64 low, .int .i64 high, .int .i64 draw, .slice A l.length c] w fun e w' =>
      e = .returned (.tuple #[.int .i64 (pick low high draw l).1, .bool (pick low high draw l).2]) ∧ Below w.heap.size w w' := by
  by_cases hm : may low high = true
  · have HR := Aside0.mk hr
    have HM := Aside0.mk hm
    have hp : pick low high draw l = scan l low (high - low + 1) (draw % (high - low + 1)) (high - low + 1).toNat 0 := by unfold pick; rw [if_pos hm]
    rw [hp]
    clear hp hr
    generalize hR : scan l low (high - low + 1) (draw % (high - low + 1)) (high - low + 1).toNat 0 = R
    have HT := Aside0.mk hR
    clear hR
    have hm2 := of_decide_eq_true hm
    clear hm
    obtain ⟨b1, b2, b3⟩ := hm2
    have t1 : draw.tmod (high - low + 1) < high - low + 1 := Int.tmod_lt_of_pos _ (by omega)
    have t2 : -(high - low + 1) < draw.tmod (high - low + 1) := by
      rcases Int.le_total 0 draw with h | h
      · have := Int.tmod_nonneg (high - low + 1) h; omega
      · have h3 := Int.tmod_lt_of_pos (-draw) (show 0 < high - low + 1 by omega)
        rw [Int.neg_tmod] at h3; omega
    have HE := Aside0.mk (emod_of_tmod draw (high - low + 1) (by omega))
    have z1 : (high - low + 1 == 0) = false := by simp; omega
    go_enter Try.func9, Try.ntmps9
    go_wp2_with (first
      | (go_at_call 14; refine (may_calls low high true _ HM.out).mono ?_; rintro e w' ⟨rfl, rfl⟩)
      | (go_at_call 15; refine (of_calls _ _ l low high _ HR.out).mono ?_; rintro e w1 ⟨rfl, hm1, hb1⟩))
    rw [HE.out]
    have q1 : 0 ≤ draw % (high - low + 1) := Int.emod_nonneg _ (by omega)
    have q2 : draw % (high - low + 1) < high - low + 1 := Int.emod_lt_of_pos _ (by omega)
    clear HE t1 t2
    generalize draw % (high - low + 1) = q at *
    have HB := Aside0.mk hb1
    have HS := Aside0.mk hm1
    clear hb1 hm1
    go_loop [35] (fun i => ∃ k : Nat, (k : Int) ≤ high - low + 1 ∧ i = .int .i64 k ∧ Aside0 (scan l low (high - low + 1) q (high - low + 1 - k).toNat k = R)) (fun i => (high - low + 1 - intOf i).toNat)
    case atStart => exact ⟨0, by omega, rfl, ⟨by rw [← HT.out]; simp⟩⟩
    case round =>
      obtain ⟨k, hk, rfl, HA⟩ := hrel
      by_cases hlt : (k : Int) < high - low + 1
      · have r1 : 0 ≤ (q + k) % (high - low + 1) := Int.emod_nonneg _ (by omega)
        have r2 : (q + k) % (high - low + 1) < high - low + 1 := Int.emod_lt_of_pos _ (by omega)
        have HN : Aside0 (MapLaw.at_ (low + (q + k) % (high - low + 1)) (ofl l low high l.length) = if low + (q + k) % (high - low + 1) ∈ l then some (.bool true) else none) := ⟨by
          rw [at_ofl, List.take_length]
          by_cases h : low + (q + k) % (high - low + 1) ∈ l
          · rw [if_pos h, if_pos ⟨h, by omega, by omega⟩]
          · rw [if_neg h, if_neg (fun h' => h h'.1)]⟩
        have HV : Aside0 (scan l low (high - low + 1) q (high - low + 1 - k).toNat k = if low + (q + k) % (high - low + 1) ∈ l then scan l low (high - low + 1) q (high - low + 1 - (k + 1 : Nat)).toNat (k + 1 : Nat) else (low + (q + k) % (high - low + 1), true)) := ⟨by
          obtain ⟨d, hd⟩ : ∃ d, (high - low + 1 - k).toNat = d + 1 := ⟨(high - low + 1 - k).toNat - 1, by omega⟩
          rw [hd, scan, show (high - low + 1 - (k + 1 : Nat)).toNat = d from by omega]
          rfl⟩
        by_cases hin : low + (q + k) % (high - low + 1) ∈ l
        · have HN1 : Aside0 _ := ⟨HN.out.trans (if_pos hin)⟩
          have HV1 : Aside0 _ := ⟨HV.out.trans (if_pos hin)⟩
          clear HN HV
          go_wp2_with (at_lookup; refine MapLaw.wp_lookup _ rfl _ _ 34 4 false rfl key3 Try.underlying34 (zero4 _) rfl HS.out (low + (q + k) % (high - low + 1)) rfl ?_; rw [HN1.out])
          go_round
          case rel => exact ⟨k + 1, by omega, by go_num, ⟨HV1.out.symm.trans HA.out⟩⟩
          case measure => simp [intOf]; omega
        · have HN1 : Aside0 _ := ⟨HN.out.trans (if_neg hin)⟩
          have HV1 : Aside0 _ := ⟨HV.out.trans (if_neg hin)⟩
          clear HN HV
          go_wp2_with (at_lookup; refine MapLaw.wp_lookup _ rfl _ _ 34 4 false rfl key3 Try.underlying34 (zero4 _) rfl HS.out (low + (q + k) % (high - low + 1)) rfl ?_; rw [HN1.out])
          go_ret2
          exact ⟨by rw [← HA.out, HV1.out]; rfl, HB.out⟩
      · go_wp2
        go_ret2
        exact ⟨by rw [← HA.out, show (high - low + 1 - (k : Int)).toNat = 0 from by omega]; rfl, HB.out⟩
  · have HM : Aside0 (may low high = false) := Aside0.mk (Bool.eq_false_iff.2 hm)
    have hp : pick low high draw l = (0, false) := by unfold pick; rw [if_neg hm]
    rw [hp]
    clear hm hp
    go_enter Try.func9, Try.ntmps9
    go_wp2_with (go_at_call 14; refine (may_calls low high false _ HM.out).mono ?_; rintro e w' ⟨rfl, rfl⟩)
    go_ret2
    exact ⟨rfl, Below.refl _ _⟩

/-- How many are free. -/
def free (low high : Int) (l : List Int) : Int := if may low high then high - low + 1 - (ofl l low high l.length).length else 0

theorem ofl_length (l : List Int) (low high : Int) (k : Nat) : (ofl l low high k).length ≤ k := by
  unfold ofl
  suffices h : ∀ (q : List Int) (m : List (Int × Value)), (q.foldl (fun m p => if p ≥ low ∧ p ≤ high then MapLaw.put p (.bool true) m else m) m).length ≤ m.length + q.length by
    have := h (l.take k) []
    have := List.length_take_le k l
    simp at *; omega
  intro q
  induction q with
  | nil => intro m; simp
  | cons x q ih =>
    intro m
    rw [List.foldl_cons]
    refine Nat.le_trans (ih _) ?_
    split
    · rw [MapLaw.length_put]; split <;> simp <;> omega
    · simp

set_option maxRecDepth 100000 in
theorem free_calls (low high : Int) (A : Option Addr) (c : Nat) (l : List Int) (w : World) (hr : Kd.C (Kd.int .i64) w A l.length l) (hl : l.length ≤ 1000) :
    Calls Try.prog 11 #[.int .i64 low, .int .i64 high, .slice A l.length c] w fun e w' =>
      e = .returned (.int .i64 (free low high l)) ∧ Below w.heap.size w w' := by
  by_cases hm : may low high = true
  · have HR := Aside0.mk hr
    have HM := Aside0.mk hm
    have hp : free low high l = high - low + 1 - (ofl l low high l.length).length := by unfold free; rw [if_pos hm]
    rw [hp]
    clear hp hr
    have hm2 := of_decide_eq_true hm
    clear hm
    obtain ⟨b1, b2, b3⟩ := hm2
    have h4 : (ofl l low high l.length).length ≤ 1000 := Nat.le_trans (ofl_length _ _ _ _) hl
    go_enter Try.func11, Try.ntmps11
    go_wp2_with (first
      | (go_at_call 14; refine (may_calls low high true _ HM.out).mono ?_; rintro e w' ⟨rfl, rfl⟩)
      | (go_at_call 15; refine (of_calls _ _ l low high _ HR.out).mono ?_; rintro e w1 ⟨rfl, hm1, hb1⟩; have HS := Aside0.mk hm1; have HB := Aside0.mk hb1; clear hm1 hb1)
      | (at_len; refine MapLaw.wp_len _ rfl _ 34 4 rfl Try.underlying34 rfl HS.out ?_))

    go_ret
    exact ⟨rfl, HB.out⟩
  · have HM : Aside0 (may low high = false) := Aside0.mk (Bool.eq_false_iff.2 hm)
    have hp : free low high l = 0 := by unfold free; rw [if_neg hm]
    rw [hp]
    clear hm hp
    go_enter Try.func11, Try.ntmps11
    go_wp2_with (go_at_call 14; refine (may_calls low high false _ HM.out).mono ?_; rintro e w' ⟨rfl, rfl⟩)
    go_ret
    exact ⟨rfl, Below.refl _ _⟩

end Go.Proofs.Ytjfddeflkehccaa.Pool
