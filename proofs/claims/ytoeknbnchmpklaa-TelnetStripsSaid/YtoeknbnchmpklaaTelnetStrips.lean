/- The walk of TelnetStrips. -/
import Derived.Test.YtoeknbnchmpklaaPureTelnetRef
import Derived.Test.YtoeknbnchmpklaaLib
import Derived.Deep.RegionWith
import Derived.Test.YtoeknbnchmpklaaRegn
set_option linter.unusedVariables false
set_option linter.unusedSimpArgs false
namespace Go.Proofs.Ytoeknbnchmpklaa.TelnetStrips
open Go Go.RowKit Go.Proofs.Ytoeknbnchmpklaa.TelnetExt Go.Proofs.Ytoeknbnchmpklaa.Q Go.Proofs.YtoeknbnchmpklaaW.PrintWords Go.Proofs.YtoeknbnchmpklaaW.PrintLast Go.Proofs.YtoeknbnchmpklaaW.PrintMore

/-- A row that was made, as it is read: its text. -/
theorem row_str {w : World} {b : Nat} {ok : Nat → Prop} {v : Value} {l : List Int} (h : Kd.R (Kd.int .u8) 5 w b ok v l) : ∀ W : World, Below w.heap.size w W → (convert 22 9 v).run Try.prog W = .ok (.string (strOfNums l)) W := by
  intro W hW
  obtain ⟨A, c, rfl, _, hC⟩ := Kd.R_reads h
  exact string_of_reads Try.underlying22 Try.underlying5 Try.underlying9 (Kd.reads_of_C (d := (0 : Int)) (h1 := fun _ => rfl) (Kd.C_below hC hW))

theorem eq_ints (s : Int) (x y : Operand) {W : World} : (do eqGuard .eql 3 x y (.int .i64 s) (.int .i64 s); binOp .eql 3 (.int .i64 s) (.int .i64 s) : Sem Value).run Try.prog W = .ok (.bool true) W := by
  go_simp
theorem eq_strs (s : ByteArray) (x y : Operand) {W : World} : (do eqGuard .eql 9 x y (.string s) (.string s); binOp .eql 9 (.string s) (.string s) : Sem Value).run Try.prog W = .ok (.bool true) W := by
  go_simp

/-- What each operation of the last region leaves. -/
def E6 (s1 n1 : Int) (v2 v3 : Value) (A : Option Addr) (c : Nat) (l x1 el : List Int) (i : Nat) (v : Value) : Prop := match i with
  | 0 | 1 => v = .int .i64 s1
  | 4 => v = v2
  | 6 => v = v3
  | 5 | 7 => v = .string (strOfNums x1)
  | 11 | 12 => v = .int .i64 n1
  | 16 | 19 => v = .slice A l.length c
  | 17 | 20 => True
  | 18 | 21 => v = .string (strOfNums el)
  | _ => v = .bool true
def F6 (s1 n1 : Int) (v2 v3 : Value) (A : Option Addr) (c : Nat) (l x1 el : List Int) (i : Nat) (v : Value) (W : World) : Prop :=
  E6 s1 n1 v2 v3 A c l x1 el i v ∧ (i = 17 ∨ i = 20 → ∃ b, Kd.R (Kd.int .u8) 5 W b (fun _ => True) v el)
theorem F6_stab {s1 n1 : Int} {v2 v3 : Value} {A : Option Addr} {c : Nat} {l x1 el : List Int} {i : Nat} {v : Value} {W W' : World} (h : F6 s1 n1 v2 v3 A c l x1 el i v W) (hb : Below W.heap.size W W') : F6 s1 n1 v2 v3 A c l x1 el i v W' :=
  ⟨h.1, fun hi => (h.2 hi).imp fun _ hr => Kd.R_below hr hb⟩

set_option maxHeartbeats 2000000 in
set_option maxRecDepth 100000 in
theorem strips_walk (st : Int) (A : Option Addr) (c : Nat) (l : List Int) (w : World) (hr : Kd.C (Kd.int .u8) w A l.length l) (hc : l.length ≤ c) :
    Calls Try.prog 3 #[.int .i64 st, .slice A l.length c] w fun e w' => e = .returned (.bool true) ∧ Below w.heap.size w w' := by
  have HR := Aside0.mk hr
  have HC := Aside0.mk hc
  clear hr hc
  by_cases hl : 500 < l.length
  · have d1 : decide (500 < l.length) = true := decide_eq_true hl
    go_enter Try.func3, Try.ntmps3
    go_wp2_with (go_at_call 8; refine (wharfingerlaw05_awake.calls 1000 true _ Pure.awake).mono ?_; rintro e w1 ⟨rfl, hb1⟩; have HB1 := Aside0.mk hb1; clear hb1)
    go_ret
    exact ⟨rfl, HB1.out⟩
  · have d1 : decide (500 < l.length) = false := decide_eq_false hl
    have hl2 : l.length ≤ 500 := by omega
    clear hl
    obtain ⟨s1, n1, x1, hst⟩ : ∃ s1 n1 x1, Telnet.strip st l = (s1, n1, x1) := ⟨_, _, _, rfl⟩
    have HS0 := Aside0.mk (show ∀ W : World, Below w.heap.size w W → Calls Try.prog 9 #[.int .i64 st, .slice A l.length c] W fun e w' => ∃ v : Value, e = .returned (.tuple #[.int .i64 s1, v, .int .i64 n1]) ∧ Kd.R (Kd.int .u8) 5 w' W.heap.size (fun _ => True) v x1 ∧ Below W.heap.size W w' from
      fun W hW => by have := Telnet.strip_calls st _ c l W (Kd.C_below HR.out hW) (by omega); rw [hst] at this; exact this)
    have HS := Aside0.mk (show ∀ W : World, Below w.heap.size w W → Calls Try.prog 10 #[.int .i64 st, .slice A l.length c] W fun e w' => ∃ v : Value, e = .returned (.tuple #[.int .i64 s1, v, .int .i64 n1]) ∧ Kd.R (Kd.int .u8) 5 w' W.heap.size (fun _ => True) v x1 ∧ Below W.heap.size W w' from
      fun W hW => by
        have h := Pure.rstrip st l (by omega) 10000 (by omega)
        rw [hst] at h
        exact wharfingerref05_Strip.calls 10000 st _ c l s1 x1 n1 W (Kd.C_below HR.out hW) HC.out h)
    have HE := Aside0.mk (show ∀ W : World, Below w.heap.size w W → Calls Try.prog 12 #[.slice A l.length c] W fun e w' => ∃ v : Value, e = .returned v ∧ Kd.R (Kd.int .u8) 5 w' W.heap.size (fun _ => True) v (Telnet.esc l) ∧ Below W.heap.size W w' from
      fun W hW => wharfingerref05_Escape.calls 10000 _ _ l _ _ (Kd.C_below HR.out hW) HC.out (Pure.rescape l (by omega) _ (by omega)))
    have HE2 := Aside0.mk (show ∀ W : World, Below w.heap.size w W → Calls Try.prog 11 #[.slice A l.length c] W fun e w' => ∃ v : Value, e = .returned v ∧ Kd.R (Kd.int .u8) 5 w' W.heap.size (fun _ => True) v (Telnet.esc l) ∧ Below W.heap.size W w' from
      fun W hW => telnet_Escape.calls 10000 _ _ l _ _ (Kd.C_below HR.out hW) HC.out (Pure.escape l (by omega) _ (by omega)))
    obtain ⟨el, hel⟩ : ∃ el, el = Telnet.esc l := ⟨_, rfl⟩
    rw [← hel] at HE HE2
    clear hel hst
    go_enter Try.func3, Try.ntmps3
    go_wp2_with (first
      | (go_at_call 8; refine (wharfingerlaw05_awake.calls 1000 true _ Pure.awake).mono ?_; rintro e w1 ⟨rfl, hb1⟩; have HB1 := Aside0.mk hb1; clear hb1)
      | (go_at_call 9; refine (HS0.out _ HB1.out).mono ?_; rintro e w2 ⟨v2, rfl, hR2, hb2⟩; have HB2 := Aside0.mk (HB1.out.trans (hb2.mono HB1.out.size)); have HR2 := Aside0.mk hR2; clear hb2 hR2)
      | (go_at_call 10; refine (HS.out _ HB2.out).mono ?_; rintro e w3 ⟨v3, rfl, hR3, hb3⟩; have HB3 := Aside0.mk (HB2.out.trans (hb3.mono HB2.out.size)); have k3 := row_str hR3; have k2 := row_str (Kd.R_below HR2.out hb3); clear hb3 hR3))
    clear HS HS0
    refine Regn.wp_region_known (n := 59) (F6 s1 n1 v2 v3 A c l x1 el) (fun W => Below w3.heap.size w3 W) (by kernel_rfl) (by kernel_rfl) (by kernel_rfl) (by kernel_rfl) ?c0 ?c1 ?c3 ?c4
    case c0 => exact (Below.refl _ _).drew
    case c1 => exact fun i v W W' h hb => F6_stab h hb
    case c3 =>
      intro i o ho val W a G1 G2 hC hF
      match i, ho, G1, hF with
      | 0, ho, G1, hF =>
        obtain rfl := Option.some.inj ho
        exact Regn.opIs_value (v := .int .i64 s1) rfl (Regn.run_move (.inl rfl) ((G2 6 (by kernel_rfl)).trans rfl)) ⟨hC, Below.refl _ _, rfl, fun h => by simp at h⟩
      | 1, ho, G1, hF =>
        obtain rfl := Option.some.inj ho
        exact Regn.opIs_value (v := .int .i64 s1) rfl (Regn.run_move (.inl rfl) ((G2 9 (by kernel_rfl)).trans rfl)) ⟨hC, Below.refl _ _, rfl, fun h => by simp at h⟩
      | 2, ho, G1, hF =>
        obtain rfl := Option.some.inj ho
        have h0 : val 0 = .int .i64 s1 := (hF 0 (by kernel_rfl)).1
        have g0 := G1 0 35 (by kernel_rfl) rfl
        have h1 : val 1 = .int .i64 s1 := (hF 1 (by kernel_rfl)).1
        have g1 := G1 1 36 (by kernel_rfl) rfl
        exact Regn.opIs_value (v := .bool true) rfl (Regn.run_bin rfl (g0.1.trans h0) (g1.1.trans h1) (eq_ints _ _ _)) ⟨hC, Below.refl _ _, rfl, fun h => by simp at h⟩
      | 3, ho, G1, hF =>
        obtain rfl := Option.some.inj ho
        have h2 : val 2 = .bool true := (hF 2 (by kernel_rfl)).1
        have g2 := G1 2 37 (by kernel_rfl) rfl
        exact Regn.opIs_value (v := .bool true) rfl (Regn.run_move (.inl rfl) (g2.1.trans h2)) ⟨hC, Below.refl _ _, rfl, fun h => by simp at h⟩
      | 4, ho, G1, hF =>
        obtain rfl := Option.some.inj ho
        have h3 : val 3 = .bool true := (hF 3 (by kernel_rfl)).1
        have g3 := G1 3 38 (by kernel_rfl) rfl
        exact Regn.opIs_value (v := v2) (Regn.wanted_of (g := 3) (b := true) rfl (Regn.yielded_of (t := 38) (v := val 3) rfl g3.2 h3)) (Regn.run_move (.inl rfl) ((G2 7 (by kernel_rfl)).trans rfl)) ⟨hC, Below.refl _ _, rfl, fun h => by simp at h⟩
      | 5, ho, G1, hF =>
        obtain rfl := Option.some.inj ho
        have h3 : val 3 = .bool true := (hF 3 (by kernel_rfl)).1
        have g3 := G1 3 38 (by kernel_rfl) rfl
        have h4 : val 4 = v2 := (hF 4 (by kernel_rfl)).1
        have g4 := G1 4 39 (by kernel_rfl) rfl
        exact Regn.opIs_value (v := .string (strOfNums x1)) (Regn.wanted_of (g := 3) (b := true) rfl (Regn.yielded_of (t := 38) (v := val 3) rfl g3.2 h3)) (Regn.run_conv rfl g4.1 (h4 ▸ k2 _ hC)) ⟨hC, Below.refl _ _, rfl, fun h => by simp at h⟩
      | 6, ho, G1, hF =>
        obtain rfl := Option.some.inj ho
        have h3 : val 3 = .bool true := (hF 3 (by kernel_rfl)).1
        have g3 := G1 3 38 (by kernel_rfl) rfl
        exact Regn.opIs_value (v := v3) (Regn.wanted_of (g := 3) (b := true) rfl (Regn.yielded_of (t := 38) (v := val 3) rfl g3.2 h3)) (Regn.run_move (.inl rfl) ((G2 10 (by kernel_rfl)).trans rfl)) ⟨hC, Below.refl _ _, rfl, fun h => by simp at h⟩
      | 7, ho, G1, hF =>
        obtain rfl := Option.some.inj ho
        have h3 : val 3 = .bool true := (hF 3 (by kernel_rfl)).1
        have g3 := G1 3 38 (by kernel_rfl) rfl
        have h6 : val 6 = v3 := (hF 6 (by kernel_rfl)).1
        have g6 := G1 6 41 (by kernel_rfl) rfl
        exact Regn.opIs_value (v := .string (strOfNums x1)) (Regn.wanted_of (g := 3) (b := true) rfl (Regn.yielded_of (t := 38) (v := val 3) rfl g3.2 h3)) (Regn.run_conv rfl g6.1 (h6 ▸ k3 _ hC)) ⟨hC, Below.refl _ _, rfl, fun h => by simp at h⟩
      | 8, ho, G1, hF =>
        obtain rfl := Option.some.inj ho
        have h3 : val 3 = .bool true := (hF 3 (by kernel_rfl)).1
        have g3 := G1 3 38 (by kernel_rfl) rfl
        have h5 : val 5 = .string (strOfNums x1) := (hF 5 (by kernel_rfl)).1
        have g5 := G1 5 40 (by kernel_rfl) rfl
        have h7 : val 7 = .string (strOfNums x1) := (hF 7 (by kernel_rfl)).1
        have g7 := G1 7 42 (by kernel_rfl) rfl
        exact Regn.opIs_value (v := .bool true) (Regn.wanted_of (g := 3) (b := true) rfl (Regn.yielded_of (t := 38) (v := val 3) rfl g3.2 h3)) (Regn.run_bin rfl (g5.1.trans h5) (g7.1.trans h7) (eq_strs _ _ _)) ⟨hC, Below.refl _ _, rfl, fun h => by simp at h⟩
      | 9, ho, G1, hF =>
        obtain rfl := Option.some.inj ho
        have h3 : val 3 = .bool true := (hF 3 (by kernel_rfl)).1
        have g3 := G1 3 38 (by kernel_rfl) rfl
        have h8 : val 8 = .bool true := (hF 8 (by kernel_rfl)).1
        have g8 := G1 8 43 (by kernel_rfl) rfl
        exact Regn.opIs_value (v := .bool true) rfl (Regn.run_pick rfl (g3.1.trans h3) (g8.1.trans h8)) ⟨hC, Below.refl _ _, rfl, fun h => by simp at h⟩
      | 10, ho, G1, hF =>
        obtain rfl := Option.some.inj ho
        have h9 : val 9 = .bool true := (hF 9 (by kernel_rfl)).1
        have g9 := G1 9 44 (by kernel_rfl) rfl
        exact Regn.opIs_value (v := .bool true) rfl (Regn.run_move (.inl rfl) (g9.1.trans h9)) ⟨hC, Below.refl _ _, rfl, fun h => by simp at h⟩
      | 11, ho, G1, hF =>
        obtain rfl := Option.some.inj ho
        have h10 : val 10 = .bool true := (hF 10 (by kernel_rfl)).1
        have g10 := G1 10 45 (by kernel_rfl) rfl
        exact Regn.opIs_value (v := .int .i64 n1) (Regn.wanted_of (g := 10) (b := true) rfl (Regn.yielded_of (t := 45) (v := val 10) rfl g10.2 h10)) (Regn.run_move (.inl rfl) ((G2 8 (by kernel_rfl)).trans rfl)) ⟨hC, Below.refl _ _, rfl, fun h => by simp at h⟩
      | 12, ho, G1, hF =>
        obtain rfl := Option.some.inj ho
        have h10 : val 10 = .bool true := (hF 10 (by kernel_rfl)).1
        have g10 := G1 10 45 (by kernel_rfl) rfl
        exact Regn.opIs_value (v := .int .i64 n1) (Regn.wanted_of (g := 10) (b := true) rfl (Regn.yielded_of (t := 45) (v := val 10) rfl g10.2 h10)) (Regn.run_move (.inl rfl) ((G2 11 (by kernel_rfl)).trans rfl)) ⟨hC, Below.refl _ _, rfl, fun h => by simp at h⟩
      | 13, ho, G1, hF =>
        obtain rfl := Option.some.inj ho
        have h10 : val 10 = .bool true := (hF 10 (by kernel_rfl)).1
        have g10 := G1 10 45 (by kernel_rfl) rfl
        have h11 : val 11 = .int .i64 n1 := (hF 11 (by kernel_rfl)).1
        have g11 := G1 11 46 (by kernel_rfl) rfl
        have h12 : val 12 = .int .i64 n1 := (hF 12 (by kernel_rfl)).1
        have g12 := G1 12 47 (by kernel_rfl) rfl
        exact Regn.opIs_value (v := .bool true) (Regn.wanted_of (g := 10) (b := true) rfl (Regn.yielded_of (t := 45) (v := val 10) rfl g10.2 h10)) (Regn.run_bin rfl (g11.1.trans h11) (g12.1.trans h12) (eq_ints _ _ _)) ⟨hC, Below.refl _ _, rfl, fun h => by simp at h⟩
      | 14, ho, G1, hF =>
        obtain rfl := Option.some.inj ho
        have h10 : val 10 = .bool true := (hF 10 (by kernel_rfl)).1
        have g10 := G1 10 45 (by kernel_rfl) rfl
        have h13 : val 13 = .bool true := (hF 13 (by kernel_rfl)).1
        have g13 := G1 13 48 (by kernel_rfl) rfl
        exact Regn.opIs_value (v := .bool true) rfl (Regn.run_pick rfl (g10.1.trans h10) (g13.1.trans h13)) ⟨hC, Below.refl _ _, rfl, fun h => by simp at h⟩
      | 15, ho, G1, hF =>
        obtain rfl := Option.some.inj ho
        have h14 : val 14 = .bool true := (hF 14 (by kernel_rfl)).1
        have g14 := G1 14 49 (by kernel_rfl) rfl
        exact Regn.opIs_value (v := .bool true) rfl (Regn.run_move (.inl rfl) (g14.1.trans h14)) ⟨hC, Below.refl _ _, rfl, fun h => by simp at h⟩
      | 16, ho, G1, hF =>
        obtain rfl := Option.some.inj ho
        have h15 : val 15 = .bool true := (hF 15 (by kernel_rfl)).1
        have g15 := G1 15 50 (by kernel_rfl) rfl
        exact Regn.opIs_value (v := .slice A l.length c) (Regn.wanted_of (g := 15) (b := true) rfl (Regn.yielded_of (t := 50) (v := val 15) rfl g15.2 h15)) (Regn.run_move (.inl rfl) ((G2 1 (by kernel_rfl)).trans rfl)) ⟨hC, Below.refl _ _, rfl, fun h => by simp at h⟩
      | 17, ho, G1, hF =>
        obtain rfl := Option.some.inj ho
        have h15 : val 15 = .bool true := (hF 15 (by kernel_rfl)).1
        have g15 := G1 15 50 (by kernel_rfl) rfl
        have h16 : val 16 = .slice A l.length c := (hF 16 (by kernel_rfl)).1
        have g16 := G1 16 51 (by kernel_rfl) rfl
        have e16 : a.eval (.tmp 51) = .slice A l.length c := g16.1.trans h16
        refine Regn.opIs_call (f := 11) (args := #[.slice A l.length c]) (Regn.wanted_of (g := 15) (b := true) rfl (Regn.yielded_of (t := 50) (v := val 15) rfl g15.2 h15)) (Regn.run_call1 rfl Try.func11 (by kernel_rfl) rfl e16) ((HE2.out _ (HB3.out.trans (hC.mono HB3.out.size))).mono ?_)
        rintro e W' ⟨v, rfl, hR, hb⟩
        exact ⟨v, rfl, hC.trans (hb.mono hC.size), hb, trivial, fun _ => ⟨_, hR⟩⟩
      | 18, ho, G1, hF =>
        obtain rfl := Option.some.inj ho
        have h15 : val 15 = .bool true := (hF 15 (by kernel_rfl)).1
        have g15 := G1 15 50 (by kernel_rfl) rfl
        obtain ⟨b17, r17⟩ := (hF 17 (by kernel_rfl)).2 (by simp)
        have g17 := G1 17 52 (by kernel_rfl) rfl
        exact Regn.opIs_value (v := .string (strOfNums el)) (Regn.wanted_of (g := 15) (b := true) rfl (Regn.yielded_of (t := 50) (v := val 15) rfl g15.2 h15)) (Regn.run_conv rfl g17.1 (row_str r17 _ (Below.refl _ _))) ⟨hC, Below.refl _ _, rfl, fun h => by simp at h⟩
      | 19, ho, G1, hF =>
        obtain rfl := Option.some.inj ho
        have h15 : val 15 = .bool true := (hF 15 (by kernel_rfl)).1
        have g15 := G1 15 50 (by kernel_rfl) rfl
        exact Regn.opIs_value (v := .slice A l.length c) (Regn.wanted_of (g := 15) (b := true) rfl (Regn.yielded_of (t := 50) (v := val 15) rfl g15.2 h15)) (Regn.run_move (.inl rfl) ((G2 1 (by kernel_rfl)).trans rfl)) ⟨hC, Below.refl _ _, rfl, fun h => by simp at h⟩
      | 20, ho, G1, hF =>
        obtain rfl := Option.some.inj ho
        have h15 : val 15 = .bool true := (hF 15 (by kernel_rfl)).1
        have g15 := G1 15 50 (by kernel_rfl) rfl
        have h19 : val 19 = .slice A l.length c := (hF 19 (by kernel_rfl)).1
        have g19 := G1 19 54 (by kernel_rfl) rfl
        have e19 : a.eval (.tmp 54) = .slice A l.length c := g19.1.trans h19
        refine Regn.opIs_call (f := 12) (args := #[.slice A l.length c]) (Regn.wanted_of (g := 15) (b := true) rfl (Regn.yielded_of (t := 50) (v := val 15) rfl g15.2 h15)) (Regn.run_call1 rfl Try.func12 (by kernel_rfl) rfl e19) ((HE.out _ (HB3.out.trans (hC.mono HB3.out.size))).mono ?_)
        rintro e W' ⟨v, rfl, hR, hb⟩
        exact ⟨v, rfl, hC.trans (hb.mono hC.size), hb, trivial, fun _ => ⟨_, hR⟩⟩
      | 21, ho, G1, hF =>
        obtain rfl := Option.some.inj ho
        have h15 : val 15 = .bool true := (hF 15 (by kernel_rfl)).1
        have g15 := G1 15 50 (by kernel_rfl) rfl
        obtain ⟨b20, r20⟩ := (hF 20 (by kernel_rfl)).2 (by simp)
        have g20 := G1 20 55 (by kernel_rfl) rfl
        exact Regn.opIs_value (v := .string (strOfNums el)) (Regn.wanted_of (g := 15) (b := true) rfl (Regn.yielded_of (t := 50) (v := val 15) rfl g15.2 h15)) (Regn.run_conv rfl g20.1 (row_str r20 _ (Below.refl _ _))) ⟨hC, Below.refl _ _, rfl, fun h => by simp at h⟩
      | 22, ho, G1, hF =>
        obtain rfl := Option.some.inj ho
        have h15 : val 15 = .bool true := (hF 15 (by kernel_rfl)).1
        have g15 := G1 15 50 (by kernel_rfl) rfl
        have h18 : val 18 = .string (strOfNums el) := (hF 18 (by kernel_rfl)).1
        have g18 := G1 18 53 (by kernel_rfl) rfl
        have h21 : val 21 = .string (strOfNums el) := (hF 21 (by kernel_rfl)).1
        have g21 := G1 21 56 (by kernel_rfl) rfl
        exact Regn.opIs_value (v := .bool true) (Regn.wanted_of (g := 15) (b := true) rfl (Regn.yielded_of (t := 50) (v := val 15) rfl g15.2 h15)) (Regn.run_bin rfl (g18.1.trans h18) (g21.1.trans h21) (eq_strs _ _ _)) ⟨hC, Below.refl _ _, rfl, fun h => by simp at h⟩
      | 23, ho, G1, hF =>
        obtain rfl := Option.some.inj ho
        have h15 : val 15 = .bool true := (hF 15 (by kernel_rfl)).1
        have g15 := G1 15 50 (by kernel_rfl) rfl
        have h22 : val 22 = .bool true := (hF 22 (by kernel_rfl)).1
        have g22 := G1 22 57 (by kernel_rfl) rfl
        exact Regn.opIs_value (v := .bool true) rfl (Regn.run_pick rfl (g15.1.trans h15) (g22.1.trans h22)) ⟨hC, Below.refl _ _, rfl, fun h => by simp at h⟩
      | 24, ho, G1, hF =>
        obtain rfl := Option.some.inj ho
        have h23 : val 23 = .bool true := (hF 23 (by kernel_rfl)).1
        have g23 := G1 23 58 (by kernel_rfl) rfl
        exact Regn.opIs_value (v := .bool true) rfl (Regn.run_move (.inr rfl) (g23.1.trans h23)) ⟨hC, Below.refl _ _, rfl, fun h => by simp at h⟩
      | n + 25, ho, _, hF => exact absurd ho (by simp)
    case c4 =>
      intro val W hC hF
      have h24 : val 24 = .bool true := (hF 24 (show 24 < 25 from by decide)).1
      have HB5 := Aside0.mk (HB3.out.trans (hC.mono HB3.out.size))
      clear hF hC HE HE2 k2 k3 HB1 HB2 HR2
      simp only [Regn.lay, Regn.dstOf, List.size_toArray, List.length_cons, List.length_nil, Nat.reduceAdd, if_true, List.getElem?_toArray, List.getElem?_cons_succ, List.getElem?_cons_zero, Option.bind_some, Act.put, List.setIfInBounds_toArray, List.set_cons_succ, List.set_cons_zero]
      go_wp2
      go_ret
      exact ⟨congrArg Ending.returned h24, HB5.out⟩
def wharfingerlaw05_TelnetStrips.f (a0 : Int) (l1 : List Int) : Option Bool := some true
theorem wharfingerlaw05_TelnetStrips.calls (a0 : Int) (A1 : Option Addr) (c1 : Nat) (l1 : List Int) (r : Bool) (w : World) (hr1 : Kd.C (Kd.int .u8) w A1 l1.length l1) (hc1 : l1.length ≤ c1) (h : wharfingerlaw05_TelnetStrips.f a0 l1 = some r) :
    Calls Try.prog 3 #[.int .i64 a0, .slice A1 l1.length c1] w fun e w' => e = .returned (.bool r) ∧ Below w.heap.size w w' := by
  cases h; exact strips_walk a0 A1 c1 l1 w hr1 hc1
end Go.Proofs.Ytoeknbnchmpklaa.TelnetStrips
