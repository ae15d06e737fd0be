/- What the laws of chapter 03 share: contracts by what a call is to answer; the example. -/
import Derived.Test.YtfhfldpdkmankaaDoorSixRefFind
import Derived.Test.YtfhfldpdkmankaaDoorSixRefText
import Derived.Test.YtfhfldpdkmankaaDoorSixR
namespace Go.Proofs.YtfhfldpdkmankaaDoor.Six
open Go Go.RowKit Go.Proofs.YtfhfldpdkmankaaDoorW.PrintWords Go.Proofs.YtfhfldpdkmankaaDoorW.PrintLast Go.Proofs.YtfhfldpdkmankaaDoorW.PrintMore Go.Proofs.YtfhfldpdkmankaaDoor.Dig Go.Proofs.YtfhfldpdkmankaaDoor.Quad Go.Proofs.YtfhfldpdkmankaaDoor.SixP
set_option linter.unusedVariables false
set_option linter.unusedSimpArgs false

def agg (a b c d : Nat) (p : Int) : Value := .agg #[.int .u8 a, .int .u8 b, .int .u8 c, .int .u8 d, .int .i64 p]
def TextIs (a b c d : Nat) (p : Int) (t : ByteArray) (z : Bool) : Prop := (a < 256 ∧ b < 256 ∧ c < 256 ∧ d < 256) ∧ textR a b c d p = .tuple #[.string t, .bool z]
def ReadIs (s : ByteArray) (a b c d p : Nat) (z : Bool) : Prop := s.size ≤ 1000000 ∧ readR (readSix s.data.toList) = .tuple #[.agg #[.int .u8 a, .int .u8 b, .int .u8 c, .int .u8 d, .int .i64 p], .bool z]
def FindIs (s : ByteArray) (a b c d p : Nat) (z : Bool) : Prop := s.size ≤ 1000000 ∧ readR (find s.data.toList) = .tuple #[.agg #[.int .u8 a, .int .u8 b, .int .u8 c, .int .u8 d, .int .i64 p], .bool z]
theorem TextIs.calls {a b c d : Nat} {p : Int} {t : ByteArray} {z : Bool} (h : TextIs a b c d p t z) (w : World) :
    Calls Tryd.prog 9 #[.agg #[.int .u8 a, .int .u8 b, .int .u8 c, .int .u8 d, .int .i64 p]] w fun e w' => e = .returned (.tuple #[.string t, .bool z]) ∧ Below w.heap.size w w' :=
  (text_calls a b c d p h.1.1 h.1.2.1 h.1.2.2.1 h.1.2.2.2 w).mono fun e w' ⟨he, hb⟩ => ⟨he.trans (by rw [h.2]), hb⟩
theorem TextIs.rcalls {a b c d : Nat} {p : Int} {t : ByteArray} {z : Bool} (h : TextIs a b c d p t z) (w : World) :
    Calls Tryd.prog 10 #[.agg #[.int .u8 a, .int .u8 b, .int .u8 c, .int .u8 d, .int .i64 p]] w fun e w' => e = .returned (.tuple #[.string t, .bool z]) ∧ Below w.heap.size w w' :=
  (ref_text_calls a b c d p h.1.1 h.1.2.1 h.1.2.2.1 h.1.2.2.2 w).mono fun e w' ⟨he, hb⟩ => ⟨he.trans (by rw [h.2]), hb⟩
theorem ReadIs.calls {s : ByteArray} {a b c d p : Nat} {z : Bool} (h : ReadIs s a b c d p z) {w : World} (hm : Mx w) :
    Calls Tryd.prog 11 #[.string s] w fun e w' => e = .returned (.tuple #[.agg #[.int .u8 a, .int .u8 b, .int .u8 c, .int .u8 d, .int .i64 p], .bool z]) ∧ Below w.heap.size w w' :=
  (read_calls s (by have := h.1; omega) w hm).mono fun e w' ⟨he, hb⟩ => ⟨he.trans (by rw [h.2]), hb⟩
theorem ReadIs.rcalls {s : ByteArray} {a b c d p : Nat} {z : Bool} (h : ReadIs s a b c d p z) (w : World) :
    Calls Tryd.prog 12 #[.string s] w fun e w' => e = .returned (.tuple #[.agg #[.int .u8 a, .int .u8 b, .int .u8 c, .int .u8 d, .int .i64 p], .bool z]) ∧ Below w.heap.size w w' :=
  (ref_read_calls s h.1 w).mono fun e w' ⟨he, hb⟩ => ⟨he.trans (by rw [h.2]), hb⟩
theorem FindIs.calls {s : ByteArray} {a b c d p : Nat} {z : Bool} (h : FindIs s a b c d p z) {w : World} (hm : Mx w) :
    Calls Tryd.prog 13 #[.string s] w fun e w' => e = .returned (.tuple #[.agg #[.int .u8 a, .int .u8 b, .int .u8 c, .int .u8 d, .int .i64 p], .bool z]) ∧ Below w.heap.size w w' :=
  (find_calls s h.1 w hm).mono fun e w' ⟨he, hb⟩ => ⟨he.trans (by rw [h.2]), hb⟩
theorem FindIs.rcalls {s : ByteArray} {a b c d p : Nat} {z : Bool} (h : FindIs s a b c d p z) (w : World) :
    Calls Tryd.prog 14 #[.string s] w fun e w' => e = .returned (.tuple #[.agg #[.int .u8 a, .int .u8 b, .int .u8 c, .int .u8 d, .int .i64 p], .bool z]) ∧ Below w.heap.size w w' :=
  (ref_find_calls s h.1 w).mono fun e w' ⟨he, hb⟩ => ⟨he.trans (by rw [h.2]), hb⟩
theorem eq_same (a b c d : Nat) (p : Int) (W : World) : (Op.equalIn 10000 25 (.agg #[.int .u8 a, .int .u8 b, .int .u8 c, .int .u8 d, .int .i64 p]) (.agg #[.int .u8 a, .int .u8 b, .int .u8 c, .int .u8 d, .int .i64 p])).run Tryd.prog W = .ok true W := by rw [eq_end]; simp
/-- What Text hands back: a text, or none. -/
theorem text_goes {a b c d : Nat} {p : Int} (h : a < 256 ∧ b < 256 ∧ c < 256 ∧ d < 256) : (∃ (n : Nat) (t : ByteArray), p = n ∧ n ≤ 65535 ∧ TextIs a b c d p t true ∧ t.data.toList = sixU a b c d n) ∨ ((p < 0 ∨ 65535 < p) ∧ TextIs a b c d p ⟨#[]⟩ false) := by
  by_cases h1 : p < 0 ∨ 65535 < p
  · exact .inr ⟨h1, h, by rw [textR, if_pos h1]; rfl⟩
  · refine .inl ⟨p.toNat, ⟨(sixU a b c d p.toNat).toArray⟩, by omega, by omega, ⟨h, by rw [textR, if_neg h1]; rfl⟩, rfl⟩
/-- What Read and Find hand back: an end, or none. -/
theorem some_goes {o : Option (Nat × Nat × Nat × Nat × Nat)} : (∃ a b c d p, o = some (a, b, c, d, p) ∧ readR o = .tuple #[.agg #[.int .u8 (a : Nat), .int .u8 (b : Nat), .int .u8 (c : Nat), .int .u8 (d : Nat), .int .i64 (p : Nat)], .bool true]) ∨ (o = none ∧ readR o = .tuple #[.agg #[.int .u8 (0 : Nat), .int .u8 (0 : Nat), .int .u8 (0 : Nat), .int .u8 (0 : Nat), .int .i64 (0 : Nat)], .bool false]) := by
  cases o with
  | none => exact .inr ⟨rfl, rfl⟩
  | some x => obtain ⟨a, b, c, d, p⟩ := x; exact .inl ⟨a, b, c, d, p, rfl, rfl⟩
theorem aw_text : TextIs 10 0 0 1 258 ⟨#[49, 48, 44, 48, 44, 48, 44, 49, 44, 49, 44, 50]⟩ true := by
  refine ⟨by decide, ?_⟩
  rw [textR, if_neg (by decide), show ((258 : Int)).toNat = 258 from rfl, ← ((readSix_iff [49, 48, 44, 48, 44, 48, 44, 49, 44, 49, 44, 50] 10 0 0 1 258).1 (by decide +kernel)).1]; rfl
theorem aw_read : ReadIs ⟨#[49, 48, 44, 48, 44, 48, 44, 49, 44, 49, 44, 50]⟩ 10 0 0 1 258 true := ⟨by decide, by
  rw [show readSix (⟨#[49, 48, 44, 48, 44, 48, 44, 49, 44, 49, 44, 50]⟩ : ByteArray).data.toList = some (10, 0, 0, 1, 258) from by decide +kernel]; rfl⟩
theorem aw_find : FindIs ⟨#[50, 50, 55, 32, 120, 32, 40, 49, 48, 44, 48, 44, 48, 44, 49, 44, 49, 44, 50, 41, 46]⟩ 10 0 0 1 258 true := ⟨by decide, by
  rw [show find (⟨#[50, 50, 55, 32, 120, 32, 40, 49, 48, 44, 48, 44, 48, 44, 49, 44, 49, 44, 50, 41, 46]⟩ : ByteArray).data.toList = some (10, 0, 0, 1, 258) from by decide +kernel]; rfl⟩
theorem aw_str : (⟨#[50, 50, 55, 32, 120, 32, 40]⟩ : ByteArray) ++ ⟨#[49, 48, 44, 48, 44, 48, 44, 49, 44, 49, 44, 50]⟩ ++ ⟨#[41, 46]⟩ = ⟨#[50, 50, 55, 32, 120, 32, 40, 49, 48, 44, 48, 44, 48, 44, 49, 44, 49, 44, 50, 41, 46]⟩ := by
  apply ByteArray.ext; apply Array.ext'; simp
theorem aw_text' (w : World) : Calls Tryd.prog 9 #[.agg #[.int .u8 10, .int .u8 0, .int .u8 0, .int .u8 1, .int .i64 258]] w fun e w' => e = .returned (.tuple #[.string ⟨#[49, 48, 44, 48, 44, 48, 44, 49, 44, 49, 44, 50]⟩, .bool true]) ∧ Below w.heap.size w w' := aw_text.calls w
theorem aw_read' (w : World) (hm : Mx w) : Calls Tryd.prog 11 #[.string ⟨#[49, 48, 44, 48, 44, 48, 44, 49, 44, 49, 44, 50]⟩] w fun e w' => e = .returned (.tuple #[.agg #[.int .u8 10, .int .u8 0, .int .u8 0, .int .u8 1, .int .i64 258], .bool true]) ∧ Below w.heap.size w w' := aw_read.calls hm
theorem aw_find' (w : World) (hm : Mx w) : Calls Tryd.prog 13 #[.string ⟨#[50, 50, 55, 32, 120, 32, 40, 49, 48, 44, 48, 44, 48, 44, 49, 44, 49, 44, 50, 41, 46]⟩] w fun e w' => e = .returned (.tuple #[.agg #[.int .u8 10, .int .u8 0, .int .u8 0, .int .u8 1, .int .i64 258], .bool true]) ∧ Below w.heap.size w w' := aw_find.calls hm
theorem FindIs.zcalls {s : ByteArray} (h : FindIs s 0 0 0 0 0 false) {w : World} (hm : Mx w) : Calls Tryd.prog 13 #[.string s] w fun e w' => e = .returned (.tuple #[.agg #[.int .u8 0, .int .u8 0, .int .u8 0, .int .u8 0, .int .i64 0], .bool false]) ∧ Below w.heap.size w w' := h.calls hm
theorem ReadIs.zcalls {s : ByteArray} (h : ReadIs s 0 0 0 0 0 false) {w : World} (hm : Mx w) : Calls Tryd.prog 11 #[.string s] w fun e w' => e = .returned (.tuple #[.agg #[.int .u8 0, .int .u8 0, .int .u8 0, .int .u8 0, .int .i64 0], .bool false]) ∧ Below w.heap.size w w' := h.calls hm
theorem eq_zero (W : World) : (Op.equalIn 10000 25 (.agg #[.int .u8 0, .int .u8 0, .int .u8 0, .int .u8 0, .int .i64 0]) (.agg #[.int .u8 0, .int .u8 0, .int .u8 0, .int .u8 0, .int .i64 0])).run Tryd.prog W = .ok true W := eq_same 0 0 0 0 0 W
theorem aw_eq (W : World) : (Op.equalIn 10000 25 (.agg #[.int .u8 10, .int .u8 0, .int .u8 0, .int .u8 1, .int .i64 258]) (.agg #[.int .u8 10, .int .u8 0, .int .u8 0, .int .u8 1, .int .i64 258])).run Tryd.prog W = .ok true W := eq_same 10 0 0 1 258 W

set_option maxHeartbeats 4000000 in
set_option maxRecDepth 100000 in
theorem awake_calls (w : World) (hm : Mx w) : Calls Tryd.prog 8 #[] w fun e w' => e = .returned (.bool true) ∧ Below w.heap.size w w' := by
  have HM := Aside0.mk hm
  have HB := Aside0.mk (Below.refl w.heap.size w)
  clear hm
  have hq := aw_eq
  have hstr := aw_str
  have e1 : (ByteArray.mk #[49, 48, 44, 48, 44, 48, 44, 49, 44, 49, 44, 50]).toList = [49, 48, 44, 48, 44, 48, 44, 49, 44, 49, 44, 50] := by rw [ByteArray.toList_eq]
  go_enter Tryd.func8, Tryd.ntmps8
  go_wp2_with (first
    | (go_at_call 9; with_reducible refine (aw_text' _).mono ?_; rintro e v1 ⟨rfl, hb⟩; have KE := Aside0.mk (blk_below (blk_new w (.cells #[.int .u8 10, .int .u8 0, .int .u8 0, .int .u8 1, .int .i64 258] 25)) hb); replace HB := Aside0.mk ((HB.out.alloc HB.out.size _).trans (hb.mono (HB.out.alloc HB.out.size _).size)); clear hb; have kE0 : v1.cell? ⟨w.heap.size, 0, none⟩ = some (.int .u8 10) := (blk_cell KE.out 0).trans rfl; have jE0 : ∀ o, (v1.alloc o).cell? ⟨w.heap.size, 0, none⟩ = some (.int .u8 10) := fun o => (blk_cell (blk_alloc KE.out o) 0).trans rfl; have kE1 : v1.cell? ⟨w.heap.size, 1, none⟩ = some (.int .u8 0) := (blk_cell KE.out 1).trans rfl; have jE1 : ∀ o, (v1.alloc o).cell? ⟨w.heap.size, 1, none⟩ = some (.int .u8 0) := fun o => (blk_cell (blk_alloc KE.out o) 1).trans rfl; have kE2 : v1.cell? ⟨w.heap.size, 2, none⟩ = some (.int .u8 0) := (blk_cell KE.out 2).trans rfl; have jE2 : ∀ o, (v1.alloc o).cell? ⟨w.heap.size, 2, none⟩ = some (.int .u8 0) := fun o => (blk_cell (blk_alloc KE.out o) 2).trans rfl; have kE3 : v1.cell? ⟨w.heap.size, 3, none⟩ = some (.int .u8 1) := (blk_cell KE.out 3).trans rfl; have jE3 : ∀ o, (v1.alloc o).cell? ⟨w.heap.size, 3, none⟩ = some (.int .u8 1) := fun o => (blk_cell (blk_alloc KE.out o) 3).trans rfl; have kE4 : v1.cell? ⟨w.heap.size, 4, none⟩ = some (.int .i64 258) := (blk_cell KE.out 4).trans rfl; have jE4 : ∀ o, (v1.alloc o).cell? ⟨w.heap.size, 4, none⟩ = some (.int .i64 258) := fun o => (blk_cell (blk_alloc KE.out o) 4).trans rfl; have tok1 := trivial)
    | (go_at_call 13; clear kE0 jE0; clear kE1 jE1; clear kE2 jE2; clear kE3 jE3; clear kE4 jE4; with_reducible refine (aw_find' _ (HM.out.below HB.out)).mono ?_; rintro e v2 ⟨rfl, hb⟩; replace KE := Aside0.mk (blk_below KE.out hb); replace HB := Aside0.mk (HB.out.trans (hb.mono HB.out.size)); clear hb; have kE0 : v2.cell? ⟨w.heap.size, 0, none⟩ = some (.int .u8 10) := (blk_cell KE.out 0).trans rfl; have jE0 : ∀ o, (v2.alloc o).cell? ⟨w.heap.size, 0, none⟩ = some (.int .u8 10) := fun o => (blk_cell (blk_alloc KE.out o) 0).trans rfl; have kE1 : v2.cell? ⟨w.heap.size, 1, none⟩ = some (.int .u8 0) := (blk_cell KE.out 1).trans rfl; have jE1 : ∀ o, (v2.alloc o).cell? ⟨w.heap.size, 1, none⟩ = some (.int .u8 0) := fun o => (blk_cell (blk_alloc KE.out o) 1).trans rfl; have kE2 : v2.cell? ⟨w.heap.size, 2, none⟩ = some (.int .u8 0) := (blk_cell KE.out 2).trans rfl; have jE2 : ∀ o, (v2.alloc o).cell? ⟨w.heap.size, 2, none⟩ = some (.int .u8 0) := fun o => (blk_cell (blk_alloc KE.out o) 2).trans rfl; have kE3 : v2.cell? ⟨w.heap.size, 3, none⟩ = some (.int .u8 1) := (blk_cell KE.out 3).trans rfl; have jE3 : ∀ o, (v2.alloc o).cell? ⟨w.heap.size, 3, none⟩ = some (.int .u8 1) := fun o => (blk_cell (blk_alloc KE.out o) 3).trans rfl; have kE4 : v2.cell? ⟨w.heap.size, 4, none⟩ = some (.int .i64 258) := (blk_cell KE.out 4).trans rfl; have jE4 : ∀ o, (v2.alloc o).cell? ⟨w.heap.size, 4, none⟩ = some (.int .i64 258) := fun o => (blk_cell (blk_alloc KE.out o) 4).trans rfl; have tok2 := trivial)
    | (go_at_call 11; clear kE0 jE0; clear kE1 jE1; clear kE2 jE2; clear kE3 jE3; clear kE4 jE4; with_reducible refine (aw_read' _ (HM.out.below (HB.out.alloc HB.out.size _))).mono ?_; rintro e v3 ⟨rfl, hb⟩; replace KE := Aside0.mk (blk_below (blk_alloc KE.out _) hb); have KF := Aside0.mk (blk_below (blk_new v2 (.cells #[.int .u8 10, .int .u8 0, .int .u8 0, .int .u8 1, .int .i64 258] 25)) hb); replace HB := Aside0.mk ((HB.out.alloc HB.out.size _).trans (hb.mono (HB.out.alloc HB.out.size _).size)); clear hb; have kE0 : v3.cell? ⟨w.heap.size, 0, none⟩ = some (.int .u8 10) := (blk_cell KE.out 0).trans rfl; have jE0 : ∀ o, (v3.alloc o).cell? ⟨w.heap.size, 0, none⟩ = some (.int .u8 10) := fun o => (blk_cell (blk_alloc KE.out o) 0).trans rfl; have kE1 : v3.cell? ⟨w.heap.size, 1, none⟩ = some (.int .u8 0) := (blk_cell KE.out 1).trans rfl; have jE1 : ∀ o, (v3.alloc o).cell? ⟨w.heap.size, 1, none⟩ = some (.int .u8 0) := fun o => (blk_cell (blk_alloc KE.out o) 1).trans rfl; have kE2 : v3.cell? ⟨w.heap.size, 2, none⟩ = some (.int .u8 0) := (blk_cell KE.out 2).trans rfl; have jE2 : ∀ o, (v3.alloc o).cell? ⟨w.heap.size, 2, none⟩ = some (.int .u8 0) := fun o => (blk_cell (blk_alloc KE.out o) 2).trans rfl; have kE3 : v3.cell? ⟨w.heap.size, 3, none⟩ = some (.int .u8 1) := (blk_cell KE.out 3).trans rfl; have jE3 : ∀ o, (v3.alloc o).cell? ⟨w.heap.size, 3, none⟩ = some (.int .u8 1) := fun o => (blk_cell (blk_alloc KE.out o) 3).trans rfl; have kE4 : v3.cell? ⟨w.heap.size, 4, none⟩ = some (.int .i64 258) := (blk_cell KE.out 4).trans rfl; have jE4 : ∀ o, (v3.alloc o).cell? ⟨w.heap.size, 4, none⟩ = some (.int .i64 258) := fun o => (blk_cell (blk_alloc KE.out o) 4).trans rfl; have kF0 : v3.cell? ⟨v2.heap.size, 0, none⟩ = some (.int .u8 10) := (blk_cell KF.out 0).trans rfl; have jF0 : ∀ o, (v3.alloc o).cell? ⟨v2.heap.size, 0, none⟩ = some (.int .u8 10) := fun o => (blk_cell (blk_alloc KF.out o) 0).trans rfl; have kF1 : v3.cell? ⟨v2.heap.size, 1, none⟩ = some (.int .u8 0) := (blk_cell KF.out 1).trans rfl; have jF1 : ∀ o, (v3.alloc o).cell? ⟨v2.heap.size, 1, none⟩ = some (.int .u8 0) := fun o => (blk_cell (blk_alloc KF.out o) 1).trans rfl; have kF2 : v3.cell? ⟨v2.heap.size, 2, none⟩ = some (.int .u8 0) := (blk_cell KF.out 2).trans rfl; have jF2 : ∀ o, (v3.alloc o).cell? ⟨v2.heap.size, 2, none⟩ = some (.int .u8 0) := fun o => (blk_cell (blk_alloc KF.out o) 2).trans rfl; have kF3 : v3.cell? ⟨v2.heap.size, 3, none⟩ = some (.int .u8 1) := (blk_cell KF.out 3).trans rfl; have jF3 : ∀ o, (v3.alloc o).cell? ⟨v2.heap.size, 3, none⟩ = some (.int .u8 1) := fun o => (blk_cell (blk_alloc KF.out o) 3).trans rfl; have kF4 : v3.cell? ⟨v2.heap.size, 4, none⟩ = some (.int .i64 258) := (blk_cell KF.out 4).trans rfl; have jF4 : ∀ o, (v3.alloc o).cell? ⟨v2.heap.size, 4, none⟩ = some (.int .i64 258) := fun o => (blk_cell (blk_alloc KF.out o) 4).trans rfl; have tok3 := trivial))
  go_ret
  exact ⟨rfl, (HB.out.alloc HB.out.size _)⟩
end Go.Proofs.YtfhfldpdkmankaaDoor.Six
