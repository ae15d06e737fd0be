/- What the laws of paths share: contracts by what a call is to answer; the examples. -/
import Derived.Test.YtipojdjdlnafmaaDoorPathJoin
import Derived.Test.YtipojdjdlnafmaaDoorPathUnder
import Derived.Test.YtipojdjdlnafmaaDoorPathRefJoin
namespace Go.Proofs.YtipojdjdlnafmaaDoor.Path
open Go Go.RowKit Go.Proofs.YtipojdjdlnafmaaDoorW.PrintWords Go.Proofs.YtipojdjdlnafmaaDoorW.PrintLast Go.Proofs.YtipojdjdlnafmaaDoorW.PrintMore Go.Proofs.YtipojdjdlnafmaaDoor.Quad
set_option linter.unusedVariables false
set_option linter.unusedSimpArgs false

def JoinIs (s t r : ByteArray) (z : Int) : Prop := s.size ≤ 1000000 ∧ t.size ≤ 1000000 ∧ joinR (PathP.join s.data.toList t.data.toList) = .tuple #[.string r, .int .i64 z]
def MayIs (s : ByteArray) (b : Bool) : Prop := s.size ≤ 1000000 ∧ PathP.may s.data.toList = b
def UnderIs (s t : ByteArray) (b : Bool) : Prop := s.size ≤ 1000000 ∧ t.size ≤ 1000000 ∧ PathP.under s.data.toList t.data.toList = b
theorem JoinIs.calls {s t r : ByteArray} {z : Int} (h : JoinIs s t r z) {w0 w : World} (hm : Mx w0) (hb : Below w0.heap.size w0 w) :
    Calls Tryd.prog 12 #[.string s, .string t] w fun e w' => e = .returned (.tuple #[.string r, .int .i64 z]) ∧ Below w0.heap.size w0 w' :=
  (join_calls s t h.1 h.2.1 w (hm.below hb)).mono fun e w' ⟨he, hb'⟩ => ⟨he.trans (by rw [h.2.2]), hb.trans (hb'.mono hb.size)⟩
theorem JoinIs.rcalls {s t r : ByteArray} {z : Int} (h : JoinIs s t r z) {w0 w : World} (hb : Below w0.heap.size w0 w) :
    Calls Tryd.prog 13 #[.string s, .string t] w fun e w' => e = .returned (.tuple #[.string r, .int .i64 z]) ∧ Below w0.heap.size w0 w' :=
  (ref_join_calls s t h.1 h.2.1 w).mono fun e w' ⟨he, hb'⟩ => ⟨he.trans (by rw [h.2.2]), hb.trans (hb'.mono hb.size)⟩
theorem MayIs.calls {s : ByteArray} {b : Bool} (h : MayIs s b) {w0 w : World} (hm : Mx w0) (hb : Below w0.heap.size w0 w) :
    Calls Tryd.prog 15 #[.string s] w fun e w' => e = .returned (.bool b) ∧ Below w0.heap.size w0 w' :=
  (may_calls s h.1 w (hm.below hb)).mono fun e w' ⟨he, hb'⟩ => ⟨he.trans (by rw [h.2]), hb.trans (hb'.mono hb.size)⟩
theorem MayIs.rcalls {s : ByteArray} {b : Bool} (h : MayIs s b) {w0 w : World} (hb : Below w0.heap.size w0 w) :
    Calls Tryd.prog 11 #[.string s] w fun e w' => e = .returned (.bool b) ∧ Below w0.heap.size w0 w' :=
  (ref_may_calls s h.1 w).mono fun e w' ⟨he, hb'⟩ => ⟨he.trans (by rw [h.2]), hb.trans (hb'.mono hb.size)⟩
theorem UnderIs.calls {s t : ByteArray} {b : Bool} (h : UnderIs s t b) {w0 w : World} (hm : Mx w0) (hb : Below w0.heap.size w0 w) :
    Calls Tryd.prog 16 #[.string s, .string t] w fun e w' => e = .returned (.bool b) ∧ Below w0.heap.size w0 w' :=
  (under_calls s t h.1 h.2.1 w (hm.below hb)).mono fun e w' ⟨he, hb'⟩ => ⟨he.trans (by rw [h.2.2]), hb.trans (hb'.mono hb.size)⟩
theorem UnderIs.rcalls {s t : ByteArray} {b : Bool} (h : UnderIs s t b) {w0 w : World} (hb : Below w0.heap.size w0 w) :
    Calls Tryd.prog 14 #[.string s, .string t] w fun e w' => e = .returned (.bool b) ∧ Below w0.heap.size w0 w' :=
  (ref_under_calls s t h.1 h.2.1 w).mono fun e w' ⟨he, hb'⟩ => ⟨he.trans (by rw [h.2.2]), hb.trans (hb'.mono hb.size)⟩

theorem bytes_ext {s t : ByteArray} (h : s.data.toList = t.data.toList) : s = t := by apply ByteArray.ext; exact Array.ext' h
theorem joinIs {s t : ByteArray} (hs : s.size ≤ 1000000) (ht : t.size ≤ 1000000) : ∃ r z, JoinIs s t r z ∧ r.data.toList = (PathP.join s.data.toList t.data.toList).1 ∧ z = errNo (PathP.join s.data.toList t.data.toList).2 := ⟨⟨(PathP.join s.data.toList t.data.toList).1.toArray⟩, _, ⟨hs, ht, rfl⟩, rfl, rfl⟩
theorem JoinIs.of {s t r : ByteArray} {er : PathP.Err} (hs : s.size ≤ 1000000) (ht : t.size ≤ 1000000) (h : PathP.join s.data.toList t.data.toList = (r.data.toList, er)) : JoinIs s t r (errNo er) := ⟨hs, ht, by rw [h]; rfl⟩
theorem JoinIs.ok {s t r : ByteArray} (hs : s.size ≤ 1000000) (ht : t.size ≤ 1000000) (h : PathP.join s.data.toList t.data.toList = (r.data.toList, .ok)) : JoinIs s t r 0 := ⟨hs, ht, by rw [h]; rfl⟩
/-- Either it leads somewhere, or there is an error. -/
theorem join_goes {s t : ByteArray} (hs : s.size ≤ 1000000) (ht : t.size ≤ 1000000) : (∃ r, JoinIs s t r 0 ∧ PathP.join s.data.toList t.data.toList = (r.data.toList, .ok) ∧ r.size ≤ 200 ∧ PathP.may r.data.toList = true) ∨
    (∃ z, JoinIs s t ⟨#[]⟩ z ∧ (z == 0) = false ∧ z = errNo (PathP.join s.data.toList t.data.toList).2 ∧ (PathP.join s.data.toList t.data.toList).2 ≠ .ok) := by
  by_cases h : (PathP.join s.data.toList t.data.toList).2 = .ok
  · refine .inl ⟨⟨(PathP.join s.data.toList t.data.toList).1.toArray⟩, ⟨hs, ht, by rw [joinR, h]; rfl⟩, by rw [← h], ?_, (PathP.join_may h).1⟩
    rw [← data_length]; exact (PathP.may_clean (PathP.join_may h).1).2.1
  · refine .inr ⟨_, ⟨hs, ht, by rw [joinR, PathP.join_fail h]; rfl⟩, ?_, rfl, h⟩
    cases he : (PathP.join s.data.toList t.data.toList).2 <;> first | exact absurd he h | rfl

theorem j1 : JoinIs ⟨#[47, 97, 47, 98]⟩ ⟨#[46, 46, 47, 99]⟩ ⟨#[47, 97, 47, 99]⟩ 0 := .ok (by decide) (by decide) (by decide)
theorem j2 : JoinIs ⟨#[47, 97]⟩ ⟨#[46, 46, 47, 46, 46, 47, 46, 46]⟩ ⟨#[47]⟩ 0 := .ok (by decide) (by decide) (by decide)
theorem m1 : MayIs ⟨#[47, 97, 47, 99]⟩ true := ⟨by decide, by decide⟩
theorem u1 : UnderIs ⟨#[47, 97]⟩ ⟨#[47, 97, 47, 99]⟩ true := ⟨by decide, by decide, by decide⟩
theorem u2 : UnderIs ⟨#[47, 98]⟩ ⟨#[47, 97, 47, 99]⟩ false := ⟨by decide, by decide, by decide⟩

set_option maxHeartbeats 1000000 in
set_option maxRecDepth 100000 in
theorem awake_calls (w : World) (hm : Mx w) : Calls Tryd.prog 10 #[] w fun e w' => e = .returned (.bool true) ∧ Below w.heap.size w w' := by
  have HM := Aside0.mk hm
  have HB := Aside0.mk (Below.refl w.heap.size w)
  clear hm
  have e1 : (ByteArray.mk #[47, 97, 47, 99]).toList = [47, 97, 47, 99] := by rw [ByteArray.toList_eq]
  have e2 : (ByteArray.mk #[47]).toList = [47] := by rw [ByteArray.toList_eq]
  go_enter Tryd.func10, Tryd.ntmps10
  go_wp2_with (first
    | (go_at_call 12; with_reducible refine (j1.calls HM.out HB.out).mono ?_; rintro e w9 ⟨rfl, hb⟩; replace HB := Aside0.mk hb; clear hb)
    | (go_at_call 12; with_reducible refine (j2.calls HM.out HB.out).mono ?_; rintro e w9 ⟨rfl, hb⟩; replace HB := Aside0.mk hb; clear hb)
    | (go_at_call 15; with_reducible refine (m1.calls HM.out HB.out).mono ?_; rintro e w9 ⟨rfl, hb⟩; replace HB := Aside0.mk hb; clear hb)
    | (go_at_call 16; with_reducible refine (u1.calls HM.out HB.out).mono ?_; rintro e w9 ⟨rfl, hb⟩; replace HB := Aside0.mk hb; clear hb)
    | (go_at_call 16; with_reducible refine (u2.calls HM.out HB.out).mono ?_; rintro e w9 ⟨rfl, hb⟩; replace HB := Aside0.mk hb; clear hb))
  go_ret
  exact ⟨rfl, HB.out⟩
theorem awake' {w0 w : World} (hm : Mx w0) (hb : Below w0.heap.size w0 w) : Calls Tryd.prog 10 #[] w fun e w' => e = .returned (.bool true) ∧ Below w0.heap.size w0 w' :=
  (awake_calls w (hm.below hb)).mono fun e w' ⟨he, hb'⟩ => ⟨he, hb.trans (hb'.mono hb.size)⟩
/-- Too long, one of them, or none. -/
theorem long2 (s t : ByteArray) : (decide (300 < (s.size : Int)) = true) ∨ (decide (300 < (s.size : Int)) = false ∧ decide (300 < (t.size : Int)) = true) ∨ (decide (300 < (s.size : Int)) = false ∧ decide (300 < (t.size : Int)) = false ∧ s.size ≤ 300 ∧ t.size ≤ 300) := by
  simp only [decide_eq_true_eq, decide_eq_false_iff_not]; omega
theorem long3 (s t r : ByteArray) : (decide (300 < (s.size : Int)) = true) ∨ (decide (300 < (s.size : Int)) = false ∧ decide (300 < (t.size : Int)) = true) ∨ (decide (300 < (s.size : Int)) = false ∧ decide (300 < (t.size : Int)) = false ∧ decide (300 < (r.size : Int)) = true) ∨ (decide (300 < (s.size : Int)) = false ∧ decide (300 < (t.size : Int)) = false ∧ decide (300 < (r.size : Int)) = false ∧ s.size ≤ 300 ∧ t.size ≤ 300 ∧ r.size ≤ 300) := by
  simp only [decide_eq_true_eq, decide_eq_false_iff_not]; omega
end Go.Proofs.YtipojdjdlnafmaaDoor.Path
