/- What the laws of chapter 04 share: contracts by what a call is to answer; the example. -/
import Derived.Test.YtfbjejkmjbknaaaDoorExtRefRead
import Derived.Test.YtfbjejkmjbknaaaDoorExtRefFind
import Derived.Test.YtfbjejkmjbknaaaDoorExtTxt
namespace Go.Proofs.YtfbjejkmjbknaaaDoor.Ext
open Go Go.RowKit Go.Proofs.YtfbjejkmjbknaaaDoorW.PrintWords Go.Proofs.YtfbjejkmjbknaaaDoorW.PrintLast Go.Proofs.YtfbjejkmjbknaaaDoorW.PrintMore Go.Proofs.YtfbjejkmjbknaaaDoor.Dig Go.Proofs.YtfbjejkmjbknaaaDoor.Quad Go.Proofs.YtfbjejkmjbknaaaDoor.ExtP Go.Proofs.YtfbjejkmjbknaaaDoor.SixP
set_option linter.unusedVariables false
set_option linter.unusedSimpArgs false

def TextIs (a b c d : Nat) (p : Int) (t : ByteArray) (z : Bool) : Prop := (a < 256 ∧ b < 256 ∧ c < 256 ∧ d < 256) ∧ textR a b c d p = .tuple #[.string t, .bool z]
def PortIs (p : Int) (t : ByteArray) (z : Bool) : Prop := portR p = .tuple #[.string t, .bool z]
def EndIs (s : ByteArray) (a b c d p : Nat) (x : Int) : Prop := s.size ≤ 1000000 ∧ readV (readE s.data.toList) = .tuple #[.agg #[.int .u8 a, .int .u8 b, .int .u8 c, .int .u8 d, .int .i64 p], .int .i64 x]
def FindIs (s : ByteArray) (p : Nat) (z : Bool) : Prop := s.size ≤ 1000000 ∧ findR (findE s.data.toList) = .tuple #[.int .i64 p, .bool z]
theorem TextIs.calls {a b c d : Nat} {p : Int} {t : ByteArray} {z : Bool} (h : TextIs a b c d p t z) (w : World) :
    Calls Tryd.prog 9 #[.agg #[.int .u8 a, .int .u8 b, .int .u8 c, .int .u8 d, .int .i64 p]] w fun e w' => e = .returned (.tuple #[.string t, .bool z]) ∧ Below w.heap.size w w' :=
  (Ext.text_calls a b c d p h.1.1 h.1.2.1 h.1.2.2.1 h.1.2.2.2 w).mono fun e w' ⟨he, hb⟩ => ⟨he.trans (by rw [h.2]), hb⟩
theorem TextIs.rcalls {a b c d : Nat} {p : Int} {t : ByteArray} {z : Bool} (h : TextIs a b c d p t z) (w : World) :
    Calls Tryd.prog 10 #[.agg #[.int .u8 a, .int .u8 b, .int .u8 c, .int .u8 d, .int .i64 p]] w fun e w' => e = .returned (.tuple #[.string t, .bool z]) ∧ Below w.heap.size w w' :=
  (Ext.ref_text_calls a b c d p h.1.1 h.1.2.1 h.1.2.2.1 h.1.2.2.2 w).mono fun e w' ⟨he, hb⟩ => ⟨he.trans (by rw [h.2]), hb⟩
theorem PortIs.calls {p : Int} {t : ByteArray} {z : Bool} (h : PortIs p t z) (w : World) :
    Calls Tryd.prog 13 #[.int .i64 p] w fun e w' => e = .returned (.tuple #[.string t, .bool z]) ∧ Below w.heap.size w w' :=
  (portT_calls p w).mono fun e w' ⟨he, hb⟩ => ⟨he.trans (by rw [h]), hb⟩
theorem PortIs.rcalls {p : Int} {t : ByteArray} {z : Bool} (h : PortIs p t z) (w : World) :
    Calls Tryd.prog 14 #[.int .i64 p] w fun e w' => e = .returned (.tuple #[.string t, .bool z]) ∧ Below w.heap.size w w' :=
  (ref_portT_calls p w).mono fun e w' ⟨he, hb⟩ => ⟨he.trans (by rw [h]), hb⟩
/-- What the calls want of the first world. -/
structure Met (w : World) : Prop where
  mx : Mx w
  ex : ∃ ak af, Ex w ak af
theorem Met.below {w w' : World} (h : Met w) (hb : Below w.heap.size w w') : Met w' := ⟨h.mx.below hb, let ⟨ak, af, hx⟩ := h.ex; ⟨ak, af, hx.below hb⟩⟩
theorem EndIs.calls {s : ByteArray} {a b c d p : Nat} {x : Int} (h : EndIs s a b c d p x) {w : World} (hm : Met w) :
    Calls Tryd.prog 11 #[.string s] w fun e w' => e = .returned (.tuple #[.agg #[.int .u8 a, .int .u8 b, .int .u8 c, .int .u8 d, .int .i64 p], .int .i64 x]) ∧ Below w.heap.size w w' := by
  obtain ⟨ak, af, hx⟩ := hm.ex
  exact (Read_calls s h.1 w hm.mx ak af hx).mono fun e w' ⟨he, hb⟩ => ⟨he.trans (by rw [h.2]), hb⟩
theorem EndIs.rcalls {s : ByteArray} {a b c d p : Nat} {x : Int} (h : EndIs s a b c d p x) (w : World) :
    Calls Tryd.prog 12 #[.string s] w fun e w' => e = .returned (.tuple #[.agg #[.int .u8 a, .int .u8 b, .int .u8 c, .int .u8 d, .int .i64 p], .int .i64 x]) ∧ Below w.heap.size w w' :=
  (Ext.ref_read_calls s h.1 w).mono fun e w' ⟨he, hb⟩ => ⟨he.trans (by rw [h.2]), hb⟩
theorem FindIs.calls {s : ByteArray} {p : Nat} {z : Bool} (h : FindIs s p z) {w : World} (hm : Met w) :
    Calls Tryd.prog 15 #[.string s] w fun e w' => e = .returned (.tuple #[.int .i64 p, .bool z]) ∧ Below w.heap.size w w' :=
  (find_calls s h.1 w hm.mx).mono fun e w' ⟨he, hb⟩ => ⟨he.trans (by rw [h.2]), hb⟩
theorem FindIs.rcalls {s : ByteArray} {p : Nat} {z : Bool} (h : FindIs s p z) (w : World) :
    Calls Tryd.prog 16 #[.string s] w fun e w' => e = .returned (.tuple #[.int .i64 p, .bool z]) ∧ Below w.heap.size w w' :=
  (ref_find_calls s h.1 w).mono fun e w' ⟨he, hw⟩ => ⟨he.trans (by rw [h.2]), hw ▸ Below.refl _ _⟩
/-- What they hand back. -/
theorem text_goes {a b c d : Nat} {p : Int} (h : a < 256 ∧ b < 256 ∧ c < 256 ∧ d < 256) : (∃ (n : Nat) (t : ByteArray), p = n ∧ 0 < n ∧ n ≤ 65535 ∧ TextIs a b c d p t true ∧ t.data.toList = endU a b c d n) ∨ ((p < 1 ∨ 65535 < p) ∧ TextIs a b c d p ⟨#[]⟩ false) := by
  by_cases h1 : 0 < p ∧ p ≤ 65535
  · exact .inl ⟨p.toNat, ⟨(endU a b c d p.toNat).toArray⟩, by omega, by omega, by omega, ⟨h, by rw [textR, if_pos h1]; rfl⟩, rfl⟩
  · exact .inr ⟨by omega, h, by rw [textR, if_neg h1]; rfl⟩
theorem port_goes (p : Int) : (∃ (n : Nat) (t : ByteArray), p = n ∧ 0 < n ∧ n ≤ 65535 ∧ PortIs p t true ∧ t.data.toList = portU n) ∨ ((p < 1 ∨ 65535 < p) ∧ PortIs p ⟨#[]⟩ false) := by
  by_cases h1 : 0 < p ∧ p ≤ 65535
  · exact .inl ⟨p.toNat, ⟨(portU p.toNat).toArray⟩, by omega, by omega, by omega, by rw [PortIs, portR, if_pos h1]; rfl, rfl⟩
  · exact .inr ⟨by omega, by rw [PortIs, portR, if_neg h1]; rfl⟩
theorem end_goes (s : ByteArray) (hs : s.size ≤ 1000000) : (∃ a b c d p : Nat, readE s.data.toList = .ok a b c d p ∧ EndIs s a b c d p 0) ∨ (readE s.data.toList = .form ∧ EndIs s 0 0 0 0 0 2) ∨ (readE s.data.toList = .kind ∧ EndIs s 0 0 0 0 0 8) := by
  cases h : readE s.data.toList with
  | ok a b c d p => exact .inl ⟨a, b, c, d, p, rfl, hs, by rw [h]; rfl⟩
  | form => exact .inr (.inl ⟨rfl, hs, by rw [h]; rfl⟩)
  | kind => exact .inr (.inr ⟨rfl, hs, by rw [h]; rfl⟩)
theorem find_goes (s : ByteArray) (hs : s.size ≤ 1000000) : (∃ p : Nat, findE s.data.toList = some p ∧ FindIs s p true) ∨ (findE s.data.toList = none ∧ FindIs s 0 false) := by
  cases h : findE s.data.toList with
  | some p => exact .inl ⟨p, rfl, hs, by rw [h]; rfl⟩
  | none => exact .inr ⟨rfl, hs, by rw [h]; rfl⟩
/-! The example. -/
theorem aw_text : TextIs 10 0 0 1 80 ⟨#[124, 49, 124, 49, 48, 46, 48, 46, 48, 46, 49, 124, 56, 48, 124]⟩ true := ⟨by decide, by
  rw [textR, if_pos (by decide), show endU 10 0 0 1 ((80 : Int)).toNat = [124, 49, 124, 49, 48, 46, 48, 46, 48, 46, 49, 124, 56, 48, 124] from by
    have : digU 80 = [56, 48] := ((getMost_iff 99 (by decide) [56, 48] 80).1 (by decide +kernel)).1.symm
    have h10 : digU 10 = [49, 48] := ((getMost_iff 99 (by decide) [49, 48] 10).1 (by decide +kernel)).1.symm
    have h0 : digU 0 = [48] := ((getMost_iff 99 (by decide) [48] 0).1 (by decide +kernel)).1.symm
    have h1 : digU 1 = [49] := ((getMost_iff 99 (by decide) [49] 1).1 (by decide +kernel)).1.symm
    show endU 10 0 0 1 80 = _
    rw [endU, hostU, this, h10, h0, h1]; rfl]; rfl⟩
theorem aw_port : PortIs 80 ⟨#[40, 124, 124, 124, 56, 48, 124, 41]⟩ true := by
  rw [PortIs, portR, if_pos (by decide), show portU ((80 : Int)).toNat = [40, 124, 124, 124, 56, 48, 124, 41] from by
    have : digU 80 = [56, 48] := ((getMost_iff 99 (by decide) [56, 48] 80).1 (by decide +kernel)).1.symm
    show portU 80 = _
    rw [portU, this]; rfl]; rfl
theorem aw_read : EndIs ⟨#[124, 49, 124, 49, 48, 46, 48, 46, 48, 46, 49, 124, 56, 48, 124]⟩ 10 0 0 1 80 0 := ⟨by decide, by
  rw [show readE (⟨#[124, 49, 124, 49, 48, 46, 48, 46, 48, 46, 49, 124, 56, 48, 124]⟩ : ByteArray).data.toList = .ok 10 0 0 1 80 from by decide +kernel]; rfl⟩
theorem aw_kind : EndIs ⟨#[124, 50, 124, 58, 58, 49, 124, 56, 48, 124]⟩ 0 0 0 0 0 8 := ⟨by decide, by
  rw [show readE (⟨#[124, 50, 124, 58, 58, 49, 124, 56, 48, 124]⟩ : ByteArray).data.toList = .kind from by decide +kernel]; rfl⟩
theorem aw_find : FindIs ⟨#[50, 50, 57, 32, 40, 124, 124, 124, 56, 48, 124, 41]⟩ 80 true := ⟨by decide, by
  rw [show findE (⟨#[50, 50, 57, 32, 40, 124, 124, 124, 56, 48, 124, 41]⟩ : ByteArray).data.toList = some 80 from by decide +kernel]; rfl⟩
theorem aw_text' (w : World) : Calls Tryd.prog 9 #[.agg #[.int .u8 10, .int .u8 0, .int .u8 0, .int .u8 1, .int .i64 80]] w fun e w' => e = .returned (.tuple #[.string ⟨#[124, 49, 124, 49, 48, 46, 48, 46, 48, 46, 49, 124, 56, 48, 124]⟩, .bool true]) ∧ Below w.heap.size w w' := aw_text.calls w
theorem aw_port' (w : World) : Calls Tryd.prog 13 #[.int .i64 80] w fun e w' => e = .returned (.tuple #[.string ⟨#[40, 124, 124, 124, 56, 48, 124, 41]⟩, .bool true]) ∧ Below w.heap.size w w' := aw_port.calls w
theorem aw_read' (w : World) (hm : Met w) : Calls Tryd.prog 11 #[.string ⟨#[124, 49, 124, 49, 48, 46, 48, 46, 48, 46, 49, 124, 56, 48, 124]⟩] w fun e w' => e = .returned (.tuple #[.agg #[.int .u8 10, .int .u8 0, .int .u8 0, .int .u8 1, .int .i64 80], .int .i64 0]) ∧ Below w.heap.size w w' := aw_read.calls hm
theorem aw_kind' (w : World) (hm : Met w) : Calls Tryd.prog 11 #[.string ⟨#[124, 50, 124, 58, 58, 49, 124, 56, 48, 124]⟩] w fun e w' => e = .returned (.tuple #[.agg #[.int .u8 0, .int .u8 0, .int .u8 0, .int .u8 0, .int .i64 0], .int .i64 8]) ∧ Below w.heap.size w w' := aw_kind.calls hm
theorem aw_find' (w : World) (hm : Met w) : Calls Tryd.prog 15 #[.string ⟨#[50, 50, 57, 32, 40, 124, 124, 124, 56, 48, 124, 41]⟩] w fun e w' => e = .returned (.tuple #[.int .i64 80, .bool true]) ∧ Below w.heap.size w w' := aw_find.calls hm

set_option maxHeartbeats 4000000 in
set_option maxRecDepth 100000 in
theorem awake_calls (w : World) (hm : Met w) : Calls Tryd.prog 8 #[] w fun e w' => e = .returned (.bool true) ∧ Below w.heap.size w w' := by
  have HM := Aside0.mk hm
  clear hm
  go_enter Tryd.func8, Tryd.ntmps8
  go_wp2_with (first
    | (go_at_call 11; with_reducible refine (aw_read' _ HM.out).mono ?_; rintro e w1 ⟨rfl, hb⟩; have HB := Aside0.mk hb; clear hb)
    | (go_at_call 11; with_reducible refine (aw_kind' _ (HM.out.below (HB.out.alloc HB.out.size _))).mono ?_; rintro e w2 ⟨rfl, hb⟩; have HK := Aside0.mk (blk_below (blk_new w1 _) hb); replace HB := Aside0.mk ((HB.out.alloc HB.out.size _).trans (hb.mono (HB.out.alloc HB.out.size _).size)); clear hb)
    | (go_at_call 15; with_reducible refine (aw_find' _ (HM.out.below (HB.out.alloc HB.out.size _))).mono ?_; rintro e w3 ⟨rfl, hb⟩; replace HK := Aside0.mk (blk_below (blk_alloc HK.out _) hb); replace HB := Aside0.mk ((HB.out.alloc HB.out.size _).trans (hb.mono (HB.out.alloc HB.out.size _).size)); clear hb)
    | (go_at_call 13; with_reducible refine (aw_port' _).mono ?_; rintro e w4 ⟨rfl, hb⟩; replace HK := Aside0.mk (blk_below HK.out hb); replace HB := Aside0.mk (HB.out.trans (hb.mono HB.out.size)); clear hb; obtain ⟨x0, x1, x2, x3, x4⟩ := end_cells HK.out)
    | (go_at_call 9; with_reducible refine (aw_text' _).mono ?_; rintro e w5 ⟨rfl, hb⟩; replace HB := Aside0.mk (HB.out.trans (hb.mono HB.out.size)); clear hb))
  go_ret
  exact ⟨rfl, HB.out⟩
end Go.Proofs.YtfbjejkmjbknaaaDoor.Ext
