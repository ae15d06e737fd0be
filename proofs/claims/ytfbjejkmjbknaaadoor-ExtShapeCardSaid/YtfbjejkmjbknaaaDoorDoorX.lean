/- What the rows of this seat share, more: an address that came in, by value. -/
/- What the rows of this seat share, more: an end that came in, by value. -/
/- What the rows of this seat share, where errors are listed: the handle of errors.As, two sentinels of ext's. -/
import Derived.Test.YtfbjejkmjbknaaaDoorDoor
import Derived.Test.YtfbjejkmjbknaaaDoorExtLaws
import Derived.LaidHandle
import Derived.Stop.LaidTwo
namespace Go.Proofs.YtfbjejkmjbknaaaDoor.Door
open Go Go.ChangeShapes Go.WideShapes Go.ChangeAt Go.RowKit
set_option linter.unusedVariables false

theorem list4 {α : Type} (l : List α) (h : (⟨l⟩ : Array α).size = 4) : ∃ a b c d, l = [a, b, c, d] := by
  match l, h with
  | [a, b, c, d], _ => exact ⟨a, b, c, d, rfl⟩
theorem u8_nat {x : Int} (h : (Lit.int .u8 x).wf = true) : ∃ n : Nat, x = n ∧ n < 256 := by
  simp [Lit.wf, IntKind.min, IntKind.max, IntKind.signed, IntKind.bits] at h
  exact ⟨x.toNat, by omega, by omega⟩
theorem u8_byte {x : Int} (h : (Lit.int .u8 x).wf = true) : ∃ a : UInt8, x = (a.toNat : Int) := by
  obtain ⟨n, rfl, hn⟩ := u8_nat h
  exact ⟨UInt8.ofNat n, by rw [UInt8.toNat_ofNat']; omega⟩
theorem cells5 : Tryd.prog.cellsOf 5 = 1 := by kernel_rfl
theorem cells23 : Tryd.prog.cellsOf 23 = 4 := by kernel_rfl
theorem host_array : Tryd.prog.underlying 23 = some (.array 4 5) := by kernel_rfl
set_option maxRecDepth 100000 in
/-- An address that came in, by value. -/
theorem open_host {H : Type} {enc : TypeId × Value → H} {W : World} {base b0 : Nat} {sp : Nat → Bool} {held : Bool} {v : Value} {d : DataW H} {p : List MemPlace} (hv : Value.okWide Tryd.prog W .any base 23 v) (h : DataW.Trod enc Tryd.prog W b0 sp held 23 v d p) :
    ∃ a b c e : Nat, a < 256 ∧ b < 256 ∧ c < 256 ∧ e < 256 ∧ v = .agg #[.int .u8 a, .int .u8 b, .int .u8 c, .int .u8 e] := by
  obtain ⟨cs, rfl, hsz, _⟩ : ∃ cs, v = .agg cs ∧ cs.size = Tryd.prog.cellsOf 23 ∧ Row.okWide Tryd.prog W .any base 23 cs := by
    simpa [Value.okWide, host_array] using hv
  rw [cells23] at hsz
  obtain ⟨l⟩ := cs
  obtain ⟨c0, c1, c2, c3, rfl⟩ := list4 l hsz
  obtain ⟨fuel, hf⟩ := h
  obtain ⟨y0, y1, y2, y3, m, hx, hy0, hy1, hy2, hy3⟩ := trod_array4 host_array cells5 hf
  obtain ⟨x0, e0, rfl, w0⟩ := DataW.trod_int Tryd.underlying5 hy0
  obtain ⟨x1, e1, rfl, w1⟩ := DataW.trod_int Tryd.underlying5 hy1
  obtain ⟨x2, e2, rfl, w2⟩ := DataW.trod_int Tryd.underlying5 hy2
  obtain ⟨x3, e3, rfl, w3⟩ := DataW.trod_int Tryd.underlying5 hy3
  simp at e0 e1 e2 e3
  subst e0 e1 e2 e3
  obtain ⟨a, rfl, ha⟩ := u8_nat w0
  obtain ⟨b, rfl, hb⟩ := u8_nat w1
  obtain ⟨c, rfl, hc⟩ := u8_nat w2
  obtain ⟨e, rfl, he⟩ := u8_nat w3
  exact ⟨a, b, c, e, ha, hb, hc, he, rfl⟩
end Go.Proofs.YtfbjejkmjbknaaaDoor.Door

namespace Go.Proofs.YtfbjejkmjbknaaaDoor.Door
open Go Go.ChangeShapes Go.WideShapes Go.ChangeAt Go.RowKit
set_option linter.unusedVariables false

theorem list5 {α : Type} (l : List α) (h : (⟨l⟩ : Array α).size = 5) : ∃ a b c d e, l = [a, b, c, d, e] := by
  match l, h with
  | [a, b, c, d, e], _ => exact ⟨a, b, c, d, e, rfl⟩
theorem cells3 : Tryd.prog.cellsOf 3 = 1 := by kernel_rfl
theorem cells25 : Tryd.prog.cellsOf 25 = 5 := by kernel_rfl
theorem end_struct : ∃ f0 f1, Tryd.prog.underlying 25 = some (.struct #[f0, f1]) ∧ f0.type = 23 ∧ f0.offset = 0 ∧ f1.type = 3 ∧ f1.offset = 4 := ⟨_, _, Tryd.underlying25, rfl, rfl, rfl, rfl⟩
set_option maxRecDepth 100000 in
theorem open_end {H : Type} {enc : TypeId × Value → H} {W : World} {base b0 : Nat} {sp : Nat → Bool} {held : Bool} {v : Value} {d : DataW H} {p : List MemPlace} (hv : Value.okWide Tryd.prog W .any base 25 v) (h : DataW.Trod enc Tryd.prog W b0 sp held 25 v d p) :
    ∃ (a b c e : Nat) (q : Int), a < 256 ∧ b < 256 ∧ c < 256 ∧ e < 256 ∧ (-9223372036854775808 ≤ q ∧ q ≤ 9223372036854775807) ∧ v = .agg #[.int .u8 a, .int .u8 b, .int .u8 c, .int .u8 e, .int .i64 q] := by
  obtain ⟨f0, f1, hst, ht0, ho0, ht1, ho1⟩ := end_struct
  obtain ⟨cs, rfl, hsz, _⟩ : ∃ cs, v = .agg cs ∧ cs.size = Tryd.prog.cellsOf 25 ∧ Row.okWide Tryd.prog W .any base 25 cs := by
    simpa [Value.okWide, hst] using hv
  rw [cells25] at hsz
  obtain ⟨l⟩ := cs
  obtain ⟨c0, c1, c2, c3, c4, rfl⟩ := list5 l hsz
  obtain ⟨fuel, hf⟩ := h
  obtain ⟨z0, z1, n, hx, _, g0, g1⟩ := trod_struct2 hst hf
  rw [ht0, ho0, cells23] at g0
  rw [ht1, ho1, cells3] at g1
  replace g0 : DataW.trod enc Tryd.prog W b0 sp held n 23 [c0, c1, c2, c3] = some z0 := g0
  replace g1 : DataW.trod enc Tryd.prog W b0 sp held n 3 [c4] = some z1 := g1
  obtain ⟨y0, y1, y2, y3, m, hx0, hy0, hy1, hy2, hy3⟩ := trod_array4 host_array cells5 g0
  obtain ⟨x0, e0, rfl, w0⟩ := DataW.trod_int Tryd.underlying5 hy0
  obtain ⟨x1, e1, rfl, w1⟩ := DataW.trod_int Tryd.underlying5 hy1
  obtain ⟨x2, e2, rfl, w2⟩ := DataW.trod_int Tryd.underlying5 hy2
  obtain ⟨x3, e3, rfl, w3⟩ := DataW.trod_int Tryd.underlying5 hy3
  obtain ⟨x4, e4, rfl, w4⟩ := DataW.trod_int Tryd.underlying3 g1
  simp at e0 e1 e2 e3 e4
  subst e0 e1 e2 e3 e4
  obtain ⟨a, rfl, ha⟩ := u8_nat w0
  obtain ⟨b, rfl, hb⟩ := u8_nat w1
  obtain ⟨c, rfl, hc⟩ := u8_nat w2
  obtain ⟨e, rfl, he⟩ := u8_nat w3
  exact ⟨a, b, c, e, x4, ha, hb, hc, he, int_bounds w4, rfl⟩
end Go.Proofs.YtfbjejkmjbknaaaDoor.Door

namespace Go.Proofs.YtfbjejkmjbknaaaDoor.Door
open Go Go.ChangeShapes Go.WideShapes Go.ChangeAt Go.RowKit
set_option linter.unusedVariables false

def laidX : List (String × DataW Unit) := [("unicode/utf8.acceptRanges", Rows.laid_unicode_utf8_acceptRanges), ("errors.errorType", Rows.laid_errors_errorType), ("wharfinger/ext.errForm", Rows.laid_wharfinger_ext_errForm), ("wharfinger/ext.errKind", Rows.laid_wharfinger_ext_errKind), ("unicode/utf8.first", Rows.laid_unicode_utf8_first)]
def plainX : List (String × DataW Unit) := [("unicode/utf8.acceptRanges", Rows.laid_unicode_utf8_acceptRanges), ("wharfinger/ext.errForm", Rows.laid_wharfinger_ext_errForm), ("wharfinger/ext.errKind", Rows.laid_wharfinger_ext_errKind), ("unicode/utf8.first", Rows.laid_unicode_utf8_first)]
def handX : List (String × DataW Unit) := [("errors.errorType", Rows.laid_errors_errorType)]
set_option maxRecDepth 100000 in
theorem plainX_eq : (laidX.filter fun x => x.2.handleName?.isNone) = plainX := by kernel_rfl
set_option maxRecDepth 100000 in
theorem handX_eq : (laidX.filter fun x => x.2.handleName?.isSome) = handX := by kernel_rfl
/-- A start at which the handle lies. -/
noncomputable def startX (os : Os) : World :=
  let w0 := World.holding Tryd.prog os ⟨#[], #[], []⟩
  { w0 with heap := w0.heap.modify 2 fun
      | .cells _ t frozen => .cells #[.iface 100 (.agg #[.pointer (some ⟨Tryd.prog.globals.size, 47, none⟩)])] t frozen
      | o => o }
noncomputable def worldX (os : Os) : World := (startX os).layVars Tryd.prog plainX
theorem worldX_os (os : Os) : (worldX os).os = os := World.layVars_os _ _ _
set_option maxRecDepth 100000 in
theorem laid_metP (os : Os) : laidMet Tryd.prog plainX (worldX os) := by
  have e1 : (plainX.filter fun x => (plainX.map (·.1)).contains x.1) = plainX := List.filter_eq_self.2 fun x hx => List.contains_iff_mem.2 (List.mem_map.2 ⟨x, hx, rfl⟩)
  have e2 : (plainX.filter fun x => !(plainX.map (·.1)).contains x.1) = [] := List.filter_eq_nil_iff.2 fun x hx => by rw [List.contains_iff_mem.2 (List.mem_map.2 ⟨x, hx, rfl⟩)]; simp
  exact laidMet_layVars (w0 := startX os) (plainX.map (·.1)) [] (by rw [e1]; rfl) (by rw [e1]; kernel_rfl) (by rw [e1]; kernel_rfl) (by rw [e2]; exact LaidIn.none)
set_option maxRecDepth 100000 in
theorem laid_metX (os : Os) (args : Array Value) : laidMetH Tryd.prog laidX ((worldX os).forCall (fun _ _ => 0) ⟨#[], args, []⟩).memory :=
  laidMetH_of_parts (by rw [plainX_eq]; exact (laid_metP os).of_heap (by simp [World.memory, World.forCall, Input.heap])) (by rw [handX_eq]; kernel_rfl)

theorem et : Tryd.prog.globalNamed "errors.errorType" = some 2 := by kernel_rfl
theorem rt : (Tryd.prog.cutTypes.find? (·.1 == "internal/reflectlite.rtype")).map (·.2) = some 100 := by kernel_rfl
set_option maxRecDepth 100000 in
theorem oneRow : ((List.range Tryd.prog.types.size).filter fun t => Tryd.prog.rowNamed t [101, 114, 114, 111, 114]) = [47] := by kernel_rfl
theorem gF : Tryd.prog.globalNamed "wharfinger/ext.errForm" = some 1 := by kernel_rfl
theorem gK : Tryd.prog.globalNamed "wharfinger/ext.errKind" = some 0 := by kernel_rfl
theorem gFT : (Tryd.prog.globals[1]?).map (·.type) = some 47 := by kernel_rfl
theorem gKT : (Tryd.prog.globals[0]?).map (·.type) = some 47 := by kernel_rfl
theorem star : "*" ++ "errors.errorString" = "*errors.errorString" := by decide
theorem rowE (u : TypeId) (h : Tryd.prog.typeName? 3 u = some "*errors.errorString") : u = 126 :=
  typeName_ptr_named (nm := "errors.errorString") (by rw [star]; kernel_rfl) (by kernel_rfl) (by decide) u (by rw [star]; exact h)
theorem cellsE : Tryd.prog.cellsOf 145 = 1 := by kernel_rfl
theorem cellsS : Tryd.prog.cellsOf 9 = 1 := by kernel_rfl
theorem handle_of {W : World} (h : handlesMet Tryd.prog handX W) : W.cell? ⟨2, 0, none⟩ = some (.iface 100 (.agg #[.pointer (some ⟨Tryd.prog.globals.size, 47, none⟩)])) := by
  obtain ⟨name, u, ty, e1, e2, e3, e4, e5⟩ := h _ (List.mem_singleton.2 rfl)
  have en : name = [101, 114, 114, 111, 114] := (Option.some.inj e1).symm
  subst en
  obtain rfl := Option.some.inj (rt.symm.trans e2)
  have hm : ty ∈ (List.range Tryd.prog.types.size).filter fun t => Tryd.prog.rowNamed t [101, 114, 114, 111, 114] := List.mem_filter.2 ⟨List.mem_range.2 e3, e4⟩
  rw [oneRow] at hm
  obtain rfl := List.mem_singleton.1 hm
  have hh : typeHandle Tryd.prog 47 = .pointer (some ⟨Tryd.prog.globals.size, 47, none⟩) := by kernel_rfl
  rw [hh] at e5
  simpa using World.var?_cell et e5 0
theorem globals_size : Tryd.prog.globals.size = 6 := by kernel_rfl
/-- What the laws ask of the first world. -/
theorem met_of {W : World} (h : laidMetH Tryd.prog laidX W) (hsh : W.ShapedOpen Tryd.prog) : Ext.Met W := by
  have hp : laidMet Tryd.prog plainX W ∧ handlesMet Tryd.prog handX W := by
    have h' := h
    unfold laidMetH at h'
    rw [handX_eq, plainX_eq] at h'
    exact h'
  obtain ⟨a0, a1, s0, s1, c0, c1, t0, t1, hv0, hv1, hc0, hs0, hz0, hc1, hs1, hz1, hne, hb0, hb1⟩ := laid_sentinels2 hp.1.tail gF gFT gK gKT Tryd.underlying47 rowE Tryd.underlying126 Tryd.underlying145 rfl rfl Tryd.underlying9 cellsE cellsS
  have hg0 : W.cell? ⟨1, 0, none⟩ = some (.iface 126 (.pointer (some a0))) := by simpa using World.var?_cell gF hv0 0
  have hg1 : W.cell? ⟨0, 0, none⟩ = some (.iface 126 (.pointer (some a1))) := by simpa using World.var?_cell gK hv1 0
  have hh := handle_of hp.2
  rw [globals_size] at hh
  exact ⟨maxLen_cell hsh, a1, a0, hg1, hg0, hh, hne, ⟨_, _, hb1⟩, ⟨_, _, hb0⟩⟩
end Go.Proofs.YtfbjejkmjbknaaaDoor.Door
