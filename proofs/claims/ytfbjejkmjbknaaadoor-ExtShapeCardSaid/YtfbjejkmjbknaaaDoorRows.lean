/-
  NARROWER THAN 'FOR EVERY INPUT', by the rows' own cells (each row's printed sentence says how): ExtTells: laid · ExtBack: laid · ExtFew: laid · ExtShape: laid · ExtKinds: laid.
  DERIVED. THE GIVEN ROWS OF THIS SEAT. 5 by the template 'for every input the law returns true; each argument reads behind the call as it read before'; 0 by the template 'total and deterministic' (their statements: YtfbjejkmjbknaaaDoorTotals.lean).
  GIVEN WITH THE SEED: the statements are not yours to turn. If you find one false, say at which input.
  Laid BY PROGRAM, IN A SANDBOX (cutbox-rows.mjs): the forced cells as the released guide's own fill.sh prints them over the translation eac680cd435f52d2… (all of the seat's roots in one cut). By AI agents, Wed Nov 11 2026. No macro, syntax, notation, axiom, sorry.
-/
import Derived.Test.YtfbjejkmjbknaaaDoorChecked
import GoSem.PinnedTables
import GoSem.Claim
import GoSem.ClaimJoined
import GoSem.ClaimMapViews
import Derived.JoinedTies
import Derived.KernelRfl
namespace Go.Proofs.YtfbjejkmjbknaaaDoor
/- THE CELL 'sum', in the pinned program and in every row, IS THE sha256 OF THE DUMP (.gsa) THAT YtfbjejkmjbknaaaDoorProg.lean LOADS. Nothing in Lean hashes anything: it is a label: what it is worth is what the hold of that sum in a sandbox is worth. -/
noncomputable def Tryd.pinned : Pinned := { name := "ytfbjejkmjbknaaadoor", sum := "eac680cd435f52d29f4c486acf98fab51b5e8bde39d92963359562b4117a776a", checked := Tryd.checked }
namespace Rows
def none {H : Type} : Left H := { results := [], args := [] }

/- WHAT THE LISTED PACKAGE-LEVEL VARIABLES READ AS WHEN THE CALL BEGINS. Each datum BY PROGRAM (the guide's laid-datum.mjs) off the statement by which the dump's own 'gosem.cut.vars' lays the variable. In a bare row this is a premise. The card (YtfbjejkmjbknaaaDoorCards.lean) ties it to the program's text. -/
def laid_unicode_utf8_acceptRanges {H : Type} : DataW H := .agg [.agg [.lit (.int .u8 128), .lit (.int .u8 191)], .agg [.lit (.int .u8 160), .lit (.int .u8 191)], .agg [.lit (.int .u8 128), .lit (.int .u8 159)], .agg [.lit (.int .u8 144), .lit (.int .u8 191)], .agg [.lit (.int .u8 128), .lit (.int .u8 143)], .agg [.lit (.int .u8 0), .lit (.int .u8 0)], .agg [.lit (.int .u8 0), .lit (.int .u8 0)], .agg [.lit (.int .u8 0), .lit (.int .u8 0)], .agg [.lit (.int .u8 0), .lit (.int .u8 0)], .agg [.lit (.int .u8 0), .lit (.int .u8 0)], .agg [.lit (.int .u8 0), .lit (.int .u8 0)], .agg [.lit (.int .u8 0), .lit (.int .u8 0)], .agg [.lit (.int .u8 0), .lit (.int .u8 0)], .agg [.lit (.int .u8 0), .lit (.int .u8 0)], .agg [.lit (.int .u8 0), .lit (.int .u8 0)], .agg [.lit (.int .u8 0), .lit (.int .u8 0)]]
def laid_errors_errorType {H : Type} : DataW H := .iface "internal/reflectlite.rtype" (.agg [.ptr (.lit (.string [101, 114, 114, 111, 114]))])
def laid_wharfinger_ext_errForm {H : Type} : DataW H := .iface "*errors.errorString" (.ptr (.agg [.lit (.string [102, 111, 114, 109])]))
def laid_wharfinger_ext_errKind {H : Type} : DataW H := .iface "*errors.errorString" (.ptr (.agg [.lit (.string [107, 105, 110, 100])]))
/-- One of Go's own tables, pinned by name: the form's constant. -/
def laid_unicode_utf8_first : DataW Unit := Go.Pinned.utf8First

/-- 'wharfingerlaw04.ExtTells': WHATEVER THE INPUT: true; the input reads as it did. -/
def extTellsSpec : ChangeSpec := { name := "extTells", fn := fun _ => fun
  | [d1, d2, d3] => { results := [.lit (.bool true)], args := [d1, d2, d3] }
  | _ => none }
def extTellsRow : OpenClaim := { program := "ytfbjejkmjbknaaadoor", sum := "eac680cd435f52d29f4c486acf98fab51b5e8bde39d92963359562b4117a776a", func := "wharfinger/wharfingerlaw04.ExtTells", spec := "extTells", inPlace := ["internal/bytealg.CountString", "internal/bytealg.IndexByteString", "internal/bytealg.IndexString", "internal/reflectlite.TypeOf", "internal/reflectlite.ValueOf", "(internal/reflectlite.Value).Type", "(internal/reflectlite.Value).IsNil", "(internal/reflectlite.Value).Elem", "(internal/reflectlite.Value).Set", "internal/abi.NoEscape", "internal/bytealg.MakeNoZero"], unfollowed := true, recurses := true, named := ["wharfinger/ext.errKind", "wharfinger/ext.errForm", "unicode/utf8.first", "unicode/utf8.acceptRanges", "internal/bytealg.MaxLen", "errors.errorType"], apart := false, laid := [("unicode/utf8.acceptRanges", laid_unicode_utf8_acceptRanges), ("errors.errorType", laid_errors_errorType), ("wharfinger/ext.errForm", laid_wharfinger_ext_errForm), ("wharfinger/ext.errKind", laid_wharfinger_ext_errKind), ("unicode/utf8.first", laid_unicode_utf8_first)] }
def ExtTellsSaid : Prop := extTellsRow.holds Tryd.pinned (OpenSpec.ofChange extTellsSpec)

/-- ITS FALSE NEIGHBOUR: 'it returns false'. Refute it at one input. -/
def extTellsWrong : ChangeSpec := { name := "extTells", fn := fun _ => fun
  | [d1, d2, d3] => { results := [.lit (.bool false)], args := [d1, d2, d3] }
  | _ => none }
def ExtTellsWrongFalsely : Prop := extTellsRow.holds Tryd.pinned (OpenSpec.ofChange extTellsWrong)

/-- 'wharfingerlaw04.ExtBack': WHATEVER THE INPUT: true; the input reads as it did. -/
def extBackSpec : ChangeSpec := { name := "extBack", fn := fun _ => fun
  | [d1, d2] => { results := [.lit (.bool true)], args := [d1, d2] }
  | _ => none }
def extBackRow : OpenClaim := { program := "ytfbjejkmjbknaaadoor", sum := "eac680cd435f52d29f4c486acf98fab51b5e8bde39d92963359562b4117a776a", func := "wharfinger/wharfingerlaw04.ExtBack", spec := "extBack", inPlace := ["internal/bytealg.CountString", "internal/bytealg.IndexByteString", "internal/bytealg.IndexString", "internal/reflectlite.TypeOf", "internal/reflectlite.ValueOf", "(internal/reflectlite.Value).Type", "(internal/reflectlite.Value).IsNil", "(internal/reflectlite.Value).Elem", "(internal/reflectlite.Value).Set", "internal/abi.NoEscape", "internal/bytealg.MakeNoZero"], unfollowed := true, recurses := true, named := ["wharfinger/ext.errKind", "wharfinger/ext.errForm", "unicode/utf8.first", "unicode/utf8.acceptRanges", "internal/bytealg.MaxLen", "errors.errorType"], apart := false, laid := [("unicode/utf8.acceptRanges", laid_unicode_utf8_acceptRanges), ("errors.errorType", laid_errors_errorType), ("wharfinger/ext.errForm", laid_wharfinger_ext_errForm), ("wharfinger/ext.errKind", laid_wharfinger_ext_errKind), ("unicode/utf8.first", laid_unicode_utf8_first)] }
def ExtBackSaid : Prop := extBackRow.holds Tryd.pinned (OpenSpec.ofChange extBackSpec)

/-- ITS FALSE NEIGHBOUR: 'it returns false'. Refute it at one input. -/
def extBackWrong : ChangeSpec := { name := "extBack", fn := fun _ => fun
  | [d1, d2] => { results := [.lit (.bool false)], args := [d1, d2] }
  | _ => none }
def ExtBackWrongFalsely : Prop := extBackRow.holds Tryd.pinned (OpenSpec.ofChange extBackWrong)

/-- 'wharfingerlaw04.ExtFew': WHATEVER THE INPUT: true; the input reads as it did. -/
def extFewSpec : ChangeSpec := { name := "extFew", fn := fun _ => fun
  | [d1, d2, d3] => { results := [.lit (.bool true)], args := [d1, d2, d3] }
  | _ => none }
def extFewRow : OpenClaim := { program := "ytfbjejkmjbknaaadoor", sum := "eac680cd435f52d29f4c486acf98fab51b5e8bde39d92963359562b4117a776a", func := "wharfinger/wharfingerlaw04.ExtFew", spec := "extFew", inPlace := ["internal/bytealg.CountString", "internal/bytealg.IndexByteString", "internal/bytealg.IndexString", "internal/reflectlite.TypeOf", "internal/reflectlite.ValueOf", "(internal/reflectlite.Value).Type", "(internal/reflectlite.Value).IsNil", "(internal/reflectlite.Value).Elem", "(internal/reflectlite.Value).Set", "internal/abi.NoEscape", "internal/bytealg.MakeNoZero"], unfollowed := true, recurses := true, named := ["wharfinger/ext.errKind", "wharfinger/ext.errForm", "unicode/utf8.first", "unicode/utf8.acceptRanges", "internal/bytealg.MaxLen", "errors.errorType"], apart := false, laid := [("unicode/utf8.acceptRanges", laid_unicode_utf8_acceptRanges), ("errors.errorType", laid_errors_errorType), ("wharfinger/ext.errForm", laid_wharfinger_ext_errForm), ("wharfinger/ext.errKind", laid_wharfinger_ext_errKind), ("unicode/utf8.first", laid_unicode_utf8_first)] }
def ExtFewSaid : Prop := extFewRow.holds Tryd.pinned (OpenSpec.ofChange extFewSpec)

/-- ITS FALSE NEIGHBOUR: 'it returns false'. Refute it at one input. -/
def extFewWrong : ChangeSpec := { name := "extFew", fn := fun _ => fun
  | [d1, d2, d3] => { results := [.lit (.bool false)], args := [d1, d2, d3] }
  | _ => none }
def ExtFewWrongFalsely : Prop := extFewRow.holds Tryd.pinned (OpenSpec.ofChange extFewWrong)

/-- 'wharfingerlaw04.ExtShape': WHATEVER THE INPUT: true; the input reads as it did. -/
def extShapeSpec : ChangeSpec := { name := "extShape", fn := fun _ => fun
  | [d] => { results := [.lit (.bool true)], args := [d] }
  | _ => none }
def extShapeRow : OpenClaim := { program := "ytfbjejkmjbknaaadoor", sum := "eac680cd435f52d29f4c486acf98fab51b5e8bde39d92963359562b4117a776a", func := "wharfinger/wharfingerlaw04.ExtShape", spec := "extShape", inPlace := ["internal/bytealg.CountString", "internal/bytealg.IndexByteString", "internal/bytealg.IndexString", "internal/reflectlite.TypeOf", "internal/reflectlite.ValueOf", "(internal/reflectlite.Value).Type", "(internal/reflectlite.Value).IsNil", "(internal/reflectlite.Value).Elem", "(internal/reflectlite.Value).Set", "internal/abi.NoEscape", "internal/bytealg.MakeNoZero"], unfollowed := true, recurses := true, named := ["wharfinger/ext.errKind", "wharfinger/ext.errForm", "unicode/utf8.first", "unicode/utf8.acceptRanges", "internal/bytealg.MaxLen", "errors.errorType"], apart := false, laid := [("unicode/utf8.acceptRanges", laid_unicode_utf8_acceptRanges), ("errors.errorType", laid_errors_errorType), ("wharfinger/ext.errForm", laid_wharfinger_ext_errForm), ("wharfinger/ext.errKind", laid_wharfinger_ext_errKind), ("unicode/utf8.first", laid_unicode_utf8_first)] }
def ExtShapeSaid : Prop := extShapeRow.holds Tryd.pinned (OpenSpec.ofChange extShapeSpec)

/-- ITS FALSE NEIGHBOUR: 'it returns false'. Refute it at one input. -/
def extShapeWrong : ChangeSpec := { name := "extShape", fn := fun _ => fun
  | [d] => { results := [.lit (.bool false)], args := [d] }
  | _ => none }
def ExtShapeWrongFalsely : Prop := extShapeRow.holds Tryd.pinned (OpenSpec.ofChange extShapeWrong)

/-- 'wharfingerlaw04.ExtKinds': WHATEVER THE INPUT: true; the input reads as it did. -/
def extKindsSpec : ChangeSpec := { name := "extKinds", fn := fun _ => fun
  | [d1, d2] => { results := [.lit (.bool true)], args := [d1, d2] }
  | _ => none }
def extKindsRow : OpenClaim := { program := "ytfbjejkmjbknaaadoor", sum := "eac680cd435f52d29f4c486acf98fab51b5e8bde39d92963359562b4117a776a", func := "wharfinger/wharfingerlaw04.ExtKinds", spec := "extKinds", inPlace := ["internal/bytealg.CountString", "internal/bytealg.IndexByteString", "internal/bytealg.IndexString", "internal/reflectlite.TypeOf", "internal/reflectlite.ValueOf", "(internal/reflectlite.Value).Type", "(internal/reflectlite.Value).IsNil", "(internal/reflectlite.Value).Elem", "(internal/reflectlite.Value).Set", "internal/abi.NoEscape", "internal/bytealg.MakeNoZero"], unfollowed := true, recurses := true, named := ["wharfinger/ext.errKind", "wharfinger/ext.errForm", "unicode/utf8.first", "unicode/utf8.acceptRanges", "internal/bytealg.MaxLen", "errors.errorType"], apart := false, laid := [("unicode/utf8.acceptRanges", laid_unicode_utf8_acceptRanges), ("errors.errorType", laid_errors_errorType), ("wharfinger/ext.errForm", laid_wharfinger_ext_errForm), ("wharfinger/ext.errKind", laid_wharfinger_ext_errKind), ("unicode/utf8.first", laid_unicode_utf8_first)] }
def ExtKindsSaid : Prop := extKindsRow.holds Tryd.pinned (OpenSpec.ofChange extKindsSpec)

/-- ITS FALSE NEIGHBOUR: 'it returns false'. Refute it at one input. -/
def extKindsWrong : ChangeSpec := { name := "extKinds", fn := fun _ => fun
  | [d1, d2] => { results := [.lit (.bool false)], args := [d1, d2] }
  | _ => none }
def ExtKindsWrongFalsely : Prop := extKindsRow.holds Tryd.pinned (OpenSpec.ofChange extKindsWrong)

/- THE SECOND FORM. 'bulk': how many values and letters a reading holds, each counted each time it is reached (what is shared counts as often as it is met; a slice's spare places count too). A statement '..UptoSaid' is the law's where the arguments, and the package variables that the reading takes, are together of bulk at most 1048576: NARROWER than '..Said'. Prove '..Said' where nothing that the law and all that it calls make is longer than what came in: it says more and counts as full. Else prove '..UptoSaid'. A law counts once. -/
mutual
def uptoBulk {H : Type} : DataW H → Nat
  | .lit (.string bytes) => bytes.length + 1
  | .lit _ => 1
  | .nil => 1
  | .ptr d => uptoBulk d + 1
  | .slice elems spare => uptoBulkAll elems + uptoBulkAll spare + 1
  | .agg parts => uptoBulkAll parts + 1
  | .iface _ d => uptoBulk d + 1
  | .map entries => uptoBulkEntries entries + 1
  | .held _ => 1
def uptoBulkAll {H : Type} : List (DataW H) → Nat
  | [] => 0
  | d :: r => uptoBulk d + uptoBulkAll r
def uptoBulkEntries {H : Type} : List (Lit × DataW H) → Nat
  | [] => 0
  | x :: r => uptoBulkEntry x + uptoBulkEntries r
def uptoBulkEntry {H : Type} : Lit × DataW H → Nat
  | (.string bytes, d) => bytes.length + uptoBulk d + 1
  | (_, d) => uptoBulk d + 1
 end
def uptoSmall : (H : Type) → List (DataW H) → Bool := fun _ ds => decide (uptoBulkAll ds ≤ 1048576)
def OpenSpec.upto (s : _root_.Go.ChangeSpec) : _root_.Go.OpenSpec := { _root_.Go.OpenSpec.ofChange s with cond := some uptoSmall }

/-- 'wharfingerlaw04.ExtTells', WHERE WHAT IT READS IS OF BULK AT MOST 1048576: true; the input reads as it did. -/
def extTellsUptoRow : OpenClaim := { program := "ytfbjejkmjbknaaadoor", sum := "eac680cd435f52d29f4c486acf98fab51b5e8bde39d92963359562b4117a776a", func := "wharfinger/wharfingerlaw04.ExtTells", spec := "extTells", inPlace := ["internal/bytealg.CountString", "internal/bytealg.IndexByteString", "internal/bytealg.IndexString", "internal/reflectlite.TypeOf", "internal/reflectlite.ValueOf", "(internal/reflectlite.Value).Type", "(internal/reflectlite.Value).IsNil", "(internal/reflectlite.Value).Elem", "(internal/reflectlite.Value).Set", "internal/abi.NoEscape", "internal/bytealg.MakeNoZero"], unfollowed := true, recurses := true, named := ["wharfinger/ext.errKind", "wharfinger/ext.errForm", "unicode/utf8.first", "unicode/utf8.acceptRanges", "internal/bytealg.MaxLen", "errors.errorType"], apart := false, laid := [("unicode/utf8.acceptRanges", laid_unicode_utf8_acceptRanges), ("errors.errorType", laid_errors_errorType), ("wharfinger/ext.errForm", laid_wharfinger_ext_errForm), ("wharfinger/ext.errKind", laid_wharfinger_ext_errKind), ("unicode/utf8.first", laid_unicode_utf8_first)], narrowed := true }
def ExtTellsUptoSaid : Prop := extTellsUptoRow.holds Tryd.pinned (OpenSpec.upto extTellsSpec)

/-- 'wharfingerlaw04.ExtBack', WHERE WHAT IT READS IS OF BULK AT MOST 1048576: true; the input reads as it did. -/
def extBackUptoRow : OpenClaim := { program := "ytfbjejkmjbknaaadoor", sum := "eac680cd435f52d29f4c486acf98fab51b5e8bde39d92963359562b4117a776a", func := "wharfinger/wharfingerlaw04.ExtBack", spec := "extBack", inPlace := ["internal/bytealg.CountString", "internal/bytealg.IndexByteString", "internal/bytealg.IndexString", "internal/reflectlite.TypeOf", "internal/reflectlite.ValueOf", "(internal/reflectlite.Value).Type", "(internal/reflectlite.Value).IsNil", "(internal/reflectlite.Value).Elem", "(internal/reflectlite.Value).Set", "internal/abi.NoEscape", "internal/bytealg.MakeNoZero"], unfollowed := true, recurses := true, named := ["wharfinger/ext.errKind", "wharfinger/ext.errForm", "unicode/utf8.first", "unicode/utf8.acceptRanges", "internal/bytealg.MaxLen", "errors.errorType"], apart := false, laid := [("unicode/utf8.acceptRanges", laid_unicode_utf8_acceptRanges), ("errors.errorType", laid_errors_errorType), ("wharfinger/ext.errForm", laid_wharfinger_ext_errForm), ("wharfinger/ext.errKind", laid_wharfinger_ext_errKind), ("unicode/utf8.first", laid_unicode_utf8_first)], narrowed := true }
def ExtBackUptoSaid : Prop := extBackUptoRow.holds Tryd.pinned (OpenSpec.upto extBackSpec)

/-- 'wharfingerlaw04.ExtFew', WHERE WHAT IT READS IS OF BULK AT MOST 1048576: true; the input reads as it did. -/
def extFewUptoRow : OpenClaim := { program := "ytfbjejkmjbknaaadoor", sum := "eac680cd435f52d29f4c486acf98fab51b5e8bde39d92963359562b4117a776a", func := "wharfinger/wharfingerlaw04.ExtFew", spec := "extFew", inPlace := ["internal/bytealg.CountString", "internal/bytealg.IndexByteString", "internal/bytealg.IndexString", "internal/reflectlite.TypeOf", "internal/reflectlite.ValueOf", "(internal/reflectlite.Value).Type", "(internal/reflectlite.Value).IsNil", "(internal/reflectlite.Value).Elem", "(internal/reflectlite.Value).Set", "internal/abi.NoEscape", "internal/bytealg.MakeNoZero"], unfollowed := true, recurses := true, named := ["wharfinger/ext.errKind", "wharfinger/ext.errForm", "unicode/utf8.first", "unicode/utf8.acceptRanges", "internal/bytealg.MaxLen", "errors.errorType"], apart := false, laid := [("unicode/utf8.acceptRanges", laid_unicode_utf8_acceptRanges), ("errors.errorType", laid_errors_errorType), ("wharfinger/ext.errForm", laid_wharfinger_ext_errForm), ("wharfinger/ext.errKind", laid_wharfinger_ext_errKind), ("unicode/utf8.first", laid_unicode_utf8_first)], narrowed := true }
def ExtFewUptoSaid : Prop := extFewUptoRow.holds Tryd.pinned (OpenSpec.upto extFewSpec)

/-- 'wharfingerlaw04.ExtShape', WHERE WHAT IT READS IS OF BULK AT MOST 1048576: true; the input reads as it did. -/
def extShapeUptoRow : OpenClaim := { program := "ytfbjejkmjbknaaadoor", sum := "eac680cd435f52d29f4c486acf98fab51b5e8bde39d92963359562b4117a776a", func := "wharfinger/wharfingerlaw04.ExtShape", spec := "extShape", inPlace := ["internal/bytealg.CountString", "internal/bytealg.IndexByteString", "internal/bytealg.IndexString", "internal/reflectlite.TypeOf", "internal/reflectlite.ValueOf", "(internal/reflectlite.Value).Type", "(internal/reflectlite.Value).IsNil", "(internal/reflectlite.Value).Elem", "(internal/reflectlite.Value).Set", "internal/abi.NoEscape", "internal/bytealg.MakeNoZero"], unfollowed := true, recurses := true, named := ["wharfinger/ext.errKind", "wharfinger/ext.errForm", "unicode/utf8.first", "unicode/utf8.acceptRanges", "internal/bytealg.MaxLen", "errors.errorType"], apart := false, laid := [("unicode/utf8.acceptRanges", laid_unicode_utf8_acceptRanges), ("errors.errorType", laid_errors_errorType), ("wharfinger/ext.errForm", laid_wharfinger_ext_errForm), ("wharfinger/ext.errKind", laid_wharfinger_ext_errKind), ("unicode/utf8.first", laid_unicode_utf8_first)], narrowed := true }
def ExtShapeUptoSaid : Prop := extShapeUptoRow.holds Tryd.pinned (OpenSpec.upto extShapeSpec)

/-- 'wharfingerlaw04.ExtKinds', WHERE WHAT IT READS IS OF BULK AT MOST 1048576: true; the input reads as it did. -/
def extKindsUptoRow : OpenClaim := { program := "ytfbjejkmjbknaaadoor", sum := "eac680cd435f52d29f4c486acf98fab51b5e8bde39d92963359562b4117a776a", func := "wharfinger/wharfingerlaw04.ExtKinds", spec := "extKinds", inPlace := ["internal/bytealg.CountString", "internal/bytealg.IndexByteString", "internal/bytealg.IndexString", "internal/reflectlite.TypeOf", "internal/reflectlite.ValueOf", "(internal/reflectlite.Value).Type", "(internal/reflectlite.Value).IsNil", "(internal/reflectlite.Value).Elem", "(internal/reflectlite.Value).Set", "internal/abi.NoEscape", "internal/bytealg.MakeNoZero"], unfollowed := true, recurses := true, named := ["wharfinger/ext.errKind", "wharfinger/ext.errForm", "unicode/utf8.first", "unicode/utf8.acceptRanges", "internal/bytealg.MaxLen", "errors.errorType"], apart := false, laid := [("unicode/utf8.acceptRanges", laid_unicode_utf8_acceptRanges), ("errors.errorType", laid_errors_errorType), ("wharfinger/ext.errForm", laid_wharfinger_ext_errForm), ("wharfinger/ext.errKind", laid_wharfinger_ext_errKind), ("unicode/utf8.first", laid_unicode_utf8_first)], narrowed := true }
def ExtKindsUptoSaid : Prop := extKindsUptoRow.holds Tryd.pinned (OpenSpec.upto extKindsSpec)

end Rows
end Go.Proofs.YtfbjejkmjbknaaaDoor
