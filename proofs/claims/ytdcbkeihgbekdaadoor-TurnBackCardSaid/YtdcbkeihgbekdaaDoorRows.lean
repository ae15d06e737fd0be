/-
  NARROWER THAN 'FOR EVERY INPUT', by the rows' own cells (each row's printed sentence says how): TurnOwn: laid · TurnOnly: laid · TurnLines: laid · TurnBack: laid.
  DERIVED. THE GIVEN ROWS OF THIS SEAT. 4 by the template 'for every input the law returns true; each argument reads behind the call as it read before'; 0 by the template 'total and deterministic' (their statements: YtdcbkeihgbekdaaDoorTotals.lean).
  GIVEN WITH THE SEED: the statements are not yours to turn. If you find one false, say at which input.
  Laid BY PROGRAM, IN A SANDBOX (cutbox-rows.mjs): the forced cells as the released guide's own fill.sh prints them over the translation ef1b1253cfd3319b… (all of the seat's roots in one cut). By AI agents, Wed Nov 11 2026. No macro, syntax, notation, axiom, sorry.
-/
import Derived.Test.YtdcbkeihgbekdaaDoorChecked
import GoSem.PinnedTables
import GoSem.Claim
import GoSem.ClaimJoined
import GoSem.ClaimMapViews
import Derived.JoinedTies
import Derived.KernelRfl
namespace Go.Proofs.YtdcbkeihgbekdaaDoor
/- THE CELL 'sum', in the pinned program and in every row, IS THE sha256 OF THE DUMP (.gsa) THAT YtdcbkeihgbekdaaDoorProg.lean LOADS. Nothing in Lean hashes anything: it is a label: what it is worth is what the hold of that sum in a sandbox is worth. -/
noncomputable def Tryd.pinned : Pinned := { name := "ytdcbkeihgbekdaadoor", sum := "ef1b1253cfd3319b650b89953b5d7dfb19b439fcd741eaa9a8cfdf279361a6b1", checked := Tryd.checked }
namespace Rows
def none {H : Type} : Left H := { results := [], args := [] }

/- WHAT THE LISTED PACKAGE-LEVEL VARIABLES READ AS WHEN THE CALL BEGINS. Each datum BY PROGRAM (the guide's laid-datum.mjs) off the statement by which the dump's own 'gosem.cut.vars' lays the variable. In a bare row this is a premise. The card (YtdcbkeihgbekdaaDoorCards.lean) ties it to the program's text. -/
def laid_unicode_utf8_acceptRanges {H : Type} : DataW H := .agg [.agg [.lit (.int .u8 128), .lit (.int .u8 191)], .agg [.lit (.int .u8 160), .lit (.int .u8 191)], .agg [.lit (.int .u8 128), .lit (.int .u8 159)], .agg [.lit (.int .u8 144), .lit (.int .u8 191)], .agg [.lit (.int .u8 128), .lit (.int .u8 143)], .agg [.lit (.int .u8 0), .lit (.int .u8 0)], .agg [.lit (.int .u8 0), .lit (.int .u8 0)], .agg [.lit (.int .u8 0), .lit (.int .u8 0)], .agg [.lit (.int .u8 0), .lit (.int .u8 0)], .agg [.lit (.int .u8 0), .lit (.int .u8 0)], .agg [.lit (.int .u8 0), .lit (.int .u8 0)], .agg [.lit (.int .u8 0), .lit (.int .u8 0)], .agg [.lit (.int .u8 0), .lit (.int .u8 0)], .agg [.lit (.int .u8 0), .lit (.int .u8 0)], .agg [.lit (.int .u8 0), .lit (.int .u8 0)], .agg [.lit (.int .u8 0), .lit (.int .u8 0)]]
def laid_errors_errorType {H : Type} : DataW H := .iface "internal/reflectlite.rtype" (.agg [.ptr (.lit (.string [101, 114, 114, 111, 114]))])
def laid_wharfinger_ext_errForm {H : Type} : DataW H := .iface "*errors.errorString" (.ptr (.agg [.lit (.string [102, 111, 114, 109])]))
def laid_wharfinger_ext_errKind {H : Type} : DataW H := .iface "*errors.errorString" (.ptr (.agg [.lit (.string [107, 105, 110, 100])]))
def laid_wharfinger_turn_errDeny {H : Type} : DataW H := .iface "*errors.errorString" (.ptr (.agg [.lit (.string [110, 111, 116, 32, 97, 108, 108, 111, 119, 101, 100])]))
def laid_wharfinger_turn_errForm {H : Type} : DataW H := .iface "*errors.errorString" (.ptr (.agg [.lit (.string [97, 110, 111, 116, 104, 101, 114, 32, 102, 111, 114, 109])]))
/-- One of Go's own tables, pinned by name: the form's constant. -/
def laid_unicode_utf8_first : DataW Unit := Go.Pinned.utf8First

/-- 'wharfingerlaw19.TurnOwn': WHATEVER THE INPUT: true; the input reads as it did. -/
def turnOwnSpec : ChangeSpec := { name := "turnOwn", fn := fun _ => fun
  | [d1, d2, d3, d4] => { results := [.lit (.bool true)], args := [d1, d2, d3, d4] }
  | _ => none }
def turnOwnRow : OpenClaim := { program := "ytdcbkeihgbekdaadoor", sum := "ef1b1253cfd3319b650b89953b5d7dfb19b439fcd741eaa9a8cfdf279361a6b1", func := "wharfinger/wharfingerlaw19.TurnOwn", spec := "turnOwn", inPlace := ["internal/bytealg.CountString", "internal/bytealg.IndexByteString", "internal/bytealg.IndexString", "internal/abi.NoEscape", "internal/bytealg.MakeNoZero", "internal/reflectlite.TypeOf", "internal/reflectlite.ValueOf", "(internal/reflectlite.Value).Type", "(internal/reflectlite.Value).IsNil", "(internal/reflectlite.Value).Elem", "(internal/reflectlite.Value).Set"], unfollowed := true, recurses := true, named := ["wharfinger/turn.errForm", "unicode/utf8.first", "unicode/utf8.acceptRanges", "internal/bytealg.MaxLen", "wharfinger/ext.errKind", "wharfinger/ext.errForm", "errors.errorType", "wharfinger/turn.errDeny"], apart := false, laid := [("unicode/utf8.acceptRanges", laid_unicode_utf8_acceptRanges), ("errors.errorType", laid_errors_errorType), ("wharfinger/ext.errForm", laid_wharfinger_ext_errForm), ("wharfinger/ext.errKind", laid_wharfinger_ext_errKind), ("wharfinger/turn.errDeny", laid_wharfinger_turn_errDeny), ("wharfinger/turn.errForm", laid_wharfinger_turn_errForm), ("unicode/utf8.first", laid_unicode_utf8_first)] }
def TurnOwnSaid : Prop := turnOwnRow.holds Tryd.pinned (OpenSpec.ofChange turnOwnSpec)

/-- ITS FALSE NEIGHBOUR: 'it returns false'. Refute it at one input. -/
def turnOwnWrong : ChangeSpec := { name := "turnOwn", fn := fun _ => fun
  | [d1, d2, d3, d4] => { results := [.lit (.bool false)], args := [d1, d2, d3, d4] }
  | _ => none }
def TurnOwnWrongFalsely : Prop := turnOwnRow.holds Tryd.pinned (OpenSpec.ofChange turnOwnWrong)

/-- 'wharfingerlaw19.TurnOnly': WHATEVER THE INPUT: true; the input reads as it did. -/
def turnOnlySpec : ChangeSpec := { name := "turnOnly", fn := fun _ => fun
  | [d1, d2, d3] => { results := [.lit (.bool true)], args := [d1, d2, d3] }
  | _ => none }
def turnOnlyRow : OpenClaim := { program := "ytdcbkeihgbekdaadoor", sum := "ef1b1253cfd3319b650b89953b5d7dfb19b439fcd741eaa9a8cfdf279361a6b1", func := "wharfinger/wharfingerlaw19.TurnOnly", spec := "turnOnly", inPlace := ["internal/bytealg.CountString", "internal/bytealg.IndexByteString", "internal/bytealg.IndexString", "internal/abi.NoEscape", "internal/bytealg.MakeNoZero", "internal/reflectlite.TypeOf", "internal/reflectlite.ValueOf", "(internal/reflectlite.Value).Type", "(internal/reflectlite.Value).IsNil", "(internal/reflectlite.Value).Elem", "(internal/reflectlite.Value).Set"], unfollowed := true, recurses := true, named := ["wharfinger/turn.errForm", "unicode/utf8.first", "unicode/utf8.acceptRanges", "internal/bytealg.MaxLen", "wharfinger/ext.errKind", "wharfinger/ext.errForm", "errors.errorType", "wharfinger/turn.errDeny"], apart := false, laid := [("unicode/utf8.acceptRanges", laid_unicode_utf8_acceptRanges), ("errors.errorType", laid_errors_errorType), ("wharfinger/ext.errForm", laid_wharfinger_ext_errForm), ("wharfinger/ext.errKind", laid_wharfinger_ext_errKind), ("wharfinger/turn.errDeny", laid_wharfinger_turn_errDeny), ("wharfinger/turn.errForm", laid_wharfinger_turn_errForm), ("unicode/utf8.first", laid_unicode_utf8_first)] }
def TurnOnlySaid : Prop := turnOnlyRow.holds Tryd.pinned (OpenSpec.ofChange turnOnlySpec)

/-- ITS FALSE NEIGHBOUR: 'it returns false'. Refute it at one input. -/
def turnOnlyWrong : ChangeSpec := { name := "turnOnly", fn := fun _ => fun
  | [d1, d2, d3] => { results := [.lit (.bool false)], args := [d1, d2, d3] }
  | _ => none }
def TurnOnlyWrongFalsely : Prop := turnOnlyRow.holds Tryd.pinned (OpenSpec.ofChange turnOnlyWrong)

/-- 'wharfingerlaw19.TurnLines': WHATEVER THE INPUT: true; the input reads as it did. -/
def turnLinesSpec : ChangeSpec := { name := "turnLines", fn := fun _ => fun
  | [d1, d2, d3, d4, d5] => { results := [.lit (.bool true)], args := [d1, d2, d3, d4, d5] }
  | _ => none }
def turnLinesRow : OpenClaim := { program := "ytdcbkeihgbekdaadoor", sum := "ef1b1253cfd3319b650b89953b5d7dfb19b439fcd741eaa9a8cfdf279361a6b1", func := "wharfinger/wharfingerlaw19.TurnLines", spec := "turnLines", inPlace := ["internal/bytealg.CountString", "internal/bytealg.IndexByteString", "internal/bytealg.IndexString", "internal/abi.NoEscape", "internal/bytealg.MakeNoZero", "internal/reflectlite.TypeOf", "internal/reflectlite.ValueOf", "(internal/reflectlite.Value).Type", "(internal/reflectlite.Value).IsNil", "(internal/reflectlite.Value).Elem", "(internal/reflectlite.Value).Set"], unfollowed := true, recurses := true, named := ["wharfinger/turn.errForm", "unicode/utf8.first", "unicode/utf8.acceptRanges", "internal/bytealg.MaxLen", "wharfinger/ext.errKind", "wharfinger/ext.errForm", "errors.errorType", "wharfinger/turn.errDeny"], apart := false, laid := [("unicode/utf8.acceptRanges", laid_unicode_utf8_acceptRanges), ("errors.errorType", laid_errors_errorType), ("wharfinger/ext.errForm", laid_wharfinger_ext_errForm), ("wharfinger/ext.errKind", laid_wharfinger_ext_errKind), ("wharfinger/turn.errDeny", laid_wharfinger_turn_errDeny), ("wharfinger/turn.errForm", laid_wharfinger_turn_errForm), ("unicode/utf8.first", laid_unicode_utf8_first)] }
def TurnLinesSaid : Prop := turnLinesRow.holds Tryd.pinned (OpenSpec.ofChange turnLinesSpec)

/-- ITS FALSE NEIGHBOUR: 'it returns false'. Refute it at one input. -/
def turnLinesWrong : ChangeSpec := { name := "turnLines", fn := fun _ => fun
  | [d1, d2, d3, d4, d5] => { results := [.lit (.bool false)], args := [d1, d2, d3, d4, d5] }
  | _ => none }
def TurnLinesWrongFalsely : Prop := turnLinesRow.holds Tryd.pinned (OpenSpec.ofChange turnLinesWrong)

/-- 'wharfingerlaw19.TurnBack': WHATEVER THE INPUT: true; the input reads as it did. -/
def turnBackSpec : ChangeSpec := { name := "turnBack", fn := fun _ => fun
  | [d1, d2, d3] => { results := [.lit (.bool true)], args := [d1, d2, d3] }
  | _ => none }
def turnBackRow : OpenClaim := { program := "ytdcbkeihgbekdaadoor", sum := "ef1b1253cfd3319b650b89953b5d7dfb19b439fcd741eaa9a8cfdf279361a6b1", func := "wharfinger/wharfingerlaw19.TurnBack", spec := "turnBack", inPlace := ["internal/bytealg.CountString", "internal/bytealg.IndexByteString", "internal/bytealg.IndexString", "internal/abi.NoEscape", "internal/bytealg.MakeNoZero", "internal/reflectlite.TypeOf", "internal/reflectlite.ValueOf", "(internal/reflectlite.Value).Type", "(internal/reflectlite.Value).IsNil", "(internal/reflectlite.Value).Elem", "(internal/reflectlite.Value).Set"], unfollowed := true, recurses := true, named := ["wharfinger/turn.errForm", "unicode/utf8.first", "unicode/utf8.acceptRanges", "internal/bytealg.MaxLen", "wharfinger/ext.errKind", "wharfinger/ext.errForm", "errors.errorType", "wharfinger/turn.errDeny"], apart := false, laid := [("unicode/utf8.acceptRanges", laid_unicode_utf8_acceptRanges), ("errors.errorType", laid_errors_errorType), ("wharfinger/ext.errForm", laid_wharfinger_ext_errForm), ("wharfinger/ext.errKind", laid_wharfinger_ext_errKind), ("wharfinger/turn.errDeny", laid_wharfinger_turn_errDeny), ("wharfinger/turn.errForm", laid_wharfinger_turn_errForm), ("unicode/utf8.first", laid_unicode_utf8_first)] }
def TurnBackSaid : Prop := turnBackRow.holds Tryd.pinned (OpenSpec.ofChange turnBackSpec)

/-- ITS FALSE NEIGHBOUR: 'it returns false'. Refute it at one input. -/
def turnBackWrong : ChangeSpec := { name := "turnBack", fn := fun _ => fun
  | [d1, d2, d3] => { results := [.lit (.bool false)], args := [d1, d2, d3] }
  | _ => none }
def TurnBackWrongFalsely : Prop := turnBackRow.holds Tryd.pinned (OpenSpec.ofChange turnBackWrong)

/- THE SECOND FORM. 'bulk': how many values and letters a reading holds, each counted each time it is reached (what is shared counts as often as it is met; a slice's spare places count too). A statement '..UptoSaid' is the law's where the arguments, and the package variables that the reading takes, are together of bulk at most 1048576: NARROWER than '..Said'. Prove '..Said' where nothing that the law and all that it calls make is longer than what came in: it says more and counts as full. Else prove '..UptoSaid'. A law counts once. -/
mutual
def uptoBulk {H : Type} : DataW H → Nat
  | .lit (.string bytes) => bytes.length + 1
  | .lit _ => 1
  | .nil => 1
  | .ptr d => uptoBulk d + 1
  | .slice elems spare => uptoBulkAll elems + uptoBulkAll spare + 1
  | .agg parts => uptoBulkAll parts + 1
  | .iface _ d => uptoBulk d + 1
  | .map entries => uptoBulkEntries entries + 1
  | .held _ => 1
def uptoBulkAll {H : Type} : List (DataW H) → Nat
  | [] => 0
  | d :: r => uptoBulk d + uptoBulkAll r
def uptoBulkEntries {H : Type} : List (Lit × DataW H) → Nat
  | [] => 0
  | x :: r => uptoBulkEntry x + uptoBulkEntries r
def uptoBulkEntry {H : Type} : Lit × DataW H → Nat
  | (.string bytes, d) => bytes.length + uptoBulk d + 1
  | (_, d) => uptoBulk d + 1
 end
def uptoSmall : (H : Type) → List (DataW H) → Bool := fun _ ds => decide (uptoBulkAll ds ≤ 1048576)
def OpenSpec.upto (s : _root_.Go.ChangeSpec) : _root_.Go.OpenSpec := { _root_.Go.OpenSpec.ofChange s with cond := some uptoSmall }

/-- 'wharfingerlaw19.TurnOwn', WHERE WHAT IT READS IS OF BULK AT MOST 1048576: true; the input reads as it did. -/
def turnOwnUptoRow : OpenClaim := { program := "ytdcbkeihgbekdaadoor", sum := "ef1b1253cfd3319b650b89953b5d7dfb19b439fcd741eaa9a8cfdf279361a6b1", func := "wharfinger/wharfingerlaw19.TurnOwn", spec := "turnOwn", inPlace := ["internal/bytealg.CountString", "internal/bytealg.IndexByteString", "internal/bytealg.IndexString", "internal/abi.NoEscape", "internal/bytealg.MakeNoZero", "internal/reflectlite.TypeOf", "internal/reflectlite.ValueOf", "(internal/reflectlite.Value).Type", "(internal/reflectlite.Value).IsNil", "(internal/reflectlite.Value).Elem", "(internal/reflectlite.Value).Set"], unfollowed := true, recurses := true, named := ["wharfinger/turn.errForm", "unicode/utf8.first", "unicode/utf8.acceptRanges", "internal/bytealg.MaxLen", "wharfinger/ext.errKind", "wharfinger/ext.errForm", "errors.errorType", "wharfinger/turn.errDeny"], apart := false, laid := [("unicode/utf8.acceptRanges", laid_unicode_utf8_acceptRanges), ("errors.errorType", laid_errors_errorType), ("wharfinger/ext.errForm", laid_wharfinger_ext_errForm), ("wharfinger/ext.errKind", laid_wharfinger_ext_errKind), ("wharfinger/turn.errDeny", laid_wharfinger_turn_errDeny), ("wharfinger/turn.errForm", laid_wharfinger_turn_errForm), ("unicode/utf8.first", laid_unicode_utf8_first)], narrowed := true }
def TurnOwnUptoSaid : Prop := turnOwnUptoRow.holds Tryd.pinned (OpenSpec.upto turnOwnSpec)

/-- 'wharfingerlaw19.TurnOnly', WHERE WHAT IT READS IS OF BULK AT MOST 1048576: true; the input reads as it did. -/
def turnOnlyUptoRow : OpenClaim := { program := "ytdcbkeihgbekdaadoor", sum := "ef1b1253cfd3319b650b89953b5d7dfb19b439fcd741eaa9a8cfdf279361a6b1", func := "wharfinger/wharfingerlaw19.TurnOnly", spec := "turnOnly", inPlace := ["internal/bytealg.CountString", "internal/bytealg.IndexByteString", "internal/bytealg.IndexString", "internal/abi.NoEscape", "internal/bytealg.MakeNoZero", "internal/reflectlite.TypeOf", "internal/reflectlite.ValueOf", "(internal/reflectlite.Value).Type", "(internal/reflectlite.Value).IsNil", "(internal/reflectlite.Value).Elem", "(internal/reflectlite.Value).Set"], unfollowed := true, recurses := true, named := ["wharfinger/turn.errForm", "unicode/utf8.first", "unicode/utf8.acceptRanges", "internal/bytealg.MaxLen", "wharfinger/ext.errKind", "wharfinger/ext.errForm", "errors.errorType", "wharfinger/turn.errDeny"], apart := false, laid := [("unicode/utf8.acceptRanges", laid_unicode_utf8_acceptRanges), ("errors.errorType", laid_errors_errorType), ("wharfinger/ext.errForm", laid_wharfinger_ext_errForm), ("wharfinger/ext.errKind", laid_wharfinger_ext_errKind), ("wharfinger/turn.errDeny", laid_wharfinger_turn_errDeny), ("wharfinger/turn.errForm", laid_wharfinger_turn_errForm), ("unicode/utf8.first", laid_unicode_utf8_first)], narrowed := true }
def TurnOnlyUptoSaid : Prop := turnOnlyUptoRow.holds Tryd.pinned (OpenSpec.upto turnOnlySpec)

/-- 'wharfingerlaw19.TurnLines', WHERE WHAT IT READS IS OF BULK AT MOST 1048576: true; the input reads as it did. -/
def turnLinesUptoRow : OpenClaim := { program := "ytdcbkeihgbekdaadoor", sum := "ef1b1253cfd3319b650b89953b5d7dfb19b439fcd741eaa9a8cfdf279361a6b1", func := "wharfinger/wharfingerlaw19.TurnLines", spec := "turnLines", inPlace := ["internal/bytealg.CountString", "internal/bytealg.IndexByteString", "internal/bytealg.IndexString", "internal/abi.NoEscape", "internal/bytealg.MakeNoZero", "internal/reflectlite.TypeOf", "internal/reflectlite.ValueOf", "(internal/reflectlite.Value).Type", "(internal/reflectlite.Value).IsNil", "(internal/reflectlite.Value).Elem", "(internal/reflectlite.Value).Set"], unfollowed := true, recurses := true, named := ["wharfinger/turn.errForm", "unicode/utf8.first", "unicode/utf8.acceptRanges", "internal/bytealg.MaxLen", "wharfinger/ext.errKind", "wharfinger/ext.errForm", "errors.errorType", "wharfinger/turn.errDeny"], apart := false, laid := [("unicode/utf8.acceptRanges", laid_unicode_utf8_acceptRanges), ("errors.errorType", laid_errors_errorType), ("wharfinger/ext.errForm", laid_wharfinger_ext_errForm), ("wharfinger/ext.errKind", laid_wharfinger_ext_errKind), ("wharfinger/turn.errDeny", laid_wharfinger_turn_errDeny), ("wharfinger/turn.errForm", laid_wharfinger_turn_errForm), ("unicode/utf8.first", laid_unicode_utf8_first)], narrowed := true }
def TurnLinesUptoSaid : Prop := turnLinesUptoRow.holds Tryd.pinned (OpenSpec.upto turnLinesSpec)

/-- 'wharfingerlaw19.TurnBack', WHERE WHAT IT READS IS OF BULK AT MOST 1048576: true; the input reads as it did. -/
def turnBackUptoRow : OpenClaim := { program := "ytdcbkeihgbekdaadoor", sum := "ef1b1253cfd3319b650b89953b5d7dfb19b439fcd741eaa9a8cfdf279361a6b1", func := "wharfinger/wharfingerlaw19.TurnBack", spec := "turnBack", inPlace := ["internal/bytealg.CountString", "internal/bytealg.IndexByteString", "internal/bytealg.IndexString", "internal/abi.NoEscape", "internal/bytealg.MakeNoZero", "internal/reflectlite.TypeOf", "internal/reflectlite.ValueOf", "(internal/reflectlite.Value).Type", "(internal/reflectlite.Value).IsNil", "(internal/reflectlite.Value).Elem", "(internal/reflectlite.Value).Set"], unfollowed := true, recurses := true, named := ["wharfinger/turn.errForm", "unicode/utf8.first", "unicode/utf8.acceptRanges", "internal/bytealg.MaxLen", "wharfinger/ext.errKind", "wharfinger/ext.errForm", "errors.errorType", "wharfinger/turn.errDeny"], apart := false, laid := [("unicode/utf8.acceptRanges", laid_unicode_utf8_acceptRanges), ("errors.errorType", laid_errors_errorType), ("wharfinger/ext.errForm", laid_wharfinger_ext_errForm), ("wharfinger/ext.errKind", laid_wharfinger_ext_errKind), ("wharfinger/turn.errDeny", laid_wharfinger_turn_errDeny), ("wharfinger/turn.errForm", laid_wharfinger_turn_errForm), ("unicode/utf8.first", laid_unicode_utf8_first)], narrowed := true }
def TurnBackUptoSaid : Prop := turnBackUptoRow.holds Tryd.pinned (OpenSpec.upto turnBackSpec)

end Rows
end Go.Proofs.YtdcbkeihgbekdaaDoor
