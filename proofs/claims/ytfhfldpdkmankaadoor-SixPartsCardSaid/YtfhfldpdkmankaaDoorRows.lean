/-
  NARROWER THAN 'FOR EVERY INPUT', by the rows' own cells (each row's printed sentence says how): SixTells: laid · SixBack: laid · SixOnly: laid · SixParts: laid · SixFirst: laid.
  DERIVED. THE GIVEN ROWS OF THIS SEAT. 5 by the template 'for every input the law returns true; each argument reads behind the call as it read before'; 0 by the template 'total and deterministic' (their statements: YtfhfldpdkmankaaDoorTotals.lean).
  GIVEN WITH THE SEED: the statements are not yours to turn. If you find one false, say at which input.
  Laid BY PROGRAM, IN A SANDBOX (cutbox-rows.mjs): the forced cells as the released guide's own fill.sh prints them over the translation 81af1eff6fc63974… (all of the seat's roots in one cut). By AI agents, Wed Nov 11 2026. No macro, syntax, notation, axiom, sorry.
-/
import Derived.Test.YtfhfldpdkmankaaDoorChecked
import GoSem.PinnedTables
import GoSem.Claim
import GoSem.ClaimJoined
import GoSem.ClaimMapViews
import Derived.JoinedTies
import Derived.KernelRfl
namespace Go.Proofs.YtfhfldpdkmankaaDoor
/- THE CELL 'sum', in the pinned program and in every row, IS THE sha256 OF THE DUMP (.gsa) THAT YtfhfldpdkmankaaDoorProg.lean LOADS. Nothing in Lean hashes anything: it is a label: what it is worth is what the hold of that sum in a sandbox is worth. -/
noncomputable def Tryd.pinned : Pinned := { name := "ytfhfldpdkmankaadoor", sum := "81af1eff6fc63974057194cf1dc0a55b8e069393cbbce4536b67f37908ad31a9", checked := Tryd.checked }
namespace Rows
def none {H : Type} : Left H := { results := [], args := [] }

/- WHAT THE LISTED PACKAGE-LEVEL VARIABLES READ AS WHEN THE CALL BEGINS. Each datum BY PROGRAM (the guide's laid-datum.mjs) off the statement by which the dump's own 'gosem.cut.vars' lays the variable. In a bare row this is a premise. The card (YtfhfldpdkmankaaDoorCards.lean) ties it to the program's text. -/
def laid_unicode_utf8_acceptRanges {H : Type} : DataW H := .agg [.agg [.lit (.int .u8 128), .lit (.int .u8 191)], .agg [.lit (.int .u8 160), .lit (.int .u8 191)], .agg [.lit (.int .u8 128), .lit (.int .u8 159)], .agg [.lit (.int .u8 144), .lit (.int .u8 191)], .agg [.lit (.int .u8 128), .lit (.int .u8 143)], .agg [.lit (.int .u8 0), .lit (.int .u8 0)], .agg [.lit (.int .u8 0), .lit (.int .u8 0)], .agg [.lit (.int .u8 0), .lit (.int .u8 0)], .agg [.lit (.int .u8 0), .lit (.int .u8 0)], .agg [.lit (.int .u8 0), .lit (.int .u8 0)], .agg [.lit (.int .u8 0), .lit (.int .u8 0)], .agg [.lit (.int .u8 0), .lit (.int .u8 0)], .agg [.lit (.int .u8 0), .lit (.int .u8 0)], .agg [.lit (.int .u8 0), .lit (.int .u8 0)], .agg [.lit (.int .u8 0), .lit (.int .u8 0)], .agg [.lit (.int .u8 0), .lit (.int .u8 0)]]
/-- One of Go's own tables, pinned by name: the form's constant. -/
def laid_unicode_utf8_first : DataW Unit := Go.Pinned.utf8First

/-- 'wharfingerlaw03.SixTells': WHATEVER THE INPUT: true; the input reads as it did. -/
def sixTellsSpec : ChangeSpec := { name := "sixTells", fn := fun _ => fun
  | [d1, d2] => { results := [.lit (.bool true)], args := [d1, d2] }
  | _ => none }
def sixTellsRow : OpenClaim := { program := "ytfhfldpdkmankaadoor", sum := "81af1eff6fc63974057194cf1dc0a55b8e069393cbbce4536b67f37908ad31a9", func := "wharfinger/wharfingerlaw03.SixTells", spec := "sixTells", inPlace := ["internal/abi.NoEscape", "internal/bytealg.MakeNoZero", "internal/bytealg.IndexByteString", "internal/bytealg.IndexString", "internal/bytealg.CountString"], named := ["internal/bytealg.MaxLen", "unicode/utf8.first", "unicode/utf8.acceptRanges"], apart := false, laid := [("unicode/utf8.acceptRanges", laid_unicode_utf8_acceptRanges), ("unicode/utf8.first", laid_unicode_utf8_first)] }
def SixTellsSaid : Prop := sixTellsRow.holds Tryd.pinned (OpenSpec.ofChange sixTellsSpec)

/-- ITS FALSE NEIGHBOUR: 'it returns false'. Refute it at one input. -/
def sixTellsWrong : ChangeSpec := { name := "sixTells", fn := fun _ => fun
  | [d1, d2] => { results := [.lit (.bool false)], args := [d1, d2] }
  | _ => none }
def SixTellsWrongFalsely : Prop := sixTellsRow.holds Tryd.pinned (OpenSpec.ofChange sixTellsWrong)

/-- 'wharfingerlaw03.SixBack': WHATEVER THE INPUT: true; the input reads as it did. -/
def sixBackSpec : ChangeSpec := { name := "sixBack", fn := fun _ => fun
  | [d1, d2, d3, d4] => { results := [.lit (.bool true)], args := [d1, d2, d3, d4] }
  | _ => none }
def sixBackRow : OpenClaim := { program := "ytfhfldpdkmankaadoor", sum := "81af1eff6fc63974057194cf1dc0a55b8e069393cbbce4536b67f37908ad31a9", func := "wharfinger/wharfingerlaw03.SixBack", spec := "sixBack", inPlace := ["internal/abi.NoEscape", "internal/bytealg.MakeNoZero", "internal/bytealg.IndexByteString", "internal/bytealg.IndexString", "internal/bytealg.CountString"], named := ["internal/bytealg.MaxLen", "unicode/utf8.first", "unicode/utf8.acceptRanges"], apart := false, laid := [("unicode/utf8.acceptRanges", laid_unicode_utf8_acceptRanges), ("unicode/utf8.first", laid_unicode_utf8_first)] }
def SixBackSaid : Prop := sixBackRow.holds Tryd.pinned (OpenSpec.ofChange sixBackSpec)

/-- ITS FALSE NEIGHBOUR: 'it returns false'. Refute it at one input. -/
def sixBackWrong : ChangeSpec := { name := "sixBack", fn := fun _ => fun
  | [d1, d2, d3, d4] => { results := [.lit (.bool false)], args := [d1, d2, d3, d4] }
  | _ => none }
def SixBackWrongFalsely : Prop := sixBackRow.holds Tryd.pinned (OpenSpec.ofChange sixBackWrong)

/-- 'wharfingerlaw03.SixOnly': WHATEVER THE INPUT: true; the input reads as it did. -/
def sixOnlySpec : ChangeSpec := { name := "sixOnly", fn := fun _ => fun
  | [d1, d2, d3] => { results := [.lit (.bool true)], args := [d1, d2, d3] }
  | _ => none }
def sixOnlyRow : OpenClaim := { program := "ytfhfldpdkmankaadoor", sum := "81af1eff6fc63974057194cf1dc0a55b8e069393cbbce4536b67f37908ad31a9", func := "wharfinger/wharfingerlaw03.SixOnly", spec := "sixOnly", inPlace := ["internal/abi.NoEscape", "internal/bytealg.MakeNoZero", "internal/bytealg.IndexByteString", "internal/bytealg.IndexString", "internal/bytealg.CountString"], named := ["internal/bytealg.MaxLen", "unicode/utf8.first", "unicode/utf8.acceptRanges"], apart := false, laid := [("unicode/utf8.acceptRanges", laid_unicode_utf8_acceptRanges), ("unicode/utf8.first", laid_unicode_utf8_first)] }
def SixOnlySaid : Prop := sixOnlyRow.holds Tryd.pinned (OpenSpec.ofChange sixOnlySpec)

/-- ITS FALSE NEIGHBOUR: 'it returns false'. Refute it at one input. -/
def sixOnlyWrong : ChangeSpec := { name := "sixOnly", fn := fun _ => fun
  | [d1, d2, d3] => { results := [.lit (.bool false)], args := [d1, d2, d3] }
  | _ => none }
def SixOnlyWrongFalsely : Prop := sixOnlyRow.holds Tryd.pinned (OpenSpec.ofChange sixOnlyWrong)

/-- 'wharfingerlaw03.SixParts': WHATEVER THE INPUT: true; the input reads as it did. -/
def sixPartsSpec : ChangeSpec := { name := "sixParts", fn := fun _ => fun
  | [d] => { results := [.lit (.bool true)], args := [d] }
  | _ => none }
def sixPartsRow : OpenClaim := { program := "ytfhfldpdkmankaadoor", sum := "81af1eff6fc63974057194cf1dc0a55b8e069393cbbce4536b67f37908ad31a9", func := "wharfinger/wharfingerlaw03.SixParts", spec := "sixParts", inPlace := ["internal/abi.NoEscape", "internal/bytealg.MakeNoZero", "internal/bytealg.IndexByteString", "internal/bytealg.IndexString", "internal/bytealg.CountString"], named := ["internal/bytealg.MaxLen", "unicode/utf8.first", "unicode/utf8.acceptRanges"], apart := false, laid := [("unicode/utf8.acceptRanges", laid_unicode_utf8_acceptRanges), ("unicode/utf8.first", laid_unicode_utf8_first)] }
def SixPartsSaid : Prop := sixPartsRow.holds Tryd.pinned (OpenSpec.ofChange sixPartsSpec)

/-- ITS FALSE NEIGHBOUR: 'it returns false'. Refute it at one input. -/
def sixPartsWrong : ChangeSpec := { name := "sixParts", fn := fun _ => fun
  | [d] => { results := [.lit (.bool false)], args := [d] }
  | _ => none }
def SixPartsWrongFalsely : Prop := sixPartsRow.holds Tryd.pinned (OpenSpec.ofChange sixPartsWrong)

/-- 'wharfingerlaw03.SixFirst': WHATEVER THE INPUT: true; the input reads as it did. -/
def sixFirstSpec : ChangeSpec := { name := "sixFirst", fn := fun _ => fun
  | [d1, d2] => { results := [.lit (.bool true)], args := [d1, d2] }
  | _ => none }
def sixFirstRow : OpenClaim := { program := "ytfhfldpdkmankaadoor", sum := "81af1eff6fc63974057194cf1dc0a55b8e069393cbbce4536b67f37908ad31a9", func := "wharfinger/wharfingerlaw03.SixFirst", spec := "sixFirst", inPlace := ["internal/abi.NoEscape", "internal/bytealg.MakeNoZero", "internal/bytealg.IndexByteString", "internal/bytealg.IndexString", "internal/bytealg.CountString"], named := ["internal/bytealg.MaxLen", "unicode/utf8.first", "unicode/utf8.acceptRanges"], apart := false, laid := [("unicode/utf8.acceptRanges", laid_unicode_utf8_acceptRanges), ("unicode/utf8.first", laid_unicode_utf8_first)] }
def SixFirstSaid : Prop := sixFirstRow.holds Tryd.pinned (OpenSpec.ofChange sixFirstSpec)

/-- ITS FALSE NEIGHBOUR: 'it returns false'. Refute it at one input. -/
def sixFirstWrong : ChangeSpec := { name := "sixFirst", fn := fun _ => fun
  | [d1, d2] => { results := [.lit (.bool false)], args := [d1, d2] }
  | _ => none }
def SixFirstWrongFalsely : Prop := sixFirstRow.holds Tryd.pinned (OpenSpec.ofChange sixFirstWrong)

/- THE SECOND FORM. 'bulk': how many values and letters a reading holds, each counted each time it is reached (what is shared counts as often as it is met; a slice's spare places count too). A statement '..UptoSaid' is the law's where the arguments, and the package variables that the reading takes, are together of bulk at most 1048576: NARROWER than '..Said'. Prove '..Said' where nothing that the law and all that it calls make is longer than what came in: it says more and counts as full. Else prove '..UptoSaid'. A law counts once. -/
mutual
def uptoBulk {H : Type} : DataW H → Nat
  | .lit (.string bytes) => bytes.length + 1
  | .lit _ => 1
  | .nil => 1
  | .ptr d => uptoBulk d + 1
  | .slice elems spare => uptoBulkAll elems + uptoBulkAll spare + 1
  | .agg parts => uptoBulkAll parts + 1
  | .iface _ d => uptoBulk d + 1
  | .map entries => uptoBulkEntries entries + 1
  | .held _ => 1
def uptoBulkAll {H : Type} : List (DataW H) → Nat
  | [] => 0
  | d :: r => uptoBulk d + uptoBulkAll r
def uptoBulkEntries {H : Type} : List (Lit × DataW H) → Nat
  | [] => 0
  | x :: r => uptoBulkEntry x + uptoBulkEntries r
def uptoBulkEntry {H : Type} : Lit × DataW H → Nat
  | (.string bytes, d) => bytes.length + uptoBulk d + 1
  | (_, d) => uptoBulk d + 1
 end
def uptoSmall : (H : Type) → List (DataW H) → Bool := fun _ ds => decide (uptoBulkAll ds ≤ 1048576)
def OpenSpec.upto (s : _root_.Go.ChangeSpec) : _root_.Go.OpenSpec := { _root_.Go.OpenSpec.ofChange s with cond := some uptoSmall }

/-- 'wharfingerlaw03.SixTells', WHERE WHAT IT READS IS OF BULK AT MOST 1048576: true; the input reads as it did. -/
def sixTellsUptoRow : OpenClaim := { program := "ytfhfldpdkmankaadoor", sum := "81af1eff6fc63974057194cf1dc0a55b8e069393cbbce4536b67f37908ad31a9", func := "wharfinger/wharfingerlaw03.SixTells", spec := "sixTells", inPlace := ["internal/abi.NoEscape", "internal/bytealg.MakeNoZero", "internal/bytealg.IndexByteString", "internal/bytealg.IndexString", "internal/bytealg.CountString"], named := ["internal/bytealg.MaxLen", "unicode/utf8.first", "unicode/utf8.acceptRanges"], apart := false, laid := [("unicode/utf8.acceptRanges", laid_unicode_utf8_acceptRanges), ("unicode/utf8.first", laid_unicode_utf8_first)], narrowed := true }
def SixTellsUptoSaid : Prop := sixTellsUptoRow.holds Tryd.pinned (OpenSpec.upto sixTellsSpec)

/-- 'wharfingerlaw03.SixBack', WHERE WHAT IT READS IS OF BULK AT MOST 1048576: true; the input reads as it did. -/
def sixBackUptoRow : OpenClaim := { program := "ytfhfldpdkmankaadoor", sum := "81af1eff6fc63974057194cf1dc0a55b8e069393cbbce4536b67f37908ad31a9", func := "wharfinger/wharfingerlaw03.SixBack", spec := "sixBack", inPlace := ["internal/abi.NoEscape", "internal/bytealg.MakeNoZero", "internal/bytealg.IndexByteString", "internal/bytealg.IndexString", "internal/bytealg.CountString"], named := ["internal/bytealg.MaxLen", "unicode/utf8.first", "unicode/utf8.acceptRanges"], apart := false, laid := [("unicode/utf8.acceptRanges", laid_unicode_utf8_acceptRanges), ("unicode/utf8.first", laid_unicode_utf8_first)], narrowed := true }
def SixBackUptoSaid : Prop := sixBackUptoRow.holds Tryd.pinned (OpenSpec.upto sixBackSpec)

/-- 'wharfingerlaw03.SixOnly', WHERE WHAT IT READS IS OF BULK AT MOST 1048576: true; the input reads as it did. -/
def sixOnlyUptoRow : OpenClaim := { program := "ytfhfldpdkmankaadoor", sum := "81af1eff6fc63974057194cf1dc0a55b8e069393cbbce4536b67f37908ad31a9", func := "wharfinger/wharfingerlaw03.SixOnly", spec := "sixOnly", inPlace := ["internal/abi.NoEscape", "internal/bytealg.MakeNoZero", "internal/bytealg.IndexByteString", "internal/bytealg.IndexString", "internal/bytealg.CountString"], named := ["internal/bytealg.MaxLen", "unicode/utf8.first", "unicode/utf8.acceptRanges"], apart := false, laid := [("unicode/utf8.acceptRanges", laid_unicode_utf8_acceptRanges), ("unicode/utf8.first", laid_unicode_utf8_first)], narrowed := true }
def SixOnlyUptoSaid : Prop := sixOnlyUptoRow.holds Tryd.pinned (OpenSpec.upto sixOnlySpec)

/-- 'wharfingerlaw03.SixParts', WHERE WHAT IT READS IS OF BULK AT MOST 1048576: true; the input reads as it did. -/
def sixPartsUptoRow : OpenClaim := { program := "ytfhfldpdkmankaadoor", sum := "81af1eff6fc63974057194cf1dc0a55b8e069393cbbce4536b67f37908ad31a9", func := "wharfinger/wharfingerlaw03.SixParts", spec := "sixParts", inPlace := ["internal/abi.NoEscape", "internal/bytealg.MakeNoZero", "internal/bytealg.IndexByteString", "internal/bytealg.IndexString", "internal/bytealg.CountString"], named := ["internal/bytealg.MaxLen", "unicode/utf8.first", "unicode/utf8.acceptRanges"], apart := false, laid := [("unicode/utf8.acceptRanges", laid_unicode_utf8_acceptRanges), ("unicode/utf8.first", laid_unicode_utf8_first)], narrowed := true }
def SixPartsUptoSaid : Prop := sixPartsUptoRow.holds Tryd.pinned (OpenSpec.upto sixPartsSpec)

/-- 'wharfingerlaw03.SixFirst', WHERE WHAT IT READS IS OF BULK AT MOST 1048576: true; the input reads as it did. -/
def sixFirstUptoRow : OpenClaim := { program := "ytfhfldpdkmankaadoor", sum := "81af1eff6fc63974057194cf1dc0a55b8e069393cbbce4536b67f37908ad31a9", func := "wharfinger/wharfingerlaw03.SixFirst", spec := "sixFirst", inPlace := ["internal/abi.NoEscape", "internal/bytealg.MakeNoZero", "internal/bytealg.IndexByteString", "internal/bytealg.IndexString", "internal/bytealg.CountString"], named := ["internal/bytealg.MaxLen", "unicode/utf8.first", "unicode/utf8.acceptRanges"], apart := false, laid := [("unicode/utf8.acceptRanges", laid_unicode_utf8_acceptRanges), ("unicode/utf8.first", laid_unicode_utf8_first)], narrowed := true }
def SixFirstUptoSaid : Prop := sixFirstUptoRow.holds Tryd.pinned (OpenSpec.upto sixFirstSpec)

end Rows
end Go.Proofs.YtfhfldpdkmankaaDoor
