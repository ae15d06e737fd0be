/-
  NARROWER THAN 'FOR EVERY INPUT', by the rows' own cells (each row's printed sentence says how): QuadTells: laid · QuadOnly: laid · QuadParts: laid · QuadLongs: laid · QuadMost: laid.
  DERIVED. THE GIVEN ROWS OF THIS SEAT. 5 by the template 'for every input the law returns true; each argument reads behind the call as it read before'; 0 by the template 'total and deterministic' (their statements: YtdbbmcbkhjmokaaDoorTotals.lean).
  GIVEN WITH THE SEED: the statements are not yours to turn. If you find one false, say at which input.
  Laid BY PROGRAM, IN A SANDBOX (cutbox-rows.mjs): the forced cells as the released guide's own fill.sh prints them over the translation c36bf938238a5075… (all of the seat's roots in one cut). By AI agents, Wed Nov 11 2026. No macro, syntax, notation, axiom, sorry.
-/
import Derived.Test.YtdbbmcbkhjmokaaDoorChecked
import GoSem.PinnedTables
import GoSem.Claim
import GoSem.ClaimJoined
import GoSem.ClaimMapViews
import Derived.JoinedTies
import Derived.KernelRfl
namespace Go.Proofs.YtdbbmcbkhjmokaaDoor
/- THE CELL 'sum', in the pinned program and in every row, IS THE sha256 OF THE DUMP (.gsa) THAT YtdbbmcbkhjmokaaDoorProg.lean LOADS. Nothing in Lean hashes anything: it is a label: what it is worth is what the hold of that sum in a sandbox is worth. -/
noncomputable def Tryd.pinned : Pinned := { name := "ytdbbmcbkhjmokaadoor", sum := "c36bf938238a5075b00b786f002bcab036be7238362b6f69dbb4bd8fb5915665", checked := Tryd.checked }
namespace Rows
def none {H : Type} : Left H := { results := [], args := [] }

/- WHAT THE LISTED PACKAGE-LEVEL VARIABLES READ AS WHEN THE CALL BEGINS. Each datum BY PROGRAM (the guide's laid-datum.mjs) off the statement by which the dump's own 'gosem.cut.vars' lays the variable. In a bare row this is a premise. The card (YtdbbmcbkhjmokaaDoorCards.lean) ties it to the program's text. -/
def laid_unicode_utf8_acceptRanges {H : Type} : DataW H := .agg [.agg [.lit (.int .u8 128), .lit (.int .u8 191)], .agg [.lit (.int .u8 160), .lit (.int .u8 191)], .agg [.lit (.int .u8 128), .lit (.int .u8 159)], .agg [.lit (.int .u8 144), .lit (.int .u8 191)], .agg [.lit (.int .u8 128), .lit (.int .u8 143)], .agg [.lit (.int .u8 0), .lit (.int .u8 0)], .agg [.lit (.int .u8 0), .lit (.int .u8 0)], .agg [.lit (.int .u8 0), .lit (.int .u8 0)], .agg [.lit (.int .u8 0), .lit (.int .u8 0)], .agg [.lit (.int .u8 0), .lit (.int .u8 0)], .agg [.lit (.int .u8 0), .lit (.int .u8 0)], .agg [.lit (.int .u8 0), .lit (.int .u8 0)], .agg [.lit (.int .u8 0), .lit (.int .u8 0)], .agg [.lit (.int .u8 0), .lit (.int .u8 0)], .agg [.lit (.int .u8 0), .lit (.int .u8 0)], .agg [.lit (.int .u8 0), .lit (.int .u8 0)]]
/-- One of Go's own tables, pinned by name: the form's constant. -/
def laid_unicode_utf8_first : DataW Unit := Go.Pinned.utf8First

/-- 'wharfingerlaw02.QuadTells': WHATEVER THE INPUT: true; the input reads as it did. -/
def quadTellsSpec : ChangeSpec := { name := "quadTells", fn := fun _ => fun
  | [d1, d2, d3, d4] => { results := [.lit (.bool true)], args := [d1, d2, d3, d4] }
  | _ => none }
def quadTellsRow : OpenClaim := { program := "ytdbbmcbkhjmokaadoor", sum := "c36bf938238a5075b00b786f002bcab036be7238362b6f69dbb4bd8fb5915665", func := "wharfinger/wharfingerlaw02.QuadTells", spec := "quadTells", inPlace := ["internal/bytealg.CountString", "internal/bytealg.IndexByteString", "internal/bytealg.IndexString", "internal/abi.NoEscape", "internal/bytealg.MakeNoZero"], named := ["unicode/utf8.first", "unicode/utf8.acceptRanges", "internal/bytealg.MaxLen"], apart := false, laid := [("unicode/utf8.acceptRanges", laid_unicode_utf8_acceptRanges), ("unicode/utf8.first", laid_unicode_utf8_first)] }
def QuadTellsSaid : Prop := quadTellsRow.holds Tryd.pinned (OpenSpec.ofChange quadTellsSpec)

/-- ITS FALSE NEIGHBOUR: 'it returns false'. Refute it at one input. -/
def quadTellsWrong : ChangeSpec := { name := "quadTells", fn := fun _ => fun
  | [d1, d2, d3, d4] => { results := [.lit (.bool false)], args := [d1, d2, d3, d4] }
  | _ => none }
def QuadTellsWrongFalsely : Prop := quadTellsRow.holds Tryd.pinned (OpenSpec.ofChange quadTellsWrong)

/-- 'wharfingerlaw02.QuadOnly': WHATEVER THE INPUT: true; the input reads as it did. -/
def quadOnlySpec : ChangeSpec := { name := "quadOnly", fn := fun _ => fun
  | [d1, d2, d3, d4, d5] => { results := [.lit (.bool true)], args := [d1, d2, d3, d4, d5] }
  | _ => none }
def quadOnlyRow : OpenClaim := { program := "ytdbbmcbkhjmokaadoor", sum := "c36bf938238a5075b00b786f002bcab036be7238362b6f69dbb4bd8fb5915665", func := "wharfinger/wharfingerlaw02.QuadOnly", spec := "quadOnly", inPlace := ["internal/bytealg.CountString", "internal/bytealg.IndexByteString", "internal/bytealg.IndexString", "internal/abi.NoEscape", "internal/bytealg.MakeNoZero"], named := ["unicode/utf8.first", "unicode/utf8.acceptRanges", "internal/bytealg.MaxLen"], apart := false, laid := [("unicode/utf8.acceptRanges", laid_unicode_utf8_acceptRanges), ("unicode/utf8.first", laid_unicode_utf8_first)] }
def QuadOnlySaid : Prop := quadOnlyRow.holds Tryd.pinned (OpenSpec.ofChange quadOnlySpec)

/-- ITS FALSE NEIGHBOUR: 'it returns false'. Refute it at one input. -/
def quadOnlyWrong : ChangeSpec := { name := "quadOnly", fn := fun _ => fun
  | [d1, d2, d3, d4, d5] => { results := [.lit (.bool false)], args := [d1, d2, d3, d4, d5] }
  | _ => none }
def QuadOnlyWrongFalsely : Prop := quadOnlyRow.holds Tryd.pinned (OpenSpec.ofChange quadOnlyWrong)

/-- 'wharfingerlaw02.QuadParts': WHATEVER THE INPUT: true; the input reads as it did. -/
def quadPartsSpec : ChangeSpec := { name := "quadParts", fn := fun _ => fun
  | [d1, d2] => { results := [.lit (.bool true)], args := [d1, d2] }
  | _ => none }
def quadPartsRow : OpenClaim := { program := "ytdbbmcbkhjmokaadoor", sum := "c36bf938238a5075b00b786f002bcab036be7238362b6f69dbb4bd8fb5915665", func := "wharfinger/wharfingerlaw02.QuadParts", spec := "quadParts", inPlace := ["internal/bytealg.CountString", "internal/bytealg.IndexByteString", "internal/bytealg.IndexString", "internal/abi.NoEscape", "internal/bytealg.MakeNoZero"], named := ["unicode/utf8.first", "unicode/utf8.acceptRanges", "internal/bytealg.MaxLen"], apart := false, laid := [("unicode/utf8.acceptRanges", laid_unicode_utf8_acceptRanges), ("unicode/utf8.first", laid_unicode_utf8_first)] }
def QuadPartsSaid : Prop := quadPartsRow.holds Tryd.pinned (OpenSpec.ofChange quadPartsSpec)

/-- ITS FALSE NEIGHBOUR: 'it returns false'. Refute it at one input. -/
def quadPartsWrong : ChangeSpec := { name := "quadParts", fn := fun _ => fun
  | [d1, d2] => { results := [.lit (.bool false)], args := [d1, d2] }
  | _ => none }
def QuadPartsWrongFalsely : Prop := quadPartsRow.holds Tryd.pinned (OpenSpec.ofChange quadPartsWrong)

/-- 'wharfingerlaw02.QuadLongs': WHATEVER THE INPUT: true; the input reads as it did. -/
def quadLongsSpec : ChangeSpec := { name := "quadLongs", fn := fun _ => fun
  | [d] => { results := [.lit (.bool true)], args := [d] }
  | _ => none }
def quadLongsRow : OpenClaim := { program := "ytdbbmcbkhjmokaadoor", sum := "c36bf938238a5075b00b786f002bcab036be7238362b6f69dbb4bd8fb5915665", func := "wharfinger/wharfingerlaw02.QuadLongs", spec := "quadLongs", inPlace := ["internal/bytealg.CountString", "internal/bytealg.IndexByteString", "internal/bytealg.IndexString", "internal/abi.NoEscape", "internal/bytealg.MakeNoZero"], named := ["unicode/utf8.first", "unicode/utf8.acceptRanges", "internal/bytealg.MaxLen"], apart := false, laid := [("unicode/utf8.acceptRanges", laid_unicode_utf8_acceptRanges), ("unicode/utf8.first", laid_unicode_utf8_first)] }
def QuadLongsSaid : Prop := quadLongsRow.holds Tryd.pinned (OpenSpec.ofChange quadLongsSpec)

/-- ITS FALSE NEIGHBOUR: 'it returns false'. Refute it at one input. -/
def quadLongsWrong : ChangeSpec := { name := "quadLongs", fn := fun _ => fun
  | [d] => { results := [.lit (.bool false)], args := [d] }
  | _ => none }
def QuadLongsWrongFalsely : Prop := quadLongsRow.holds Tryd.pinned (OpenSpec.ofChange quadLongsWrong)

/-- 'wharfingerlaw02.QuadMost': WHATEVER THE INPUT: true; the input reads as it did. -/
def quadMostSpec : ChangeSpec := { name := "quadMost", fn := fun _ => fun
  | [d1, d2, d3] => { results := [.lit (.bool true)], args := [d1, d2, d3] }
  | _ => none }
def quadMostRow : OpenClaim := { program := "ytdbbmcbkhjmokaadoor", sum := "c36bf938238a5075b00b786f002bcab036be7238362b6f69dbb4bd8fb5915665", func := "wharfinger/wharfingerlaw02.QuadMost", spec := "quadMost", inPlace := ["internal/bytealg.CountString", "internal/bytealg.IndexByteString", "internal/bytealg.IndexString", "internal/abi.NoEscape", "internal/bytealg.MakeNoZero"], named := ["unicode/utf8.first", "unicode/utf8.acceptRanges", "internal/bytealg.MaxLen"], apart := false, laid := [("unicode/utf8.acceptRanges", laid_unicode_utf8_acceptRanges), ("unicode/utf8.first", laid_unicode_utf8_first)] }
def QuadMostSaid : Prop := quadMostRow.holds Tryd.pinned (OpenSpec.ofChange quadMostSpec)

/-- ITS FALSE NEIGHBOUR: 'it returns false'. Refute it at one input. -/
def quadMostWrong : ChangeSpec := { name := "quadMost", fn := fun _ => fun
  | [d1, d2, d3] => { results := [.lit (.bool false)], args := [d1, d2, d3] }
  | _ => none }
def QuadMostWrongFalsely : Prop := quadMostRow.holds Tryd.pinned (OpenSpec.ofChange quadMostWrong)

/- THE SECOND FORM. 'bulk': how many values and letters a reading holds, each counted each time it is reached (what is shared counts as often as it is met; a slice's spare places count too). A statement '..UptoSaid' is the law's where the arguments, and the package variables that the reading takes, are together of bulk at most 1048576: NARROWER than '..Said'. Prove '..Said' where nothing that the law and all that it calls make is longer than what came in: it says more and counts as full. Else prove '..UptoSaid'. A law counts once. -/
mutual
def uptoBulk {H : Type} : DataW H → Nat
  | .lit (.string bytes) => bytes.length + 1
  | .lit _ => 1
  | .nil => 1
  | .ptr d => uptoBulk d + 1
  | .slice elems spare => uptoBulkAll elems + uptoBulkAll spare + 1
  | .agg parts => uptoBulkAll parts + 1
  | .iface _ d => uptoBulk d + 1
  | .map entries => uptoBulkEntries entries + 1
  | .held _ => 1
def uptoBulkAll {H : Type} : List (DataW H) → Nat
  | [] => 0
  | d :: r => uptoBulk d + uptoBulkAll r
def uptoBulkEntries {H : Type} : List (Lit × DataW H) → Nat
  | [] => 0
  | x :: r => uptoBulkEntry x + uptoBulkEntries r
def uptoBulkEntry {H : Type} : Lit × DataW H → Nat
  | (.string bytes, d) => bytes.length + uptoBulk d + 1
  | (_, d) => uptoBulk d + 1
 end
def uptoSmall : (H : Type) → List (DataW H) → Bool := fun _ ds => decide (uptoBulkAll ds ≤ 1048576)
def OpenSpec.upto (s : _root_.Go.ChangeSpec) : _root_.Go.OpenSpec := { _root_.Go.OpenSpec.ofChange s with cond := some uptoSmall }

/-- 'wharfingerlaw02.QuadTells', WHERE WHAT IT READS IS OF BULK AT MOST 1048576: true; the input reads as it did. -/
def quadTellsUptoRow : OpenClaim := { program := "ytdbbmcbkhjmokaadoor", sum := "c36bf938238a5075b00b786f002bcab036be7238362b6f69dbb4bd8fb5915665", func := "wharfinger/wharfingerlaw02.QuadTells", spec := "quadTells", inPlace := ["internal/bytealg.CountString", "internal/bytealg.IndexByteString", "internal/bytealg.IndexString", "internal/abi.NoEscape", "internal/bytealg.MakeNoZero"], named := ["unicode/utf8.first", "unicode/utf8.acceptRanges", "internal/bytealg.MaxLen"], apart := false, laid := [("unicode/utf8.acceptRanges", laid_unicode_utf8_acceptRanges), ("unicode/utf8.first", laid_unicode_utf8_first)], narrowed := true }
def QuadTellsUptoSaid : Prop := quadTellsUptoRow.holds Tryd.pinned (OpenSpec.upto quadTellsSpec)

/-- 'wharfingerlaw02.QuadOnly', WHERE WHAT IT READS IS OF BULK AT MOST 1048576: true; the input reads as it did. -/
def quadOnlyUptoRow : OpenClaim := { program := "ytdbbmcbkhjmokaadoor", sum := "c36bf938238a5075b00b786f002bcab036be7238362b6f69dbb4bd8fb5915665", func := "wharfinger/wharfingerlaw02.QuadOnly", spec := "quadOnly", inPlace := ["internal/bytealg.CountString", "internal/bytealg.IndexByteString", "internal/bytealg.IndexString", "internal/abi.NoEscape", "internal/bytealg.MakeNoZero"], named := ["unicode/utf8.first", "unicode/utf8.acceptRanges", "internal/bytealg.MaxLen"], apart := false, laid := [("unicode/utf8.acceptRanges", laid_unicode_utf8_acceptRanges), ("unicode/utf8.first", laid_unicode_utf8_first)], narrowed := true }
def QuadOnlyUptoSaid : Prop := quadOnlyUptoRow.holds Tryd.pinned (OpenSpec.upto quadOnlySpec)

/-- 'wharfingerlaw02.QuadParts', WHERE WHAT IT READS IS OF BULK AT MOST 1048576: true; the input reads as it did. -/
def quadPartsUptoRow : OpenClaim := { program := "ytdbbmcbkhjmokaadoor", sum := "c36bf938238a5075b00b786f002bcab036be7238362b6f69dbb4bd8fb5915665", func := "wharfinger/wharfingerlaw02.QuadParts", spec := "quadParts", inPlace := ["internal/bytealg.CountString", "internal/bytealg.IndexByteString", "internal/bytealg.IndexString", "internal/abi.NoEscape", "internal/bytealg.MakeNoZero"], named := ["unicode/utf8.first", "unicode/utf8.acceptRanges", "internal/bytealg.MaxLen"], apart := false, laid := [("unicode/utf8.acceptRanges", laid_unicode_utf8_acceptRanges), ("unicode/utf8.first", laid_unicode_utf8_first)], narrowed := true }
def QuadPartsUptoSaid : Prop := quadPartsUptoRow.holds Tryd.pinned (OpenSpec.upto quadPartsSpec)

/-- 'wharfingerlaw02.QuadLongs', WHERE WHAT IT READS IS OF BULK AT MOST 1048576: true; the input reads as it did. -/
def quadLongsUptoRow : OpenClaim := { program := "ytdbbmcbkhjmokaadoor", sum := "c36bf938238a5075b00b786f002bcab036be7238362b6f69dbb4bd8fb5915665", func := "wharfinger/wharfingerlaw02.QuadLongs", spec := "quadLongs", inPlace := ["internal/bytealg.CountString", "internal/bytealg.IndexByteString", "internal/bytealg.IndexString", "internal/abi.NoEscape", "internal/bytealg.MakeNoZero"], named := ["unicode/utf8.first", "unicode/utf8.acceptRanges", "internal/bytealg.MaxLen"], apart := false, laid := [("unicode/utf8.acceptRanges", laid_unicode_utf8_acceptRanges), ("unicode/utf8.first", laid_unicode_utf8_first)], narrowed := true }
def QuadLongsUptoSaid : Prop := quadLongsUptoRow.holds Tryd.pinned (OpenSpec.upto quadLongsSpec)

/-- 'wharfingerlaw02.QuadMost', WHERE WHAT IT READS IS OF BULK AT MOST 1048576: true; the input reads as it did. -/
def quadMostUptoRow : OpenClaim := { program := "ytdbbmcbkhjmokaadoor", sum := "c36bf938238a5075b00b786f002bcab036be7238362b6f69dbb4bd8fb5915665", func := "wharfinger/wharfingerlaw02.QuadMost", spec := "quadMost", inPlace := ["internal/bytealg.CountString", "internal/bytealg.IndexByteString", "internal/bytealg.IndexString", "internal/abi.NoEscape", "internal/bytealg.MakeNoZero"], named := ["unicode/utf8.first", "unicode/utf8.acceptRanges", "internal/bytealg.MaxLen"], apart := false, laid := [("unicode/utf8.acceptRanges", laid_unicode_utf8_acceptRanges), ("unicode/utf8.first", laid_unicode_utf8_first)], narrowed := true }
def QuadMostUptoSaid : Prop := quadMostUptoRow.holds Tryd.pinned (OpenSpec.upto quadMostSpec)

end Rows
end Go.Proofs.YtdbbmcbkhjmokaaDoor
