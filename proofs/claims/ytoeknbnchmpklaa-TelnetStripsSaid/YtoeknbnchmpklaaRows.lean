/-
  No cell of these rows narrows 'for every input' (looked for: loops, veiled, ifaces, maps, wideKeys, modest, calm, conditions, laid).
  DERIVED. THE GIVEN ROWS OF THIS SEAT. 5 by the template 'for every input the law returns true; each argument reads behind the call as it read before'; 0 by the template 'total and deterministic' (their statements: YtoeknbnchmpklaaTotals.lean).
  GIVEN WITH THE SEED: the statements are not yours to turn. If you find one false, say at which input.
  Laid BY PROGRAM, IN A SANDBOX (cutbox-rows.mjs): the forced cells as the released guide's own fill.sh prints them over the translation 69aaf032b3bdf24e… (all of the seat's roots in one cut). By AI agents, Wed Nov 11 2026. No macro, syntax, notation, axiom, sorry.
-/
import Derived.Test.YtoeknbnchmpklaaChecked
import GoSem.Claim
import GoSem.ClaimJoined
import GoSem.ClaimMapViews
import Derived.JoinedTies
import Derived.KernelRfl
namespace Go.Proofs.Ytoeknbnchmpklaa
/- THE CELL 'sum', in the pinned program and in every row, IS THE sha256 OF THE DUMP (.gsa) THAT YtoeknbnchmpklaaProg.lean LOADS. Nothing in Lean hashes anything: it is a label: what it is worth is what the hold of that sum in a sandbox is worth. -/
noncomputable def Try.pinned : Pinned := { name := "ytoeknbnchmpklaa", sum := "69aaf032b3bdf24edbe95abfa4842216603370f6640202e489bdcc488d20b8d3", checked := Try.checked }
namespace Rows
def none {H : Type} : Left H := { results := [], args := [] }

/-- 'wharfingerlaw05.TelnetStrips': WHATEVER THE INPUT: true; the input reads as it did. -/
def telnetStripsSpec : ChangeSpec := { name := "telnetStrips", fn := fun _ => fun
  | [d1, d2] => { results := [.lit (.bool true)], args := [d1, d2] }
  | _ => none }
def telnetStripsRow : OpenClaim := { program := "ytoeknbnchmpklaa", sum := "69aaf032b3bdf24edbe95abfa4842216603370f6640202e489bdcc488d20b8d3", func := "wharfinger/wharfingerlaw05.TelnetStrips", spec := "telnetStrips", apart := false }
def TelnetStripsSaid : Prop := telnetStripsRow.holds Try.pinned (OpenSpec.ofChange telnetStripsSpec)

/-- ITS FALSE NEIGHBOUR: 'it returns false'. Refute it at one input. -/
def telnetStripsWrong : ChangeSpec := { name := "telnetStrips", fn := fun _ => fun
  | [d1, d2] => { results := [.lit (.bool false)], args := [d1, d2] }
  | _ => none }
def TelnetStripsWrongFalsely : Prop := telnetStripsRow.holds Try.pinned (OpenSpec.ofChange telnetStripsWrong)

/-- 'wharfingerlaw05.TelnetParts': WHATEVER THE INPUT: true; the input reads as it did. -/
def telnetPartsSpec : ChangeSpec := { name := "telnetParts", fn := fun _ => fun
  | [d1, d2, d3] => { results := [.lit (.bool true)], args := [d1, d2, d3] }
  | _ => none }
def telnetPartsRow : OpenClaim := { program := "ytoeknbnchmpklaa", sum := "69aaf032b3bdf24edbe95abfa4842216603370f6640202e489bdcc488d20b8d3", func := "wharfinger/wharfingerlaw05.TelnetParts", spec := "telnetParts", apart := false }
def TelnetPartsSaid : Prop := telnetPartsRow.holds Try.pinned (OpenSpec.ofChange telnetPartsSpec)

/-- ITS FALSE NEIGHBOUR: 'it returns false'. Refute it at one input. -/
def telnetPartsWrong : ChangeSpec := { name := "telnetParts", fn := fun _ => fun
  | [d1, d2, d3] => { results := [.lit (.bool false)], args := [d1, d2, d3] }
  | _ => none }
def TelnetPartsWrongFalsely : Prop := telnetPartsRow.holds Try.pinned (OpenSpec.ofChange telnetPartsWrong)

/-- 'wharfingerlaw05.TelnetLess': WHATEVER THE INPUT: true; the input reads as it did. -/
def telnetLessSpec : ChangeSpec := { name := "telnetLess", fn := fun _ => fun
  | [d1, d2] => { results := [.lit (.bool true)], args := [d1, d2] }
  | _ => none }
def telnetLessRow : OpenClaim := { program := "ytoeknbnchmpklaa", sum := "69aaf032b3bdf24edbe95abfa4842216603370f6640202e489bdcc488d20b8d3", func := "wharfinger/wharfingerlaw05.TelnetLess", spec := "telnetLess", apart := false }
def TelnetLessSaid : Prop := telnetLessRow.holds Try.pinned (OpenSpec.ofChange telnetLessSpec)

/-- ITS FALSE NEIGHBOUR: 'it returns false'. Refute it at one input. -/
def telnetLessWrong : ChangeSpec := { name := "telnetLess", fn := fun _ => fun
  | [d1, d2] => { results := [.lit (.bool false)], args := [d1, d2] }
  | _ => none }
def TelnetLessWrongFalsely : Prop := telnetLessRow.holds Try.pinned (OpenSpec.ofChange telnetLessWrong)

/-- 'wharfingerlaw05.TelnetCounts': WHATEVER THE INPUT: true; the input reads as it did. -/
def telnetCountsSpec : ChangeSpec := { name := "telnetCounts", fn := fun _ => fun
  | [d1, d2, d3] => { results := [.lit (.bool true)], args := [d1, d2, d3] }
  | _ => none }
def telnetCountsRow : OpenClaim := { program := "ytoeknbnchmpklaa", sum := "69aaf032b3bdf24edbe95abfa4842216603370f6640202e489bdcc488d20b8d3", func := "wharfinger/wharfingerlaw05.TelnetCounts", spec := "telnetCounts", apart := false }
def TelnetCountsSaid : Prop := telnetCountsRow.holds Try.pinned (OpenSpec.ofChange telnetCountsSpec)

/-- ITS FALSE NEIGHBOUR: 'it returns false'. Refute it at one input. -/
def telnetCountsWrong : ChangeSpec := { name := "telnetCounts", fn := fun _ => fun
  | [d1, d2, d3] => { results := [.lit (.bool false)], args := [d1, d2, d3] }
  | _ => none }
def TelnetCountsWrongFalsely : Prop := telnetCountsRow.holds Try.pinned (OpenSpec.ofChange telnetCountsWrong)

/-- 'wharfingerlaw05.TelnetNone': WHATEVER THE INPUT: true; the input reads as it did. -/
def telnetNoneSpec : ChangeSpec := { name := "telnetNone", fn := fun _ => fun
  | [d] => { results := [.lit (.bool true)], args := [d] }
  | _ => none }
def telnetNoneRow : OpenClaim := { program := "ytoeknbnchmpklaa", sum := "69aaf032b3bdf24edbe95abfa4842216603370f6640202e489bdcc488d20b8d3", func := "wharfinger/wharfingerlaw05.TelnetNone", spec := "telnetNone", apart := false }
def TelnetNoneSaid : Prop := telnetNoneRow.holds Try.pinned (OpenSpec.ofChange telnetNoneSpec)

/-- ITS FALSE NEIGHBOUR: 'it returns false'. Refute it at one input. -/
def telnetNoneWrong : ChangeSpec := { name := "telnetNone", fn := fun _ => fun
  | [d] => { results := [.lit (.bool false)], args := [d] }
  | _ => none }
def TelnetNoneWrongFalsely : Prop := telnetNoneRow.holds Try.pinned (OpenSpec.ofChange telnetNoneWrong)

/- THE SECOND FORM. 'bulk': how many values and letters a reading holds, each counted each time it is reached (what is shared counts as often as it is met; a slice's spare places count too). A statement '..UptoSaid' is the law's where the arguments, and the package variables that the reading takes, are together of bulk at most 1048576: NARROWER than '..Said'. Prove '..Said' where nothing that the law and all that it calls make is longer than what came in: it says more and counts as full. Else prove '..UptoSaid'. A law counts once. -/
mutual
def uptoBulk {H : Type} : DataW H → Nat
  | .lit (.string bytes) => bytes.length + 1
  | .lit _ => 1
  | .nil => 1
  | .ptr d => uptoBulk d + 1
  | .slice elems spare => uptoBulkAll elems + uptoBulkAll spare + 1
  | .agg parts => uptoBulkAll parts + 1
  | .iface _ d => uptoBulk d + 1
  | .map entries => uptoBulkEntries entries + 1
  | .held _ => 1
def uptoBulkAll {H : Type} : List (DataW H) → Nat
  | [] => 0
  | d :: r => uptoBulk d + uptoBulkAll r
def uptoBulkEntries {H : Type} : List (Lit × DataW H) → Nat
  | [] => 0
  | x :: r => uptoBulkEntry x + uptoBulkEntries r
def uptoBulkEntry {H : Type} : Lit × DataW H → Nat
  | (.string bytes, d) => bytes.length + uptoBulk d + 1
  | (_, d) => uptoBulk d + 1
 end
def uptoSmall : (H : Type) → List (DataW H) → Bool := fun _ ds => decide (uptoBulkAll ds ≤ 1048576)
def OpenSpec.upto (s : _root_.Go.ChangeSpec) : _root_.Go.OpenSpec := { _root_.Go.OpenSpec.ofChange s with cond := some uptoSmall }

/-- 'wharfingerlaw05.TelnetStrips', WHERE WHAT IT READS IS OF BULK AT MOST 1048576: true; the input reads as it did. -/
def telnetStripsUptoRow : OpenClaim := { program := "ytoeknbnchmpklaa", sum := "69aaf032b3bdf24edbe95abfa4842216603370f6640202e489bdcc488d20b8d3", func := "wharfinger/wharfingerlaw05.TelnetStrips", spec := "telnetStrips", apart := false, narrowed := true }
def TelnetStripsUptoSaid : Prop := telnetStripsUptoRow.holds Try.pinned (OpenSpec.upto telnetStripsSpec)

/-- 'wharfingerlaw05.TelnetParts', WHERE WHAT IT READS IS OF BULK AT MOST 1048576: true; the input reads as it did. -/
def telnetPartsUptoRow : OpenClaim := { program := "ytoeknbnchmpklaa", sum := "69aaf032b3bdf24edbe95abfa4842216603370f6640202e489bdcc488d20b8d3", func := "wharfinger/wharfingerlaw05.TelnetParts", spec := "telnetParts", apart := false, narrowed := true }
def TelnetPartsUptoSaid : Prop := telnetPartsUptoRow.holds Try.pinned (OpenSpec.upto telnetPartsSpec)

/-- 'wharfingerlaw05.TelnetLess', WHERE WHAT IT READS IS OF BULK AT MOST 1048576: true; the input reads as it did. -/
def telnetLessUptoRow : OpenClaim := { program := "ytoeknbnchmpklaa", sum := "69aaf032b3bdf24edbe95abfa4842216603370f6640202e489bdcc488d20b8d3", func := "wharfinger/wharfingerlaw05.TelnetLess", spec := "telnetLess", apart := false, narrowed := true }
def TelnetLessUptoSaid : Prop := telnetLessUptoRow.holds Try.pinned (OpenSpec.upto telnetLessSpec)

/-- 'wharfingerlaw05.TelnetCounts', WHERE WHAT IT READS IS OF BULK AT MOST 1048576: true; the input reads as it did. -/
def telnetCountsUptoRow : OpenClaim := { program := "ytoeknbnchmpklaa", sum := "69aaf032b3bdf24edbe95abfa4842216603370f6640202e489bdcc488d20b8d3", func := "wharfinger/wharfingerlaw05.TelnetCounts", spec := "telnetCounts", apart := false, narrowed := true }
def TelnetCountsUptoSaid : Prop := telnetCountsUptoRow.holds Try.pinned (OpenSpec.upto telnetCountsSpec)

/-- 'wharfingerlaw05.TelnetNone', WHERE WHAT IT READS IS OF BULK AT MOST 1048576: true; the input reads as it did. -/
def telnetNoneUptoRow : OpenClaim := { program := "ytoeknbnchmpklaa", sum := "69aaf032b3bdf24edbe95abfa4842216603370f6640202e489bdcc488d20b8d3", func := "wharfinger/wharfingerlaw05.TelnetNone", spec := "telnetNone", apart := false, narrowed := true }
def TelnetNoneUptoSaid : Prop := telnetNoneUptoRow.holds Try.pinned (OpenSpec.upto telnetNoneSpec)

end Rows
end Go.Proofs.Ytoeknbnchmpklaa
