/-
  DERIVED. GIVEN WITH THE SEED: THE CARDS: each row of YtdcbkeihgbekdaaGreatDoorRows.lean that lists a variable, with what it lists TIED to the program's text (the seventh form; the later family's looks); each row that meets fmt, with fmt's text TOLD by the authors' own Lean function (tested against real Go, not proved from fmt's source: count such statements apart). THE CARD IS WHAT COUNTS. Prove the row's statement (the work); the ties are given (YtdcbkeihgbekdaaGreatDoorTie.lean); close each card by the builder's one call (the guide's Derived/Test/ToyasCard.lean, 'card_holds'). Laid BY PROGRAM, IN A SANDBOX (cutbox-door.mjs). By AI agents, Wed Nov 11 2026. No macro, syntax, notation, axiom, sorry.
-/
import Derived.Test.YtdcbkeihgbekdaaGreatDoorRows
import GoSem.ClaimSeven
namespace Go.Proofs.YtdcbkeihgbekdaaGreatDoor
namespace Rows

/-- THE TIED CARD OF 'wharfingerlaw19.TurnTells'. -/
def turnTellsCard : Claim7 := { stood := { row := turnTellsRow, standIns := [], harness := (true, "ed31f8754b62b058978d509f3b31302a6052543f8e1b9c50cb672f32e6b4c8e1"), looks := true }, kinds := [], alts := [], laidByText := true, laidKinds := [.data, .handle, .sentinel, .sentinel, .sentinel, .sentinel, .pinned], laidTests := true, laidLooks := .later }
def TurnTellsCardSaid : Prop := Claim7.holds Tryz.pinned (.plain (OpenSpec.ofChange turnTellsSpec)) turnTellsCard

/-- THE SECOND FORM's CARD OF 'wharfingerlaw19.TurnTells'. -/
def turnTellsUptoCard : Claim7 := { stood := { row := turnTellsUptoRow, standIns := [], harness := (true, "ed31f8754b62b058978d509f3b31302a6052543f8e1b9c50cb672f32e6b4c8e1"), looks := true }, kinds := [], alts := [], laidByText := true, laidKinds := [.data, .handle, .sentinel, .sentinel, .sentinel, .sentinel, .pinned], laidTests := true, laidLooks := .later }
def TurnTellsUptoCardSaid : Prop := Claim7.holds Tryz.pinned (.plain (OpenSpec.upto turnTellsSpec)) turnTellsUptoCard
end Rows
end Go.Proofs.YtdcbkeihgbekdaaGreatDoor
