/-
  DERIVED. GIVEN WITH THE SEED: THE CARDS: each row of YtdcbkeihgbekdaaDoorRows.lean that lists a variable, with what it lists TIED to the program's text (the seventh form; the later family's looks); each row that meets fmt, with fmt's text TOLD by the authors' own Lean function (tested against real Go, not proved from fmt's source: count such statements apart). THE CARD IS WHAT COUNTS. Prove the row's statement (the work); the ties are given (YtdcbkeihgbekdaaDoorTie.lean); close each card by the builder's one call (the guide's Derived/Test/ToyasCard.lean, 'card_holds'). Laid BY PROGRAM, IN A SANDBOX (cutbox-door.mjs). By AI agents, Wed Nov 11 2026. No macro, syntax, notation, axiom, sorry.
-/
import Derived.Test.YtdcbkeihgbekdaaDoorRows
import GoSem.ClaimSeven
namespace Go.Proofs.YtdcbkeihgbekdaaDoor
namespace Rows

/-- THE TIED CARD OF 'wharfingerlaw19.TurnOwn'. -/
def turnOwnCard : Claim7 := { stood := { row := turnOwnRow, standIns := [], harness := (true, "6ec768f47f1af4ad8d9403b14d446d9ce998b8eaf0b95c9ef20d6394cd46ad2d"), looks := true }, kinds := [], alts := [], laidByText := true, laidKinds := [.data, .handle, .sentinel, .sentinel, .sentinel, .sentinel, .pinned], laidTests := true, laidLooks := .later }
def TurnOwnCardSaid : Prop := Claim7.holds Tryd.pinned (.plain (OpenSpec.ofChange turnOwnSpec)) turnOwnCard

/-- THE TIED CARD OF 'wharfingerlaw19.TurnOnly'. -/
def turnOnlyCard : Claim7 := { stood := { row := turnOnlyRow, standIns := [], harness := (true, "6ec768f47f1af4ad8d9403b14d446d9ce998b8eaf0b95c9ef20d6394cd46ad2d"), looks := true }, kinds := [], alts := [], laidByText := true, laidKinds := [.data, .handle, .sentinel, .sentinel, .sentinel, .sentinel, .pinned], laidTests := true, laidLooks := .later }
def TurnOnlyCardSaid : Prop := Claim7.holds Tryd.pinned (.plain (OpenSpec.ofChange turnOnlySpec)) turnOnlyCard

/-- THE TIED CARD OF 'wharfingerlaw19.TurnLines'. -/
def turnLinesCard : Claim7 := { stood := { row := turnLinesRow, standIns := [], harness := (true, "6ec768f47f1af4ad8d9403b14d446d9ce998b8eaf0b95c9ef20d6394cd46ad2d"), looks := true }, kinds := [], alts := [], laidByText := true, laidKinds := [.data, .handle, .sentinel, .sentinel, .sentinel, .sentinel, .pinned], laidTests := true, laidLooks := .later }
def TurnLinesCardSaid : Prop := Claim7.holds Tryd.pinned (.plain (OpenSpec.ofChange turnLinesSpec)) turnLinesCard

/-- THE TIED CARD OF 'wharfingerlaw19.TurnBack'. -/
def turnBackCard : Claim7 := { stood := { row := turnBackRow, standIns := [], harness := (true, "6ec768f47f1af4ad8d9403b14d446d9ce998b8eaf0b95c9ef20d6394cd46ad2d"), looks := true }, kinds := [], alts := [], laidByText := true, laidKinds := [.data, .handle, .sentinel, .sentinel, .sentinel, .sentinel, .pinned], laidTests := true, laidLooks := .later }
def TurnBackCardSaid : Prop := Claim7.holds Tryd.pinned (.plain (OpenSpec.ofChange turnBackSpec)) turnBackCard

/-- THE SECOND FORM's CARD OF 'wharfingerlaw19.TurnOwn'. -/
def turnOwnUptoCard : Claim7 := { stood := { row := turnOwnUptoRow, standIns := [], harness := (true, "6ec768f47f1af4ad8d9403b14d446d9ce998b8eaf0b95c9ef20d6394cd46ad2d"), looks := true }, kinds := [], alts := [], laidByText := true, laidKinds := [.data, .handle, .sentinel, .sentinel, .sentinel, .sentinel, .pinned], laidTests := true, laidLooks := .later }
def TurnOwnUptoCardSaid : Prop := Claim7.holds Tryd.pinned (.plain (OpenSpec.upto turnOwnSpec)) turnOwnUptoCard

/-- THE SECOND FORM's CARD OF 'wharfingerlaw19.TurnOnly'. -/
def turnOnlyUptoCard : Claim7 := { stood := { row := turnOnlyUptoRow, standIns := [], harness := (true, "6ec768f47f1af4ad8d9403b14d446d9ce998b8eaf0b95c9ef20d6394cd46ad2d"), looks := true }, kinds := [], alts := [], laidByText := true, laidKinds := [.data, .handle, .sentinel, .sentinel, .sentinel, .sentinel, .pinned], laidTests := true, laidLooks := .later }
def TurnOnlyUptoCardSaid : Prop := Claim7.holds Tryd.pinned (.plain (OpenSpec.upto turnOnlySpec)) turnOnlyUptoCard

/-- THE SECOND FORM's CARD OF 'wharfingerlaw19.TurnLines'. -/
def turnLinesUptoCard : Claim7 := { stood := { row := turnLinesUptoRow, standIns := [], harness := (true, "6ec768f47f1af4ad8d9403b14d446d9ce998b8eaf0b95c9ef20d6394cd46ad2d"), looks := true }, kinds := [], alts := [], laidByText := true, laidKinds := [.data, .handle, .sentinel, .sentinel, .sentinel, .sentinel, .pinned], laidTests := true, laidLooks := .later }
def TurnLinesUptoCardSaid : Prop := Claim7.holds Tryd.pinned (.plain (OpenSpec.upto turnLinesSpec)) turnLinesUptoCard

/-- THE SECOND FORM's CARD OF 'wharfingerlaw19.TurnBack'. -/
def turnBackUptoCard : Claim7 := { stood := { row := turnBackUptoRow, standIns := [], harness := (true, "6ec768f47f1af4ad8d9403b14d446d9ce998b8eaf0b95c9ef20d6394cd46ad2d"), looks := true }, kinds := [], alts := [], laidByText := true, laidKinds := [.data, .handle, .sentinel, .sentinel, .sentinel, .sentinel, .pinned], laidTests := true, laidLooks := .later }
def TurnBackUptoCardSaid : Prop := Claim7.holds Tryd.pinned (.plain (OpenSpec.upto turnBackSpec)) turnBackUptoCard
end Rows
end Go.Proofs.YtdcbkeihgbekdaaDoor
