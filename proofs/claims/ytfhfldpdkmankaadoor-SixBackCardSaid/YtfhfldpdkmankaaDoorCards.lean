/-
  DERIVED. GIVEN WITH THE SEED: THE CARDS: each row of YtfhfldpdkmankaaDoorRows.lean that lists a variable, with what it lists TIED to the program's text (the seventh form; the later family's looks); each row that meets fmt, with fmt's text TOLD by the authors' own Lean function (tested against real Go, not proved from fmt's source: count such statements apart). THE CARD IS WHAT COUNTS. Prove the row's statement (the work); the ties are given (YtfhfldpdkmankaaDoorTie.lean); close each card by the builder's one call (the guide's Derived/Test/ToyasCard.lean, 'card_holds'). Laid BY PROGRAM, IN A SANDBOX (cutbox-door.mjs). By AI agents, Wed Nov 11 2026. No macro, syntax, notation, axiom, sorry.
-/
import Derived.Test.YtfhfldpdkmankaaDoorRows
import GoSem.ClaimSeven
namespace Go.Proofs.YtfhfldpdkmankaaDoor
namespace Rows

/-- THE TIED CARD OF 'wharfingerlaw03.SixTells'. -/
def sixTellsCard : Claim7 := { stood := { row := sixTellsRow, standIns := [], harness := (true, "371d60a99e729c794760707fc9932beb138892fe4945814f1d721188f7d47e5a"), looks := false }, kinds := [], alts := [], laidByText := true, laidKinds := [.data, .pinned], laidTests := true, laidLooks := .later }
def SixTellsCardSaid : Prop := Claim7.holds Tryd.pinned (.plain (OpenSpec.ofChange sixTellsSpec)) sixTellsCard

/-- THE TIED CARD OF 'wharfingerlaw03.SixBack'. -/
def sixBackCard : Claim7 := { stood := { row := sixBackRow, standIns := [], harness := (true, "371d60a99e729c794760707fc9932beb138892fe4945814f1d721188f7d47e5a"), looks := false }, kinds := [], alts := [], laidByText := true, laidKinds := [.data, .pinned], laidTests := true, laidLooks := .later }
def SixBackCardSaid : Prop := Claim7.holds Tryd.pinned (.plain (OpenSpec.ofChange sixBackSpec)) sixBackCard

/-- THE TIED CARD OF 'wharfingerlaw03.SixOnly'. -/
def sixOnlyCard : Claim7 := { stood := { row := sixOnlyRow, standIns := [], harness := (true, "371d60a99e729c794760707fc9932beb138892fe4945814f1d721188f7d47e5a"), looks := false }, kinds := [], alts := [], laidByText := true, laidKinds := [.data, .pinned], laidTests := true, laidLooks := .later }
def SixOnlyCardSaid : Prop := Claim7.holds Tryd.pinned (.plain (OpenSpec.ofChange sixOnlySpec)) sixOnlyCard

/-- THE TIED CARD OF 'wharfingerlaw03.SixParts'. -/
def sixPartsCard : Claim7 := { stood := { row := sixPartsRow, standIns := [], harness := (true, "371d60a99e729c794760707fc9932beb138892fe4945814f1d721188f7d47e5a"), looks := false }, kinds := [], alts := [], laidByText := true, laidKinds := [.data, .pinned], laidTests := true, laidLooks := .later }
def SixPartsCardSaid : Prop := Claim7.holds Tryd.pinned (.plain (OpenSpec.ofChange sixPartsSpec)) sixPartsCard

/-- THE TIED CARD OF 'wharfingerlaw03.SixFirst'. -/
def sixFirstCard : Claim7 := { stood := { row := sixFirstRow, standIns := [], harness := (true, "371d60a99e729c794760707fc9932beb138892fe4945814f1d721188f7d47e5a"), looks := false }, kinds := [], alts := [], laidByText := true, laidKinds := [.data, .pinned], laidTests := true, laidLooks := .later }
def SixFirstCardSaid : Prop := Claim7.holds Tryd.pinned (.plain (OpenSpec.ofChange sixFirstSpec)) sixFirstCard

/-- THE SECOND FORM's CARD OF 'wharfingerlaw03.SixTells'. -/
def sixTellsUptoCard : Claim7 := { stood := { row := sixTellsUptoRow, standIns := [], harness := (true, "371d60a99e729c794760707fc9932beb138892fe4945814f1d721188f7d47e5a"), looks := false }, kinds := [], alts := [], laidByText := true, laidKinds := [.data, .pinned], laidTests := true, laidLooks := .later }
def SixTellsUptoCardSaid : Prop := Claim7.holds Tryd.pinned (.plain (OpenSpec.upto sixTellsSpec)) sixTellsUptoCard

/-- THE SECOND FORM's CARD OF 'wharfingerlaw03.SixBack'. -/
def sixBackUptoCard : Claim7 := { stood := { row := sixBackUptoRow, standIns := [], harness := (true, "371d60a99e729c794760707fc9932beb138892fe4945814f1d721188f7d47e5a"), looks := false }, kinds := [], alts := [], laidByText := true, laidKinds := [.data, .pinned], laidTests := true, laidLooks := .later }
def SixBackUptoCardSaid : Prop := Claim7.holds Tryd.pinned (.plain (OpenSpec.upto sixBackSpec)) sixBackUptoCard

/-- THE SECOND FORM's CARD OF 'wharfingerlaw03.SixOnly'. -/
def sixOnlyUptoCard : Claim7 := { stood := { row := sixOnlyUptoRow, standIns := [], harness := (true, "371d60a99e729c794760707fc9932beb138892fe4945814f1d721188f7d47e5a"), looks := false }, kinds := [], alts := [], laidByText := true, laidKinds := [.data, .pinned], laidTests := true, laidLooks := .later }
def SixOnlyUptoCardSaid : Prop := Claim7.holds Tryd.pinned (.plain (OpenSpec.upto sixOnlySpec)) sixOnlyUptoCard

/-- THE SECOND FORM's CARD OF 'wharfingerlaw03.SixParts'. -/
def sixPartsUptoCard : Claim7 := { stood := { row := sixPartsUptoRow, standIns := [], harness := (true, "371d60a99e729c794760707fc9932beb138892fe4945814f1d721188f7d47e5a"), looks := false }, kinds := [], alts := [], laidByText := true, laidKinds := [.data, .pinned], laidTests := true, laidLooks := .later }
def SixPartsUptoCardSaid : Prop := Claim7.holds Tryd.pinned (.plain (OpenSpec.upto sixPartsSpec)) sixPartsUptoCard

/-- THE SECOND FORM's CARD OF 'wharfingerlaw03.SixFirst'. -/
def sixFirstUptoCard : Claim7 := { stood := { row := sixFirstUptoRow, standIns := [], harness := (true, "371d60a99e729c794760707fc9932beb138892fe4945814f1d721188f7d47e5a"), looks := false }, kinds := [], alts := [], laidByText := true, laidKinds := [.data, .pinned], laidTests := true, laidLooks := .later }
def SixFirstUptoCardSaid : Prop := Claim7.holds Tryd.pinned (.plain (OpenSpec.upto sixFirstSpec)) sixFirstUptoCard
end Rows
end Go.Proofs.YtfhfldpdkmankaaDoor
