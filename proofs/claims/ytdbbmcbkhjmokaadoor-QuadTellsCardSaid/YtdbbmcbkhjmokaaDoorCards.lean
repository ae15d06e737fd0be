/-
  DERIVED. GIVEN WITH THE SEED: THE CARDS: each row of YtdbbmcbkhjmokaaDoorRows.lean that lists a variable, with what it lists TIED to the program's text (the seventh form; the later family's looks); each row that meets fmt, with fmt's text TOLD by the authors' own Lean function (tested against real Go, not proved from fmt's source: count such statements apart). THE CARD IS WHAT COUNTS. Prove the row's statement (the work); the ties are given (YtdbbmcbkhjmokaaDoorTie.lean); close each card by the builder's one call (the guide's Derived/Test/ToyasCard.lean, 'card_holds'). Laid BY PROGRAM, IN A SANDBOX (cutbox-door.mjs). By AI agents, Wed Nov 11 2026. No macro, syntax, notation, axiom, sorry.
-/
import Derived.Test.YtdbbmcbkhjmokaaDoorRows
import GoSem.ClaimSeven
namespace Go.Proofs.YtdbbmcbkhjmokaaDoor
namespace Rows

/-- THE TIED CARD OF 'wharfingerlaw02.QuadTells'. -/
def quadTellsCard : Claim7 := { stood := { row := quadTellsRow, standIns := [], harness := (true, "f4e8e3dee71de4dd9f61a70fba9463d56f33891dd49c009e2a24cb5e1e72bc9e"), looks := false }, kinds := [], alts := [], laidByText := true, laidKinds := [.data, .pinned], laidTests := true, laidLooks := .later }
def QuadTellsCardSaid : Prop := Claim7.holds Tryd.pinned (.plain (OpenSpec.ofChange quadTellsSpec)) quadTellsCard

/-- THE TIED CARD OF 'wharfingerlaw02.QuadOnly'. -/
def quadOnlyCard : Claim7 := { stood := { row := quadOnlyRow, standIns := [], harness := (true, "f4e8e3dee71de4dd9f61a70fba9463d56f33891dd49c009e2a24cb5e1e72bc9e"), looks := false }, kinds := [], alts := [], laidByText := true, laidKinds := [.data, .pinned], laidTests := true, laidLooks := .later }
def QuadOnlyCardSaid : Prop := Claim7.holds Tryd.pinned (.plain (OpenSpec.ofChange quadOnlySpec)) quadOnlyCard

/-- THE TIED CARD OF 'wharfingerlaw02.QuadParts'. -/
def quadPartsCard : Claim7 := { stood := { row := quadPartsRow, standIns := [], harness := (true, "f4e8e3dee71de4dd9f61a70fba9463d56f33891dd49c009e2a24cb5e1e72bc9e"), looks := false }, kinds := [], alts := [], laidByText := true, laidKinds := [.data, .pinned], laidTests := true, laidLooks := .later }
def QuadPartsCardSaid : Prop := Claim7.holds Tryd.pinned (.plain (OpenSpec.ofChange quadPartsSpec)) quadPartsCard

/-- THE TIED CARD OF 'wharfingerlaw02.QuadLongs'. -/
def quadLongsCard : Claim7 := { stood := { row := quadLongsRow, standIns := [], harness := (true, "f4e8e3dee71de4dd9f61a70fba9463d56f33891dd49c009e2a24cb5e1e72bc9e"), looks := false }, kinds := [], alts := [], laidByText := true, laidKinds := [.data, .pinned], laidTests := true, laidLooks := .later }
def QuadLongsCardSaid : Prop := Claim7.holds Tryd.pinned (.plain (OpenSpec.ofChange quadLongsSpec)) quadLongsCard

/-- THE TIED CARD OF 'wharfingerlaw02.QuadMost'. -/
def quadMostCard : Claim7 := { stood := { row := quadMostRow, standIns := [], harness := (true, "f4e8e3dee71de4dd9f61a70fba9463d56f33891dd49c009e2a24cb5e1e72bc9e"), looks := false }, kinds := [], alts := [], laidByText := true, laidKinds := [.data, .pinned], laidTests := true, laidLooks := .later }
def QuadMostCardSaid : Prop := Claim7.holds Tryd.pinned (.plain (OpenSpec.ofChange quadMostSpec)) quadMostCard

/-- THE SECOND FORM's CARD OF 'wharfingerlaw02.QuadTells'. -/
def quadTellsUptoCard : Claim7 := { stood := { row := quadTellsUptoRow, standIns := [], harness := (true, "f4e8e3dee71de4dd9f61a70fba9463d56f33891dd49c009e2a24cb5e1e72bc9e"), looks := false }, kinds := [], alts := [], laidByText := true, laidKinds := [.data, .pinned], laidTests := true, laidLooks := .later }
def QuadTellsUptoCardSaid : Prop := Claim7.holds Tryd.pinned (.plain (OpenSpec.upto quadTellsSpec)) quadTellsUptoCard

/-- THE SECOND FORM's CARD OF 'wharfingerlaw02.QuadOnly'. -/
def quadOnlyUptoCard : Claim7 := { stood := { row := quadOnlyUptoRow, standIns := [], harness := (true, "f4e8e3dee71de4dd9f61a70fba9463d56f33891dd49c009e2a24cb5e1e72bc9e"), looks := false }, kinds := [], alts := [], laidByText := true, laidKinds := [.data, .pinned], laidTests := true, laidLooks := .later }
def QuadOnlyUptoCardSaid : Prop := Claim7.holds Tryd.pinned (.plain (OpenSpec.upto quadOnlySpec)) quadOnlyUptoCard

/-- THE SECOND FORM's CARD OF 'wharfingerlaw02.QuadParts'. -/
def quadPartsUptoCard : Claim7 := { stood := { row := quadPartsUptoRow, standIns := [], harness := (true, "f4e8e3dee71de4dd9f61a70fba9463d56f33891dd49c009e2a24cb5e1e72bc9e"), looks := false }, kinds := [], alts := [], laidByText := true, laidKinds := [.data, .pinned], laidTests := true, laidLooks := .later }
def QuadPartsUptoCardSaid : Prop := Claim7.holds Tryd.pinned (.plain (OpenSpec.upto quadPartsSpec)) quadPartsUptoCard

/-- THE SECOND FORM's CARD OF 'wharfingerlaw02.QuadLongs'. -/
def quadLongsUptoCard : Claim7 := { stood := { row := quadLongsUptoRow, standIns := [], harness := (true, "f4e8e3dee71de4dd9f61a70fba9463d56f33891dd49c009e2a24cb5e1e72bc9e"), looks := false }, kinds := [], alts := [], laidByText := true, laidKinds := [.data, .pinned], laidTests := true, laidLooks := .later }
def QuadLongsUptoCardSaid : Prop := Claim7.holds Tryd.pinned (.plain (OpenSpec.upto quadLongsSpec)) quadLongsUptoCard

/-- THE SECOND FORM's CARD OF 'wharfingerlaw02.QuadMost'. -/
def quadMostUptoCard : Claim7 := { stood := { row := quadMostUptoRow, standIns := [], harness := (true, "f4e8e3dee71de4dd9f61a70fba9463d56f33891dd49c009e2a24cb5e1e72bc9e"), looks := false }, kinds := [], alts := [], laidByText := true, laidKinds := [.data, .pinned], laidTests := true, laidLooks := .later }
def QuadMostUptoCardSaid : Prop := Claim7.holds Tryd.pinned (.plain (OpenSpec.upto quadMostSpec)) quadMostUptoCard
end Rows
end Go.Proofs.YtdbbmcbkhjmokaaDoor
