/-
  DERIVED. GIVEN WITH THE SEED: THE CARDS: each row of YtfbjejkmjbknaaaDoorRows.lean that lists a variable, with what it lists TIED to the program's text (the seventh form; the later family's looks); each row that meets fmt, with fmt's text TOLD by the authors' own Lean function (tested against real Go, not proved from fmt's source: count such statements apart). THE CARD IS WHAT COUNTS. Prove the row's statement (the work); the ties are given (YtfbjejkmjbknaaaDoorTie.lean); close each card by the builder's one call (the guide's Derived/Test/ToyasCard.lean, 'card_holds'). Laid BY PROGRAM, IN A SANDBOX (cutbox-door.mjs). By AI agents, Wed Nov 11 2026. No macro, syntax, notation, axiom, sorry.
-/
import Derived.Test.YtfbjejkmjbknaaaDoorRows
import GoSem.ClaimSeven
namespace Go.Proofs.YtfbjejkmjbknaaaDoor
namespace Rows

/-- THE TIED CARD OF 'wharfingerlaw04.ExtTells'. -/
def extTellsCard : Claim7 := { stood := { row := extTellsRow, standIns := [], harness := (true, "4634420036692fc42f73b300055d817a2814e09891139b45fd46aa963000ff09"), looks := true }, kinds := [], alts := [], laidByText := true, laidKinds := [.data, .handle, .sentinel, .sentinel, .pinned], laidTests := true, laidLooks := .later }
def ExtTellsCardSaid : Prop := Claim7.holds Tryd.pinned (.plain (OpenSpec.ofChange extTellsSpec)) extTellsCard

/-- THE TIED CARD OF 'wharfingerlaw04.ExtBack'. -/
def extBackCard : Claim7 := { stood := { row := extBackRow, standIns := [], harness := (true, "4634420036692fc42f73b300055d817a2814e09891139b45fd46aa963000ff09"), looks := true }, kinds := [], alts := [], laidByText := true, laidKinds := [.data, .handle, .sentinel, .sentinel, .pinned], laidTests := true, laidLooks := .later }
def ExtBackCardSaid : Prop := Claim7.holds Tryd.pinned (.plain (OpenSpec.ofChange extBackSpec)) extBackCard

/-- THE TIED CARD OF 'wharfingerlaw04.ExtFew'. -/
def extFewCard : Claim7 := { stood := { row := extFewRow, standIns := [], harness := (true, "4634420036692fc42f73b300055d817a2814e09891139b45fd46aa963000ff09"), looks := true }, kinds := [], alts := [], laidByText := true, laidKinds := [.data, .handle, .sentinel, .sentinel, .pinned], laidTests := true, laidLooks := .later }
def ExtFewCardSaid : Prop := Claim7.holds Tryd.pinned (.plain (OpenSpec.ofChange extFewSpec)) extFewCard

/-- THE TIED CARD OF 'wharfingerlaw04.ExtShape'. -/
def extShapeCard : Claim7 := { stood := { row := extShapeRow, standIns := [], harness := (true, "4634420036692fc42f73b300055d817a2814e09891139b45fd46aa963000ff09"), looks := true }, kinds := [], alts := [], laidByText := true, laidKinds := [.data, .handle, .sentinel, .sentinel, .pinned], laidTests := true, laidLooks := .later }
def ExtShapeCardSaid : Prop := Claim7.holds Tryd.pinned (.plain (OpenSpec.ofChange extShapeSpec)) extShapeCard

/-- THE TIED CARD OF 'wharfingerlaw04.ExtKinds'. -/
def extKindsCard : Claim7 := { stood := { row := extKindsRow, standIns := [], harness := (true, "4634420036692fc42f73b300055d817a2814e09891139b45fd46aa963000ff09"), looks := true }, kinds := [], alts := [], laidByText := true, laidKinds := [.data, .handle, .sentinel, .sentinel, .pinned], laidTests := true, laidLooks := .later }
def ExtKindsCardSaid : Prop := Claim7.holds Tryd.pinned (.plain (OpenSpec.ofChange extKindsSpec)) extKindsCard

/-- THE SECOND FORM's CARD OF 'wharfingerlaw04.ExtTells'. -/
def extTellsUptoCard : Claim7 := { stood := { row := extTellsUptoRow, standIns := [], harness := (true, "4634420036692fc42f73b300055d817a2814e09891139b45fd46aa963000ff09"), looks := true }, kinds := [], alts := [], laidByText := true, laidKinds := [.data, .handle, .sentinel, .sentinel, .pinned], laidTests := true, laidLooks := .later }
def ExtTellsUptoCardSaid : Prop := Claim7.holds Tryd.pinned (.plain (OpenSpec.upto extTellsSpec)) extTellsUptoCard

/-- THE SECOND FORM's CARD OF 'wharfingerlaw04.ExtBack'. -/
def extBackUptoCard : Claim7 := { stood := { row := extBackUptoRow, standIns := [], harness := (true, "4634420036692fc42f73b300055d817a2814e09891139b45fd46aa963000ff09"), looks := true }, kinds := [], alts := [], laidByText := true, laidKinds := [.data, .handle, .sentinel, .sentinel, .pinned], laidTests := true, laidLooks := .later }
def ExtBackUptoCardSaid : Prop := Claim7.holds Tryd.pinned (.plain (OpenSpec.upto extBackSpec)) extBackUptoCard

/-- THE SECOND FORM's CARD OF 'wharfingerlaw04.ExtFew'. -/
def extFewUptoCard : Claim7 := { stood := { row := extFewUptoRow, standIns := [], harness := (true, "4634420036692fc42f73b300055d817a2814e09891139b45fd46aa963000ff09"), looks := true }, kinds := [], alts := [], laidByText := true, laidKinds := [.data, .handle, .sentinel, .sentinel, .pinned], laidTests := true, laidLooks := .later }
def ExtFewUptoCardSaid : Prop := Claim7.holds Tryd.pinned (.plain (OpenSpec.upto extFewSpec)) extFewUptoCard

/-- THE SECOND FORM's CARD OF 'wharfingerlaw04.ExtShape'. -/
def extShapeUptoCard : Claim7 := { stood := { row := extShapeUptoRow, standIns := [], harness := (true, "4634420036692fc42f73b300055d817a2814e09891139b45fd46aa963000ff09"), looks := true }, kinds := [], alts := [], laidByText := true, laidKinds := [.data, .handle, .sentinel, .sentinel, .pinned], laidTests := true, laidLooks := .later }
def ExtShapeUptoCardSaid : Prop := Claim7.holds Tryd.pinned (.plain (OpenSpec.upto extShapeSpec)) extShapeUptoCard

/-- THE SECOND FORM's CARD OF 'wharfingerlaw04.ExtKinds'. -/
def extKindsUptoCard : Claim7 := { stood := { row := extKindsUptoRow, standIns := [], harness := (true, "4634420036692fc42f73b300055d817a2814e09891139b45fd46aa963000ff09"), looks := true }, kinds := [], alts := [], laidByText := true, laidKinds := [.data, .handle, .sentinel, .sentinel, .pinned], laidTests := true, laidLooks := .later }
def ExtKindsUptoCardSaid : Prop := Claim7.holds Tryd.pinned (.plain (OpenSpec.upto extKindsSpec)) extKindsUptoCard
end Rows
end Go.Proofs.YtfbjejkmjbknaaaDoor
