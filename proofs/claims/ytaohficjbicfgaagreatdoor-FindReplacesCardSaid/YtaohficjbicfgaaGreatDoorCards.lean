/-
  DERIVED. GIVEN WITH THE SEED: THE CARDS: each row of YtaohficjbicfgaaGreatDoorRows.lean that lists a variable, with what it lists TIED to the program's text (the seventh form; the later family's looks); each row that meets fmt, with fmt's text TOLD by the authors' own Lean function (tested against real Go, not proved from fmt's source: count such statements apart). THE CARD IS WHAT COUNTS. Prove the row's statement (the work); the ties are given (YtaohficjbicfgaaGreatDoorTie.lean); close each card by the builder's one call (the guide's Derived/Test/ToyasCard.lean, 'card_holds'). Laid BY PROGRAM, IN A SANDBOX (cutbox-door.mjs). By AI agents, Wed Nov 11 2026. No macro, syntax, notation, axiom, sorry.
-/
import Derived.Test.YtaohficjbicfgaaGreatDoorRows
import GoSem.ClaimSeven
namespace Go.Proofs.YtaohficjbicfgaaGreatDoor
namespace Rows

/-- THE TIED CARD OF 'scclaw3.BookEntries'. -/
def bookEntriesCard : Claim7 := { stood := { row := bookEntriesRow, standIns := [], harness := (true, "7c30096ef0070b70fd99b0b5d4534e146623e9c189b6f2fd726d186e40137e79"), looks := true }, kinds := [], alts := [], laidByText := true, laidKinds := [.data, .data, .data, .data, .handle, .sentinel, .sentinel, .data, .data, .pinned], laidTests := true, laidLooks := .later }
def BookEntriesCardSaid : Prop := Claim7.holds Tryz.pinned (.plain (OpenSpec.ofChange bookEntriesSpec)) bookEntriesCard

/-- THE TIED CARD OF 'scclaw3.FindCells'. -/
def findCellsCard : Claim7 := { stood := { row := findCellsRow, standIns := [], harness := (true, "7c30096ef0070b70fd99b0b5d4534e146623e9c189b6f2fd726d186e40137e79"), looks := true }, kinds := [], alts := [], laidByText := true, laidKinds := [.data, .data, .data, .data, .handle, .sentinel, .sentinel, .data, .data, .pinned], laidTests := true, laidLooks := .later }
def FindCellsCardSaid : Prop := Claim7.holds Tryz.pinned (.plain (OpenSpec.ofChange findCellsSpec)) findCellsCard

/-- THE TIED CARD OF 'scclaw3.FindReplaces'. -/
def findReplacesCard : Claim7 := { stood := { row := findReplacesRow, standIns := [], harness := (true, "7c30096ef0070b70fd99b0b5d4534e146623e9c189b6f2fd726d186e40137e79"), looks := true }, kinds := [], alts := [], laidByText := true, laidKinds := [.data, .data, .data, .data, .handle, .sentinel, .sentinel, .data, .data, .pinned], laidTests := true, laidLooks := .later }
def FindReplacesCardSaid : Prop := Claim7.holds Tryz.pinned (.plain (OpenSpec.ofChange findReplacesSpec)) findReplacesCard

/-- THE SECOND FORM's CARD OF 'scclaw3.BookEntries'. -/
def bookEntriesUptoCard : Claim7 := { stood := { row := bookEntriesUptoRow, standIns := [], harness := (true, "7c30096ef0070b70fd99b0b5d4534e146623e9c189b6f2fd726d186e40137e79"), looks := true }, kinds := [], alts := [], laidByText := true, laidKinds := [.data, .data, .data, .data, .handle, .sentinel, .sentinel, .data, .data, .pinned], laidTests := true, laidLooks := .later }
def BookEntriesUptoCardSaid : Prop := Claim7.holds Tryz.pinned (.plain (OpenSpec.upto bookEntriesSpec)) bookEntriesUptoCard

/-- THE SECOND FORM's CARD OF 'scclaw3.FindCells'. -/
def findCellsUptoCard : Claim7 := { stood := { row := findCellsUptoRow, standIns := [], harness := (true, "7c30096ef0070b70fd99b0b5d4534e146623e9c189b6f2fd726d186e40137e79"), looks := true }, kinds := [], alts := [], laidByText := true, laidKinds := [.data, .data, .data, .data, .handle, .sentinel, .sentinel, .data, .data, .pinned], laidTests := true, laidLooks := .later }
def FindCellsUptoCardSaid : Prop := Claim7.holds Tryz.pinned (.plain (OpenSpec.upto findCellsSpec)) findCellsUptoCard

/-- THE SECOND FORM's CARD OF 'scclaw3.FindReplaces'. -/
def findReplacesUptoCard : Claim7 := { stood := { row := findReplacesUptoRow, standIns := [], harness := (true, "7c30096ef0070b70fd99b0b5d4534e146623e9c189b6f2fd726d186e40137e79"), looks := true }, kinds := [], alts := [], laidByText := true, laidKinds := [.data, .data, .data, .data, .handle, .sentinel, .sentinel, .data, .data, .pinned], laidTests := true, laidLooks := .later }
def FindReplacesUptoCardSaid : Prop := Claim7.holds Tryz.pinned (.plain (OpenSpec.upto findReplacesSpec)) findReplacesUptoCard
end Rows
end Go.Proofs.YtaohficjbicfgaaGreatDoor
