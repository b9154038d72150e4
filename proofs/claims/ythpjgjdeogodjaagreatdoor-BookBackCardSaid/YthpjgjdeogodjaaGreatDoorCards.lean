/-
  DERIVED. GIVEN WITH THE SEED: THE CARDS: each row of YthpjgjdeogodjaaGreatDoorRows.lean that lists a variable, with what it lists TIED to the program's text (the seventh form; the later family's looks); each row that meets fmt, with fmt's text TOLD by the authors' own Lean function (tested against real Go, not proved from fmt's source: count such statements apart). THE CARD IS WHAT COUNTS. Prove the row's statement (the work); the ties are given (YthpjgjdeogodjaaGreatDoorTie.lean); close each card by the builder's one call (the guide's Derived/Test/ToyasCard.lean, 'card_holds'). Laid BY PROGRAM, IN A SANDBOX (cutbox-door.mjs). By AI agents, Wed Nov 11 2026. No macro, syntax, notation, axiom, sorry.
-/
import Derived.Test.YthpjgjdeogodjaaGreatDoorRows
import GoSem.ClaimSeven
namespace Go.Proofs.YthpjgjdeogodjaaGreatDoor
namespace Rows

/-- THE TIED CARD OF 'scclaw3.CsvSheets'. -/
def csvSheetsCard : Claim7 := { stood := { row := csvSheetsRow, standIns := [], harness := (true, "9501d3954232c5125b03dd5d74bc7c481a3dcb888fe5f8afbdc5dcfaf05e539c"), looks := true }, kinds := [], alts := [], laidByText := true, laidKinds := [.data, .data, .data, .data, .handle, .sentinel, .sentinel, .data, .data, .pinned], laidTests := true, laidLooks := .later }
def CsvSheetsCardSaid : Prop := Claim7.holds Tryz.pinned (.plain (OpenSpec.ofChange csvSheetsSpec)) csvSheetsCard

/-- THE TIED CARD OF 'scclaw3.BookOpens'. -/
def bookOpensCard : Claim7 := { stood := { row := bookOpensRow, standIns := [], harness := (true, "9501d3954232c5125b03dd5d74bc7c481a3dcb888fe5f8afbdc5dcfaf05e539c"), looks := true }, kinds := [], alts := [], laidByText := true, laidKinds := [.data, .data, .data, .data, .sentinel, .sentinel, .data, .data, .pinned], laidTests := true, laidLooks := .later }
def BookOpensCardSaid : Prop := Claim7.holds Tryz.pinned (.plain (OpenSpec.ofChange bookOpensSpec)) bookOpensCard

/-- THE TIED CARD OF 'scclaw4.BookBack'. -/
def bookBackCard : Claim7 := { stood := { row := bookBackRow, standIns := [], harness := (true, "9501d3954232c5125b03dd5d74bc7c481a3dcb888fe5f8afbdc5dcfaf05e539c"), looks := true }, kinds := [], alts := [], laidByText := true, laidKinds := [.data, .data, .data, .data, .sentinel, .sentinel, .data, .data, .pinned], laidTests := true, laidLooks := .later }
def BookBackCardSaid : Prop := Claim7.holds Tryz.pinned (.plain (OpenSpec.ofChange bookBackSpec)) bookBackCard

/-- THE SECOND FORM's CARD OF 'scclaw3.CsvSheets'. -/
def csvSheetsUptoCard : Claim7 := { stood := { row := csvSheetsUptoRow, standIns := [], harness := (true, "9501d3954232c5125b03dd5d74bc7c481a3dcb888fe5f8afbdc5dcfaf05e539c"), looks := true }, kinds := [], alts := [], laidByText := true, laidKinds := [.data, .data, .data, .data, .handle, .sentinel, .sentinel, .data, .data, .pinned], laidTests := true, laidLooks := .later }
def CsvSheetsUptoCardSaid : Prop := Claim7.holds Tryz.pinned (.plain (OpenSpec.upto csvSheetsSpec)) csvSheetsUptoCard

/-- THE SECOND FORM's CARD OF 'scclaw3.BookOpens'. -/
def bookOpensUptoCard : Claim7 := { stood := { row := bookOpensUptoRow, standIns := [], harness := (true, "9501d3954232c5125b03dd5d74bc7c481a3dcb888fe5f8afbdc5dcfaf05e539c"), looks := true }, kinds := [], alts := [], laidByText := true, laidKinds := [.data, .data, .data, .data, .sentinel, .sentinel, .data, .data, .pinned], laidTests := true, laidLooks := .later }
def BookOpensUptoCardSaid : Prop := Claim7.holds Tryz.pinned (.plain (OpenSpec.upto bookOpensSpec)) bookOpensUptoCard

/-- THE SECOND FORM's CARD OF 'scclaw4.BookBack'. -/
def bookBackUptoCard : Claim7 := { stood := { row := bookBackUptoRow, standIns := [], harness := (true, "9501d3954232c5125b03dd5d74bc7c481a3dcb888fe5f8afbdc5dcfaf05e539c"), looks := true }, kinds := [], alts := [], laidByText := true, laidKinds := [.data, .data, .data, .data, .sentinel, .sentinel, .data, .data, .pinned], laidTests := true, laidLooks := .later }
def BookBackUptoCardSaid : Prop := Claim7.holds Tryz.pinned (.plain (OpenSpec.upto bookBackSpec)) bookBackUptoCard
end Rows
end Go.Proofs.YthpjgjdeogodjaaGreatDoor
