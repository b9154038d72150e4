/-
  DERIVED. GIVEN WITH THE SEED: THE CARDS: each row of YtaijlknbeapnhaaGreatDoorRows.lean that lists a variable, with what it lists TIED to the program's text (the seventh form; the later family's looks); each row that meets fmt, with fmt's text TOLD by the authors' own Lean function (tested against real Go, not proved from fmt's source: count such statements apart). THE CARD IS WHAT COUNTS. Prove the row's statement (the work); the ties are given (YtaijlknbeapnhaaGreatDoorTie.lean); close each card by the builder's one call (the guide's Derived/Test/ToyasCard.lean, 'card_holds'). Laid BY PROGRAM, IN A SANDBOX (cutbox-door.mjs). By AI agents, Wed Nov 11 2026. No macro, syntax, notation, axiom, sorry.
-/
import Derived.Test.YtaijlknbeapnhaaGreatDoorRows
import GoSem.ClaimSeven
namespace Go.Proofs.YtaijlknbeapnhaaGreatDoor
namespace Rows

/-- THE TIED CARD OF 'scclaw3.FormatShows'. -/
def formatShowsCard : Claim7 := { stood := { row := formatShowsRow, standIns := [], harness := (true, "3a11758a5fbf62c0acd3b5e4f3af94a5a19598c903aba61e4691aef00b31358e"), looks := true }, kinds := [], alts := [], laidByText := true, laidKinds := [.data, .data, .data, .data, .handle, .data, .pinned], laidTests := true, laidLooks := .later }
def FormatShowsCardSaid : Prop := Claim7.holds Tryz.pinned (.plain (OpenSpec.ofChange formatShowsSpec)) formatShowsCard

/-- THE TIED CARD OF 'scclaw3.PickRows'. -/
def pickRowsCard : Claim7 := { stood := { row := pickRowsRow, standIns := [], harness := (true, "3a11758a5fbf62c0acd3b5e4f3af94a5a19598c903aba61e4691aef00b31358e"), looks := true }, kinds := [], alts := [], laidByText := true, laidKinds := [.data, .data, .data, .data, .handle, .sentinel, .sentinel, .data, .pinned], laidTests := true, laidLooks := .later }
def PickRowsCardSaid : Prop := Claim7.holds Tryz.pinned (.plain (OpenSpec.ofChange pickRowsSpec)) pickRowsCard

/-- THE TIED CARD OF 'scclaw3.BookEntries'. -/
def bookEntriesCard : Claim7 := { stood := { row := bookEntriesRow, standIns := [], harness := (true, "3a11758a5fbf62c0acd3b5e4f3af94a5a19598c903aba61e4691aef00b31358e"), looks := true }, kinds := [], alts := [], laidByText := true, laidKinds := [.data, .data, .data, .data, .handle, .sentinel, .sentinel, .data, .data, .pinned], laidTests := true, laidLooks := .later }
def BookEntriesCardSaid : Prop := Claim7.holds Tryz.pinned (.plain (OpenSpec.ofChange bookEntriesSpec)) bookEntriesCard

/-- THE TIED CARD OF 'scclaw3.CsvSheets'. -/
def csvSheetsCard : Claim7 := { stood := { row := csvSheetsRow, standIns := [], harness := (true, "3a11758a5fbf62c0acd3b5e4f3af94a5a19598c903aba61e4691aef00b31358e"), looks := true }, kinds := [], alts := [], laidByText := true, laidKinds := [.data, .data, .data, .data, .handle, .sentinel, .sentinel, .data, .data, .pinned], laidTests := true, laidLooks := .later }
def CsvSheetsCardSaid : Prop := Claim7.holds Tryz.pinned (.plain (OpenSpec.ofChange csvSheetsSpec)) csvSheetsCard

/-- THE TIED CARD OF 'scclaw3.BookOpens'. -/
def bookOpensCard : Claim7 := { stood := { row := bookOpensRow, standIns := [], harness := (true, "3a11758a5fbf62c0acd3b5e4f3af94a5a19598c903aba61e4691aef00b31358e"), looks := true }, kinds := [], alts := [], laidByText := true, laidKinds := [.data, .data, .data, .data, .sentinel, .sentinel, .data, .data, .pinned], laidTests := true, laidLooks := .later }
def BookOpensCardSaid : Prop := Claim7.holds Tryz.pinned (.plain (OpenSpec.ofChange bookOpensSpec)) bookOpensCard

/-- THE TIED CARD OF 'scclaw4.BookBack'. -/
def bookBackCard : Claim7 := { stood := { row := bookBackRow, standIns := [], harness := (true, "3a11758a5fbf62c0acd3b5e4f3af94a5a19598c903aba61e4691aef00b31358e"), looks := true }, kinds := [], alts := [], laidByText := true, laidKinds := [.data, .data, .data, .data, .sentinel, .sentinel, .data, .data, .pinned], laidTests := true, laidLooks := .later }
def BookBackCardSaid : Prop := Claim7.holds Tryz.pinned (.plain (OpenSpec.ofChange bookBackSpec)) bookBackCard

/-- THE TIED CARD OF 'scclaw3.PickGroups'. -/
def pickGroupsCard : Claim7 := { stood := { row := pickGroupsRow, standIns := [], harness := (true, "3a11758a5fbf62c0acd3b5e4f3af94a5a19598c903aba61e4691aef00b31358e"), looks := true }, kinds := [], alts := [], laidByText := true, laidKinds := [.data, .data, .data, .data, .handle, .sentinel, .sentinel, .data, .pinned], laidTests := true, laidLooks := .later }
def PickGroupsCardSaid : Prop := Claim7.holds Tryz.pinned (.plain (OpenSpec.ofChange pickGroupsSpec)) pickGroupsCard

/-- THE TIED CARD OF 'scclaw3.PickCross'. -/
def pickCrossCard : Claim7 := { stood := { row := pickCrossRow, standIns := [], harness := (true, "3a11758a5fbf62c0acd3b5e4f3af94a5a19598c903aba61e4691aef00b31358e"), looks := true }, kinds := [], alts := [], laidByText := true, laidKinds := [.data, .data, .data, .data, .handle, .sentinel, .sentinel, .data, .pinned], laidTests := true, laidLooks := .later }
def PickCrossCardSaid : Prop := Claim7.holds Tryz.pinned (.plain (OpenSpec.ofChange pickCrossSpec)) pickCrossCard

/-- THE SECOND FORM's CARD OF 'scclaw3.FormatShows'. -/
def formatShowsUptoCard : Claim7 := { stood := { row := formatShowsUptoRow, standIns := [], harness := (true, "3a11758a5fbf62c0acd3b5e4f3af94a5a19598c903aba61e4691aef00b31358e"), looks := true }, kinds := [], alts := [], laidByText := true, laidKinds := [.data, .data, .data, .data, .handle, .data, .pinned], laidTests := true, laidLooks := .later }
def FormatShowsUptoCardSaid : Prop := Claim7.holds Tryz.pinned (.plain (OpenSpec.upto formatShowsSpec)) formatShowsUptoCard

/-- THE SECOND FORM's CARD OF 'scclaw3.PickRows'. -/
def pickRowsUptoCard : Claim7 := { stood := { row := pickRowsUptoRow, standIns := [], harness := (true, "3a11758a5fbf62c0acd3b5e4f3af94a5a19598c903aba61e4691aef00b31358e"), looks := true }, kinds := [], alts := [], laidByText := true, laidKinds := [.data, .data, .data, .data, .handle, .sentinel, .sentinel, .data, .pinned], laidTests := true, laidLooks := .later }
def PickRowsUptoCardSaid : Prop := Claim7.holds Tryz.pinned (.plain (OpenSpec.upto pickRowsSpec)) pickRowsUptoCard

/-- THE SECOND FORM's CARD OF 'scclaw3.BookEntries'. -/
def bookEntriesUptoCard : Claim7 := { stood := { row := bookEntriesUptoRow, standIns := [], harness := (true, "3a11758a5fbf62c0acd3b5e4f3af94a5a19598c903aba61e4691aef00b31358e"), looks := true }, kinds := [], alts := [], laidByText := true, laidKinds := [.data, .data, .data, .data, .handle, .sentinel, .sentinel, .data, .data, .pinned], laidTests := true, laidLooks := .later }
def BookEntriesUptoCardSaid : Prop := Claim7.holds Tryz.pinned (.plain (OpenSpec.upto bookEntriesSpec)) bookEntriesUptoCard

/-- THE SECOND FORM's CARD OF 'scclaw3.CsvSheets'. -/
def csvSheetsUptoCard : Claim7 := { stood := { row := csvSheetsUptoRow, standIns := [], harness := (true, "3a11758a5fbf62c0acd3b5e4f3af94a5a19598c903aba61e4691aef00b31358e"), looks := true }, kinds := [], alts := [], laidByText := true, laidKinds := [.data, .data, .data, .data, .handle, .sentinel, .sentinel, .data, .data, .pinned], laidTests := true, laidLooks := .later }
def CsvSheetsUptoCardSaid : Prop := Claim7.holds Tryz.pinned (.plain (OpenSpec.upto csvSheetsSpec)) csvSheetsUptoCard

/-- THE SECOND FORM's CARD OF 'scclaw3.BookOpens'. -/
def bookOpensUptoCard : Claim7 := { stood := { row := bookOpensUptoRow, standIns := [], harness := (true, "3a11758a5fbf62c0acd3b5e4f3af94a5a19598c903aba61e4691aef00b31358e"), looks := true }, kinds := [], alts := [], laidByText := true, laidKinds := [.data, .data, .data, .data, .sentinel, .sentinel, .data, .data, .pinned], laidTests := true, laidLooks := .later }
def BookOpensUptoCardSaid : Prop := Claim7.holds Tryz.pinned (.plain (OpenSpec.upto bookOpensSpec)) bookOpensUptoCard

/-- THE SECOND FORM's CARD OF 'scclaw4.BookBack'. -/
def bookBackUptoCard : Claim7 := { stood := { row := bookBackUptoRow, standIns := [], harness := (true, "3a11758a5fbf62c0acd3b5e4f3af94a5a19598c903aba61e4691aef00b31358e"), looks := true }, kinds := [], alts := [], laidByText := true, laidKinds := [.data, .data, .data, .data, .sentinel, .sentinel, .data, .data, .pinned], laidTests := true, laidLooks := .later }
def BookBackUptoCardSaid : Prop := Claim7.holds Tryz.pinned (.plain (OpenSpec.upto bookBackSpec)) bookBackUptoCard

/-- THE SECOND FORM's CARD OF 'scclaw3.PickGroups'. -/
def pickGroupsUptoCard : Claim7 := { stood := { row := pickGroupsUptoRow, standIns := [], harness := (true, "3a11758a5fbf62c0acd3b5e4f3af94a5a19598c903aba61e4691aef00b31358e"), looks := true }, kinds := [], alts := [], laidByText := true, laidKinds := [.data, .data, .data, .data, .handle, .sentinel, .sentinel, .data, .pinned], laidTests := true, laidLooks := .later }
def PickGroupsUptoCardSaid : Prop := Claim7.holds Tryz.pinned (.plain (OpenSpec.upto pickGroupsSpec)) pickGroupsUptoCard

/-- THE SECOND FORM's CARD OF 'scclaw3.PickCross'. -/
def pickCrossUptoCard : Claim7 := { stood := { row := pickCrossUptoRow, standIns := [], harness := (true, "3a11758a5fbf62c0acd3b5e4f3af94a5a19598c903aba61e4691aef00b31358e"), looks := true }, kinds := [], alts := [], laidByText := true, laidKinds := [.data, .data, .data, .data, .handle, .sentinel, .sentinel, .data, .pinned], laidTests := true, laidLooks := .later }
def PickCrossUptoCardSaid : Prop := Claim7.holds Tryz.pinned (.plain (OpenSpec.upto pickCrossSpec)) pickCrossUptoCard
end Rows
end Go.Proofs.YtaijlknbeapnhaaGreatDoor
