/-
  DERIVED. GIVEN WITH THE SEED: THE CARDS: each row of YtafclpcpdmeodaaGreatDoorRows.lean that lists a variable, with what it lists TIED to the program's text (the seventh form; the later family's looks); each row that meets fmt, with fmt's text TOLD by the authors' own Lean function (tested against real Go, not proved from fmt's source: count such statements apart). THE CARD IS WHAT COUNTS. Prove the row's statement (the work); the ties are given (YtafclpcpdmeodaaGreatDoorTie.lean); close each card by the builder's one call (the guide's Derived/Test/ToyasCard.lean, 'card_holds'). Laid BY PROGRAM, IN A SANDBOX (cutbox-door.mjs). By AI agents, Wed Nov 11 2026. No macro, syntax, notation, axiom, sorry.
-/
import Derived.Test.YtafclpcpdmeodaaGreatDoorRows
import GoSem.ClaimSeven
namespace Go.Proofs.YtafclpcpdmeodaaGreatDoor
namespace Rows

/-- THE TIED CARD OF 'scclaw3.RowsInsert'. -/
def rowsInsertCard : Claim7 := { stood := { row := rowsInsertRow, standIns := [], harness := (true, "4b392d39a2f9b860a25638f26f3f48039967bcd019463ba2570fce875fc2a063"), looks := true }, kinds := [], alts := [], laidByText := true, laidKinds := [.data, .data, .data, .data, .handle, .sentinel, .sentinel, .data, .data, .pinned], laidTests := true, laidLooks := .later }
def RowsInsertCardSaid : Prop := Claim7.holds Tryz.pinned (.plain (OpenSpec.ofChange rowsInsertSpec)) rowsInsertCard

/-- THE SECOND FORM's CARD OF 'scclaw3.RowsInsert'. -/
def rowsInsertUptoCard : Claim7 := { stood := { row := rowsInsertUptoRow, standIns := [], harness := (true, "4b392d39a2f9b860a25638f26f3f48039967bcd019463ba2570fce875fc2a063"), looks := true }, kinds := [], alts := [], laidByText := true, laidKinds := [.data, .data, .data, .data, .handle, .sentinel, .sentinel, .data, .data, .pinned], laidTests := true, laidLooks := .later }
def RowsInsertUptoCardSaid : Prop := Claim7.holds Tryz.pinned (.plain (OpenSpec.upto rowsInsertSpec)) rowsInsertUptoCard
end Rows
end Go.Proofs.YtafclpcpdmeodaaGreatDoor
