/-
  DERIVED. GIVEN WITH THE SEED: THE CARDS: each row of YtkeblfepjkdleaaGreatDoorRows.lean that lists a variable, with what it lists TIED to the program's text (the seventh form; the later family's looks); each row that meets fmt, with fmt's text TOLD by the authors' own Lean function (tested against real Go, not proved from fmt's source: count such statements apart). THE CARD IS WHAT COUNTS. Prove the row's statement (the work); the ties are given (YtkeblfepjkdleaaGreatDoorTie.lean); close each card by the builder's one call (the guide's Derived/Test/ToyasCard.lean, 'card_holds'). Laid BY PROGRAM, IN A SANDBOX (cutbox-door.mjs). By AI agents, Wed Nov 11 2026. No macro, syntax, notation, axiom, sorry.
-/
import Derived.Test.YtkeblfepjkdleaaGreatDoorRows
import GoSem.ClaimSeven
namespace Go.Proofs.YtkeblfepjkdleaaGreatDoor
namespace Rows

/-- THE TIED CARD OF 'scclaw3.RowsDelete'. -/
def rowsDeleteCard : Claim7 := { stood := { row := rowsDeleteRow, standIns := [], harness := (true, "7078f4acefe41574fc7b1393724774a6bcffa604982d826eb4690ff2be108bc5"), looks := true }, kinds := [], alts := [], laidByText := true, laidKinds := [.data, .data, .data, .data, .handle, .sentinel, .sentinel, .data, .data, .pinned], laidTests := true, laidLooks := .later }
def RowsDeleteCardSaid : Prop := Claim7.holds Tryz.pinned (.plain (OpenSpec.ofChange rowsDeleteSpec)) rowsDeleteCard

/-- THE SECOND FORM's CARD OF 'scclaw3.RowsDelete'. -/
def rowsDeleteUptoCard : Claim7 := { stood := { row := rowsDeleteUptoRow, standIns := [], harness := (true, "7078f4acefe41574fc7b1393724774a6bcffa604982d826eb4690ff2be108bc5"), looks := true }, kinds := [], alts := [], laidByText := true, laidKinds := [.data, .data, .data, .data, .handle, .sentinel, .sentinel, .data, .data, .pinned], laidTests := true, laidLooks := .later }
def RowsDeleteUptoCardSaid : Prop := Claim7.holds Tryz.pinned (.plain (OpenSpec.upto rowsDeleteSpec)) rowsDeleteUptoCard
end Rows
end Go.Proofs.YtkeblfepjkdleaaGreatDoor
