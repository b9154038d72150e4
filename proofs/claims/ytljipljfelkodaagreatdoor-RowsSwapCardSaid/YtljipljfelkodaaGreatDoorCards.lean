/-
  DERIVED. GIVEN WITH THE SEED: THE CARDS: each row of YtljipljfelkodaaGreatDoorRows.lean that lists a variable, with what it lists TIED to the program's text (the seventh form; the later family's looks); each row that meets fmt, with fmt's text TOLD by the authors' own Lean function (tested against real Go, not proved from fmt's source: count such statements apart). THE CARD IS WHAT COUNTS. Prove the row's statement (the work); the ties are given (YtljipljfelkodaaGreatDoorTie.lean); close each card by the builder's one call (the guide's Derived/Test/ToyasCard.lean, 'card_holds'). Laid BY PROGRAM, IN A SANDBOX (cutbox-door.mjs). By AI agents, Wed Nov 11 2026. No macro, syntax, notation, axiom, sorry.
-/
import Derived.Test.YtljipljfelkodaaGreatDoorRows
import GoSem.ClaimSeven
namespace Go.Proofs.YtljipljfelkodaaGreatDoor
namespace Rows

/-- THE TIED CARD OF 'scclaw3.RowsSwap'. -/
def rowsSwapCard : Claim7 := { stood := { row := rowsSwapRow, standIns := [], harness := (true, "9c69943a7f21fbd2c59dafc9bf8b8af296c6e231ee090723be773a30837501ef"), looks := true }, kinds := [], alts := [], laidByText := true, laidKinds := [.data, .data, .data, .data, .handle, .sentinel, .sentinel, .data, .data, .pinned], laidTests := true, laidLooks := .later }
def RowsSwapCardSaid : Prop := Claim7.holds Tryz.pinned (.plain (OpenSpec.ofChange rowsSwapSpec)) rowsSwapCard

/-- THE SECOND FORM's CARD OF 'scclaw3.RowsSwap'. -/
def rowsSwapUptoCard : Claim7 := { stood := { row := rowsSwapUptoRow, standIns := [], harness := (true, "9c69943a7f21fbd2c59dafc9bf8b8af296c6e231ee090723be773a30837501ef"), looks := true }, kinds := [], alts := [], laidByText := true, laidKinds := [.data, .data, .data, .data, .handle, .sentinel, .sentinel, .data, .data, .pinned], laidTests := true, laidLooks := .later }
def RowsSwapUptoCardSaid : Prop := Claim7.holds Tryz.pinned (.plain (OpenSpec.upto rowsSwapSpec)) rowsSwapUptoCard
end Rows
end Go.Proofs.YtljipljfelkodaaGreatDoor
