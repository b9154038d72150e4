/-
  DERIVED. GIVEN WITH THE SEED: THE CARDS: each row of YtgcggndacnmhfaaGreatDoorRows.lean that lists a variable, with what it lists TIED to the program's text (the seventh form; the later family's looks); each row that meets fmt, with fmt's text TOLD by the authors' own Lean function (tested against real Go, not proved from fmt's source: count such statements apart). THE CARD IS WHAT COUNTS. Prove the row's statement (the work); the ties are given (YtgcggndacnmhfaaGreatDoorTie.lean); close each card by the builder's one call (the guide's Derived/Test/ToyasCard.lean, 'card_holds'). Laid BY PROGRAM, IN A SANDBOX (cutbox-door.mjs). By AI agents, Wed Nov 11 2026. No macro, syntax, notation, axiom, sorry.
-/
import Derived.Test.YtgcggndacnmhfaaGreatDoorRows
import GoSem.ClaimSeven
namespace Go.Proofs.YtgcggndacnmhfaaGreatDoor
namespace Rows

/-- THE TIED CARD OF 'scclaw3.FormatShows'. -/
def formatShowsCard : Claim7 := { stood := { row := formatShowsRow, standIns := [], harness := (true, "9e9a2a74ad1fab881b07a53aeb6354c4cc91bce3f0b5868c11e28a3524e8c4d1"), looks := true }, kinds := [], alts := [], laidByText := true, laidKinds := [.data, .data, .data, .data, .handle, .data, .pinned], laidTests := true, laidLooks := .later }
def FormatShowsCardSaid : Prop := Claim7.holds Tryz.pinned (.plain (OpenSpec.ofChange formatShowsSpec)) formatShowsCard

/-- THE SECOND FORM's CARD OF 'scclaw3.FormatShows'. -/
def formatShowsUptoCard : Claim7 := { stood := { row := formatShowsUptoRow, standIns := [], harness := (true, "9e9a2a74ad1fab881b07a53aeb6354c4cc91bce3f0b5868c11e28a3524e8c4d1"), looks := true }, kinds := [], alts := [], laidByText := true, laidKinds := [.data, .data, .data, .data, .handle, .data, .pinned], laidTests := true, laidLooks := .later }
def FormatShowsUptoCardSaid : Prop := Claim7.holds Tryz.pinned (.plain (OpenSpec.upto formatShowsSpec)) formatShowsUptoCard
end Rows
end Go.Proofs.YtgcggndacnmhfaaGreatDoor
