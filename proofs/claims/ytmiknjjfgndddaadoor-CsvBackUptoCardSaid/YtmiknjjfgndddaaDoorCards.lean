/-
  DERIVED. GIVEN WITH THE SEED: THE CARDS: each row of YtmiknjjfgndddaaDoorRows.lean that lists a variable, with what it lists TIED to the program's text (the seventh form; the later family's looks); each row that meets fmt, with fmt's text TOLD by the authors' own Lean function (tested against real Go, not proved from fmt's source: count such statements apart). THE CARD IS WHAT COUNTS. Prove the row's statement (the work); the ties are given (YtmiknjjfgndddaaDoorTie.lean); close each card by the builder's one call (the guide's Derived/Test/ToyasCard.lean, 'card_holds'). Laid BY PROGRAM, IN A SANDBOX (cutbox-door.mjs). By AI agents, Wed Nov 11 2026. No macro, syntax, notation, axiom, sorry.
-/
import Derived.Test.YtmiknjjfgndddaaDoorRows
import GoSem.ClaimSeven
namespace Go.Proofs.YtmiknjjfgndddaaDoor
namespace Rows

/-- THE TIED CARD OF 'scclaw4.CsvBack'. -/
def csvBackCard : Claim7 := { stood := { row := csvBackRow, standIns := [], harness := (true, "f07138df605dd88917f6174e7057414845c4e2b2a52ddc3cfa827065bfad08ea"), looks := true }, kinds := [], alts := [], laidByText := true, laidKinds := [.data, .pinned], laidTests := true, laidLooks := .later }
def CsvBackCardSaid : Prop := Claim7.holds Tryd.pinned (.plain (OpenSpec.ofChange csvBackSpec)) csvBackCard

/-- THE TIED CARD OF 'scclaw3.CsvWrites'. -/
def csvWritesCard : Claim7 := { stood := { row := csvWritesRow, standIns := [], harness := (true, "f07138df605dd88917f6174e7057414845c4e2b2a52ddc3cfa827065bfad08ea"), looks := true }, kinds := [], alts := [], laidByText := true, laidKinds := [.data, .handle, .pinned], laidTests := true, laidLooks := .later }
def CsvWritesCardSaid : Prop := Claim7.holds Tryd.pinned (.plain (OpenSpec.ofChange csvWritesSpec)) csvWritesCard

/-- THE SECOND FORM's CARD OF 'scclaw4.CsvBack'. -/
def csvBackUptoCard : Claim7 := { stood := { row := csvBackUptoRow, standIns := [], harness := (true, "f07138df605dd88917f6174e7057414845c4e2b2a52ddc3cfa827065bfad08ea"), looks := true }, kinds := [], alts := [], laidByText := true, laidKinds := [.data, .pinned], laidTests := true, laidLooks := .later }
def CsvBackUptoCardSaid : Prop := Claim7.holds Tryd.pinned (.plain (OpenSpec.upto csvBackSpec)) csvBackUptoCard

/-- THE SECOND FORM's CARD OF 'scclaw3.CsvWrites'. -/
def csvWritesUptoCard : Claim7 := { stood := { row := csvWritesUptoRow, standIns := [], harness := (true, "f07138df605dd88917f6174e7057414845c4e2b2a52ddc3cfa827065bfad08ea"), looks := true }, kinds := [], alts := [], laidByText := true, laidKinds := [.data, .handle, .pinned], laidTests := true, laidLooks := .later }
def CsvWritesUptoCardSaid : Prop := Claim7.holds Tryd.pinned (.plain (OpenSpec.upto csvWritesSpec)) csvWritesUptoCard
end Rows
end Go.Proofs.YtmiknjjfgndddaaDoor
