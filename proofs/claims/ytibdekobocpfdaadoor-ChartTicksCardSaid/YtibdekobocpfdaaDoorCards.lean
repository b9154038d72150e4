/-
  DERIVED. GIVEN WITH THE SEED: THE CARDS: each row of YtibdekobocpfdaaDoorRows.lean that lists a variable, with what it lists TIED to the program's text (the seventh form; the later family's looks); each row that meets fmt, with fmt's text TOLD by the authors' own Lean function (tested against real Go, not proved from fmt's source: count such statements apart). THE CARD IS WHAT COUNTS. Prove the row's statement (the work); the ties are given (YtibdekobocpfdaaDoorTie.lean); close each card by the builder's one call (the guide's Derived/Test/ToyasCard.lean, 'card_holds'). Laid BY PROGRAM, IN A SANDBOX (cutbox-door.mjs). By AI agents, Wed Nov 11 2026. No macro, syntax, notation, axiom, sorry.
-/
import Derived.Test.YtibdekobocpfdaaDoorRows
import GoSem.ClaimSeven
namespace Go.Proofs.YtibdekobocpfdaaDoor
namespace Rows

/-- THE TIED CARD OF 'scclaw3.ChartTicks'. -/
def chartTicksCard : Claim7 := { stood := { row := chartTicksRow, standIns := [], harness := (true, "b70edc28c0b674b6053f7ffa1a2a4275c004051eeae470f41fce480d8eff2436"), looks := true }, kinds := [], alts := [], laidByText := true, laidKinds := [.data, .data, .data, .handle], laidTests := true, laidLooks := .later }
def ChartTicksCardSaid : Prop := Claim7.holds Tryd.pinned (.plain (OpenSpec.ofChange chartTicksSpec)) chartTicksCard

/-- THE SECOND FORM's CARD OF 'scclaw3.ChartTicks'. -/
def chartTicksUptoCard : Claim7 := { stood := { row := chartTicksUptoRow, standIns := [], harness := (true, "b70edc28c0b674b6053f7ffa1a2a4275c004051eeae470f41fce480d8eff2436"), looks := true }, kinds := [], alts := [], laidByText := true, laidKinds := [.data, .data, .data, .handle], laidTests := true, laidLooks := .later }
def ChartTicksUptoCardSaid : Prop := Claim7.holds Tryd.pinned (.plain (OpenSpec.upto chartTicksSpec)) chartTicksUptoCard
end Rows
end Go.Proofs.YtibdekobocpfdaaDoor
