/-
  DERIVED. GIVEN WITH THE SEED: THE CARDS: each row of YtaijlknbeapnhaaDoorRows.lean that lists a variable, with what it lists TIED to the program's text (the seventh form; the later family's looks); each row that meets fmt, with fmt's text TOLD by the authors' own Lean function (tested against real Go, not proved from fmt's source: count such statements apart). THE CARD IS WHAT COUNTS. Prove the row's statement (the work); the ties are given (YtaijlknbeapnhaaDoorTie.lean); close each card by the builder's one call (the guide's Derived/Test/ToyasCard.lean, 'card_holds'). Laid BY PROGRAM, IN A SANDBOX (cutbox-door.mjs). By AI agents, Wed Nov 11 2026. No macro, syntax, notation, axiom, sorry.
-/
import Derived.Test.YtaijlknbeapnhaaDoorRows
import GoSem.ClaimSeven
namespace Go.Proofs.YtaijlknbeapnhaaDoor
namespace Rows

/-- THE TIED CARD OF 'scclaw4.PickParts'. -/
def pickPartsCard : Claim7 := { stood := { row := pickPartsRow, standIns := [], harness := (true, "41423e91f8ff1f4f11c131d95abcf54bca6af1aa40cbd368eafe850b29465e1b"), looks := true }, kinds := [], alts := [], laidByText := true, laidKinds := [.data, .data, .data, .data, .sentinel, .sentinel, .data, .pinned], laidTests := true, laidLooks := .later }
def PickPartsCardSaid : Prop := Claim7.holds Tryd.pinned (.plain (OpenSpec.ofChange pickPartsSpec)) pickPartsCard

/-- THE TIED CARD OF 'scclaw4.CsvKeeps'. -/
def csvKeepsCard : Claim7 := { stood := { row := csvKeepsRow, standIns := [], harness := (true, "41423e91f8ff1f4f11c131d95abcf54bca6af1aa40cbd368eafe850b29465e1b"), looks := true }, kinds := [], alts := [], laidByText := true, laidKinds := [.data, .data, .data, .data, .sentinel, .sentinel, .data, .data, .pinned], laidTests := true, laidLooks := .later }
def CsvKeepsCardSaid : Prop := Claim7.holds Tryd.pinned (.plain (OpenSpec.ofChange csvKeepsSpec)) csvKeepsCard

/-- THE TIED CARD OF 'scclaw4.FormatSigns'. -/
def formatSignsCard : Claim7 := { stood := { row := formatSignsRow, standIns := [], harness := (true, "41423e91f8ff1f4f11c131d95abcf54bca6af1aa40cbd368eafe850b29465e1b"), looks := true }, kinds := [], alts := [], laidByText := true, laidKinds := [.data, .data, .data, .data, .sentinel, .sentinel, .data, .pinned], laidTests := true, laidLooks := .later }
def FormatSignsCardSaid : Prop := Claim7.holds Tryd.pinned (.plain (OpenSpec.ofChange formatSignsSpec)) formatSignsCard

/-- THE TIED CARD OF 'scclaw4.PickCounts'. -/
def pickCountsCard : Claim7 := { stood := { row := pickCountsRow, standIns := [], harness := (true, "41423e91f8ff1f4f11c131d95abcf54bca6af1aa40cbd368eafe850b29465e1b"), looks := true }, kinds := [], alts := [], laidByText := true, laidKinds := [.data, .data, .data, .data, .sentinel, .sentinel, .data, .pinned], laidTests := true, laidLooks := .later }
def PickCountsCardSaid : Prop := Claim7.holds Tryd.pinned (.plain (OpenSpec.ofChange pickCountsSpec)) pickCountsCard

/-- THE SECOND FORM's CARD OF 'scclaw4.PickParts'. -/
def pickPartsUptoCard : Claim7 := { stood := { row := pickPartsUptoRow, standIns := [], harness := (true, "41423e91f8ff1f4f11c131d95abcf54bca6af1aa40cbd368eafe850b29465e1b"), looks := true }, kinds := [], alts := [], laidByText := true, laidKinds := [.data, .data, .data, .data, .sentinel, .sentinel, .data, .pinned], laidTests := true, laidLooks := .later }
def PickPartsUptoCardSaid : Prop := Claim7.holds Tryd.pinned (.plain (OpenSpec.upto pickPartsSpec)) pickPartsUptoCard

/-- THE SECOND FORM's CARD OF 'scclaw4.CsvKeeps'. -/
def csvKeepsUptoCard : Claim7 := { stood := { row := csvKeepsUptoRow, standIns := [], harness := (true, "41423e91f8ff1f4f11c131d95abcf54bca6af1aa40cbd368eafe850b29465e1b"), looks := true }, kinds := [], alts := [], laidByText := true, laidKinds := [.data, .data, .data, .data, .sentinel, .sentinel, .data, .data, .pinned], laidTests := true, laidLooks := .later }
def CsvKeepsUptoCardSaid : Prop := Claim7.holds Tryd.pinned (.plain (OpenSpec.upto csvKeepsSpec)) csvKeepsUptoCard

/-- THE SECOND FORM's CARD OF 'scclaw4.FormatSigns'. -/
def formatSignsUptoCard : Claim7 := { stood := { row := formatSignsUptoRow, standIns := [], harness := (true, "41423e91f8ff1f4f11c131d95abcf54bca6af1aa40cbd368eafe850b29465e1b"), looks := true }, kinds := [], alts := [], laidByText := true, laidKinds := [.data, .data, .data, .data, .sentinel, .sentinel, .data, .pinned], laidTests := true, laidLooks := .later }
def FormatSignsUptoCardSaid : Prop := Claim7.holds Tryd.pinned (.plain (OpenSpec.upto formatSignsSpec)) formatSignsUptoCard

/-- THE SECOND FORM's CARD OF 'scclaw4.PickCounts'. -/
def pickCountsUptoCard : Claim7 := { stood := { row := pickCountsUptoRow, standIns := [], harness := (true, "41423e91f8ff1f4f11c131d95abcf54bca6af1aa40cbd368eafe850b29465e1b"), looks := true }, kinds := [], alts := [], laidByText := true, laidKinds := [.data, .data, .data, .data, .sentinel, .sentinel, .data, .pinned], laidTests := true, laidLooks := .later }
def PickCountsUptoCardSaid : Prop := Claim7.holds Tryd.pinned (.plain (OpenSpec.upto pickCountsSpec)) pickCountsUptoCard
end Rows
end Go.Proofs.YtaijlknbeapnhaaDoor
