/-
  DERIVED. GIVEN WITH THE SEED: THE CARDS: each row of YtniijfcjdlhfcaaDoorRows.lean that lists a variable, with what it lists TIED to the program's text (the seventh form; the later family's looks); each row that meets fmt, with fmt's text TOLD by the authors' own Lean function (tested against real Go, not proved from fmt's source: count such statements apart). THE CARD IS WHAT COUNTS. Prove the row's statement (the work); the ties are given (YtniijfcjdlhfcaaDoorTie.lean); close each card by the builder's one call (the guide's Derived/Test/ToyasCard.lean, 'card_holds'). Laid BY PROGRAM, IN A SANDBOX (cutbox-door.mjs). By AI agents, Wed Nov 11 2026. No macro, syntax, notation, axiom, sorry.
-/
import Derived.Test.YtniijfcjdlhfcaaDoorRows
import GoSem.ClaimSeven
namespace Go.Proofs.YtniijfcjdlhfcaaDoor
namespace Rows

/-- THE TIED CARD OF 'scclaw3.FindLike'. -/
def findLikeCard : Claim7 := { stood := { row := findLikeRow, standIns := [], harness := (true, "3f949a449b5eb89893828e6ebdbad7aa46b0e61a91577b00d2b5ffddd5ee743f"), looks := true }, kinds := [], alts := [], laidByText := true, laidKinds := [.handle], laidTests := true, laidLooks := .later }
def FindLikeCardSaid : Prop := Claim7.holds Tryd.pinned (.plain (OpenSpec.ofChange findLikeSpec)) findLikeCard

/-- THE TIED CARD OF 'scclaw3.CsvReads'. -/
def csvReadsCard : Claim7 := { stood := { row := csvReadsRow, standIns := [], harness := (true, "3f949a449b5eb89893828e6ebdbad7aa46b0e61a91577b00d2b5ffddd5ee743f"), looks := true }, kinds := [], alts := [], laidByText := true, laidKinds := [.handle], laidTests := true, laidLooks := .later }
def CsvReadsCardSaid : Prop := Claim7.holds Tryd.pinned (.plain (OpenSpec.ofChange csvReadsSpec)) csvReadsCard

/-- THE TIED CARD OF 'scclaw3.SortDistinct'. -/
def sortDistinctCard : Claim7 := { stood := { row := sortDistinctRow, standIns := [], harness := (true, "3f949a449b5eb89893828e6ebdbad7aa46b0e61a91577b00d2b5ffddd5ee743f"), looks := true }, kinds := [], alts := [], laidByText := true, laidKinds := [.handle], laidTests := true, laidLooks := .later }
def SortDistinctCardSaid : Prop := Claim7.holds Tryd.pinned (.plain (OpenSpec.ofChange sortDistinctSpec)) sortDistinctCard

/-- THE TIED CARD OF 'scclaw3.FormatWide'. -/
def formatWideCard : Claim7 := { stood := { row := formatWideRow, standIns := [], harness := (true, "3f949a449b5eb89893828e6ebdbad7aa46b0e61a91577b00d2b5ffddd5ee743f"), looks := true }, kinds := [], alts := [], laidByText := true, laidKinds := [.handle], laidTests := true, laidLooks := .later }
def FormatWideCardSaid : Prop := Claim7.holds Tryd.pinned (.plain (OpenSpec.ofChange formatWideSpec)) formatWideCard

/-- THE TIED CARD OF 'scclaw3.ChartTicks'. -/
def chartTicksCard : Claim7 := { stood := { row := chartTicksRow, standIns := [], harness := (true, "3f949a449b5eb89893828e6ebdbad7aa46b0e61a91577b00d2b5ffddd5ee743f"), looks := true }, kinds := [], alts := [], laidByText := true, laidKinds := [.data, .data, .data, .handle], laidTests := true, laidLooks := .later }
def ChartTicksCardSaid : Prop := Claim7.holds Tryd.pinned (.plain (OpenSpec.ofChange chartTicksSpec)) chartTicksCard

/-- THE TIED CARD OF 'scclaw3.SortRows'. -/
def sortRowsCard : Claim7 := { stood := { row := sortRowsRow, standIns := [], harness := (true, "3f949a449b5eb89893828e6ebdbad7aa46b0e61a91577b00d2b5ffddd5ee743f"), looks := true }, kinds := [], alts := [], laidByText := true, laidKinds := [.handle], laidTests := true, laidLooks := .later }
def SortRowsCardSaid : Prop := Claim7.holds Tryd.pinned (.plain (OpenSpec.ofChange sortRowsSpec)) sortRowsCard

/-- THE TIED CARD OF 'scclaw4.CsvBack'. -/
def csvBackCard : Claim7 := { stood := { row := csvBackRow, standIns := [], harness := (true, "3f949a449b5eb89893828e6ebdbad7aa46b0e61a91577b00d2b5ffddd5ee743f"), looks := true }, kinds := [], alts := [], laidByText := true, laidKinds := [.data, .pinned], laidTests := true, laidLooks := .later }
def CsvBackCardSaid : Prop := Claim7.holds Tryd.pinned (.plain (OpenSpec.ofChange csvBackSpec)) csvBackCard

/-- THE TIED CARD OF 'scclaw3.CsvWrites'. -/
def csvWritesCard : Claim7 := { stood := { row := csvWritesRow, standIns := [], harness := (true, "3f949a449b5eb89893828e6ebdbad7aa46b0e61a91577b00d2b5ffddd5ee743f"), looks := true }, kinds := [], alts := [], laidByText := true, laidKinds := [.data, .handle, .pinned], laidTests := true, laidLooks := .later }
def CsvWritesCardSaid : Prop := Claim7.holds Tryd.pinned (.plain (OpenSpec.ofChange csvWritesSpec)) csvWritesCard

/-- THE SECOND FORM's CARD OF 'scclaw3.FindLike'. -/
def findLikeUptoCard : Claim7 := { stood := { row := findLikeUptoRow, standIns := [], harness := (true, "3f949a449b5eb89893828e6ebdbad7aa46b0e61a91577b00d2b5ffddd5ee743f"), looks := true }, kinds := [], alts := [], laidByText := true, laidKinds := [.handle], laidTests := true, laidLooks := .later }
def FindLikeUptoCardSaid : Prop := Claim7.holds Tryd.pinned (.plain (OpenSpec.upto findLikeSpec)) findLikeUptoCard

/-- THE SECOND FORM's CARD OF 'scclaw3.CsvReads'. -/
def csvReadsUptoCard : Claim7 := { stood := { row := csvReadsUptoRow, standIns := [], harness := (true, "3f949a449b5eb89893828e6ebdbad7aa46b0e61a91577b00d2b5ffddd5ee743f"), looks := true }, kinds := [], alts := [], laidByText := true, laidKinds := [.handle], laidTests := true, laidLooks := .later }
def CsvReadsUptoCardSaid : Prop := Claim7.holds Tryd.pinned (.plain (OpenSpec.upto csvReadsSpec)) csvReadsUptoCard

/-- THE SECOND FORM's CARD OF 'scclaw3.SortDistinct'. -/
def sortDistinctUptoCard : Claim7 := { stood := { row := sortDistinctUptoRow, standIns := [], harness := (true, "3f949a449b5eb89893828e6ebdbad7aa46b0e61a91577b00d2b5ffddd5ee743f"), looks := true }, kinds := [], alts := [], laidByText := true, laidKinds := [.handle], laidTests := true, laidLooks := .later }
def SortDistinctUptoCardSaid : Prop := Claim7.holds Tryd.pinned (.plain (OpenSpec.upto sortDistinctSpec)) sortDistinctUptoCard

/-- THE SECOND FORM's CARD OF 'scclaw3.FormatWide'. -/
def formatWideUptoCard : Claim7 := { stood := { row := formatWideUptoRow, standIns := [], harness := (true, "3f949a449b5eb89893828e6ebdbad7aa46b0e61a91577b00d2b5ffddd5ee743f"), looks := true }, kinds := [], alts := [], laidByText := true, laidKinds := [.handle], laidTests := true, laidLooks := .later }
def FormatWideUptoCardSaid : Prop := Claim7.holds Tryd.pinned (.plain (OpenSpec.upto formatWideSpec)) formatWideUptoCard

/-- THE SECOND FORM's CARD OF 'scclaw3.ChartTicks'. -/
def chartTicksUptoCard : Claim7 := { stood := { row := chartTicksUptoRow, standIns := [], harness := (true, "3f949a449b5eb89893828e6ebdbad7aa46b0e61a91577b00d2b5ffddd5ee743f"), looks := true }, kinds := [], alts := [], laidByText := true, laidKinds := [.data, .data, .data, .handle], laidTests := true, laidLooks := .later }
def ChartTicksUptoCardSaid : Prop := Claim7.holds Tryd.pinned (.plain (OpenSpec.upto chartTicksSpec)) chartTicksUptoCard

/-- THE SECOND FORM's CARD OF 'scclaw3.SortRows'. -/
def sortRowsUptoCard : Claim7 := { stood := { row := sortRowsUptoRow, standIns := [], harness := (true, "3f949a449b5eb89893828e6ebdbad7aa46b0e61a91577b00d2b5ffddd5ee743f"), looks := true }, kinds := [], alts := [], laidByText := true, laidKinds := [.handle], laidTests := true, laidLooks := .later }
def SortRowsUptoCardSaid : Prop := Claim7.holds Tryd.pinned (.plain (OpenSpec.upto sortRowsSpec)) sortRowsUptoCard

/-- THE SECOND FORM's CARD OF 'scclaw4.CsvBack'. -/
def csvBackUptoCard : Claim7 := { stood := { row := csvBackUptoRow, standIns := [], harness := (true, "3f949a449b5eb89893828e6ebdbad7aa46b0e61a91577b00d2b5ffddd5ee743f"), looks := true }, kinds := [], alts := [], laidByText := true, laidKinds := [.data, .pinned], laidTests := true, laidLooks := .later }
def CsvBackUptoCardSaid : Prop := Claim7.holds Tryd.pinned (.plain (OpenSpec.upto csvBackSpec)) csvBackUptoCard

/-- THE SECOND FORM's CARD OF 'scclaw3.CsvWrites'. -/
def csvWritesUptoCard : Claim7 := { stood := { row := csvWritesUptoRow, standIns := [], harness := (true, "3f949a449b5eb89893828e6ebdbad7aa46b0e61a91577b00d2b5ffddd5ee743f"), looks := true }, kinds := [], alts := [], laidByText := true, laidKinds := [.data, .handle, .pinned], laidTests := true, laidLooks := .later }
def CsvWritesUptoCardSaid : Prop := Claim7.holds Tryd.pinned (.plain (OpenSpec.upto csvWritesSpec)) csvWritesUptoCard
end Rows
end Go.Proofs.YtniijfcjdlhfcaaDoor
