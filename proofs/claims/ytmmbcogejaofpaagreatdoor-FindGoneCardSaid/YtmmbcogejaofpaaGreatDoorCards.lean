/-
  DERIVED. GIVEN WITH THE SEED: THE CARDS: each row of YtmmbcogejaofpaaGreatDoorRows.lean that lists a variable, with what it lists TIED to the program's text (the seventh form; the later family's looks); each row that meets fmt, with fmt's text TOLD by the authors' own Lean function (tested against real Go, not proved from fmt's source: count such statements apart). THE CARD IS WHAT COUNTS. Prove the row's statement (the work); the ties are given (YtmmbcogejaofpaaGreatDoorTie.lean); close each card by the builder's one call (the guide's Derived/Test/ToyasCard.lean, 'card_holds'). Laid BY PROGRAM, IN A SANDBOX (cutbox-door.mjs). By AI agents, Wed Nov 11 2026. No macro, syntax, notation, axiom, sorry.
-/
import Derived.Test.YtmmbcogejaofpaaGreatDoorRows
import GoSem.ClaimSeven
namespace Go.Proofs.YtmmbcogejaofpaaGreatDoor
namespace Rows

/-- THE TIED CARD OF 'scclaw4.MergeBack'. -/
def mergeBackCard : Claim7 := { stood := { row := mergeBackRow, standIns := [], harness := (true, "e64b774697b7235d56ce54bc7dfeb99de01b9efc1c7c4e87b3ef142d4525ef08"), looks := true }, kinds := [], alts := [], laidByText := true, laidKinds := [.data, .data, .data, .data, .sentinel, .sentinel, .data, .data, .pinned], laidTests := true, laidLooks := .later }
def MergeBackCardSaid : Prop := Claim7.holds Tryz.pinned (.plain (OpenSpec.ofChange mergeBackSpec)) mergeBackCard

/-- THE TIED CARD OF 'scclaw4.MergeHands'. -/
def mergeHandsCard : Claim7 := { stood := { row := mergeHandsRow, standIns := [], harness := (true, "e64b774697b7235d56ce54bc7dfeb99de01b9efc1c7c4e87b3ef142d4525ef08"), looks := true }, kinds := [], alts := [], laidByText := true, laidKinds := [.data, .data, .data, .data, .sentinel, .sentinel, .data, .data, .pinned], laidTests := true, laidLooks := .later }
def MergeHandsCardSaid : Prop := Claim7.holds Tryz.pinned (.plain (OpenSpec.ofChange mergeHandsSpec)) mergeHandsCard

/-- THE TIED CARD OF 'scclaw4.FindGone'. -/
def findGoneCard : Claim7 := { stood := { row := findGoneRow, standIns := [], harness := (true, "e64b774697b7235d56ce54bc7dfeb99de01b9efc1c7c4e87b3ef142d4525ef08"), looks := true }, kinds := [], alts := [], laidByText := true, laidKinds := [.data, .data, .data, .data, .sentinel, .sentinel, .data, .data, .pinned], laidTests := true, laidLooks := .later }
def FindGoneCardSaid : Prop := Claim7.holds Tryz.pinned (.plain (OpenSpec.ofChange findGoneSpec)) findGoneCard

/-- THE SECOND FORM's CARD OF 'scclaw4.MergeBack'. -/
def mergeBackUptoCard : Claim7 := { stood := { row := mergeBackUptoRow, standIns := [], harness := (true, "e64b774697b7235d56ce54bc7dfeb99de01b9efc1c7c4e87b3ef142d4525ef08"), looks := true }, kinds := [], alts := [], laidByText := true, laidKinds := [.data, .data, .data, .data, .sentinel, .sentinel, .data, .data, .pinned], laidTests := true, laidLooks := .later }
def MergeBackUptoCardSaid : Prop := Claim7.holds Tryz.pinned (.plain (OpenSpec.upto mergeBackSpec)) mergeBackUptoCard

/-- THE SECOND FORM's CARD OF 'scclaw4.MergeHands'. -/
def mergeHandsUptoCard : Claim7 := { stood := { row := mergeHandsUptoRow, standIns := [], harness := (true, "e64b774697b7235d56ce54bc7dfeb99de01b9efc1c7c4e87b3ef142d4525ef08"), looks := true }, kinds := [], alts := [], laidByText := true, laidKinds := [.data, .data, .data, .data, .sentinel, .sentinel, .data, .data, .pinned], laidTests := true, laidLooks := .later }
def MergeHandsUptoCardSaid : Prop := Claim7.holds Tryz.pinned (.plain (OpenSpec.upto mergeHandsSpec)) mergeHandsUptoCard

/-- THE SECOND FORM's CARD OF 'scclaw4.FindGone'. -/
def findGoneUptoCard : Claim7 := { stood := { row := findGoneUptoRow, standIns := [], harness := (true, "e64b774697b7235d56ce54bc7dfeb99de01b9efc1c7c4e87b3ef142d4525ef08"), looks := true }, kinds := [], alts := [], laidByText := true, laidKinds := [.data, .data, .data, .data, .sentinel, .sentinel, .data, .data, .pinned], laidTests := true, laidLooks := .later }
def FindGoneUptoCardSaid : Prop := Claim7.holds Tryz.pinned (.plain (OpenSpec.upto findGoneSpec)) findGoneUptoCard
end Rows
end Go.Proofs.YtmmbcogejaofpaaGreatDoor
