/-
  DERIVED. GIVEN WITH THE SEED: THE CARDS: each row of YtmfmhljpddpfnaaGreatDoorRows.lean that lists a variable, with what it lists TIED to the program's text (the seventh form; the later family's looks); each row that meets fmt, with fmt's text TOLD by the authors' own Lean function (tested against real Go, not proved from fmt's source: count such statements apart). THE CARD IS WHAT COUNTS. Prove the row's statement (the work); the ties are given (YtmfmhljpddpfnaaGreatDoorTie.lean); close each card by the builder's one call (the guide's Derived/Test/ToyasCard.lean, 'card_holds'). Laid BY PROGRAM, IN A SANDBOX (cutbox-door.mjs). By AI agents, Wed Nov 11 2026. No macro, syntax, notation, axiom, sorry.
-/
import Derived.Test.YtmfmhljpddpfnaaGreatDoorRows
import GoSem.ClaimSeven
namespace Go.Proofs.YtmfmhljpddpfnaaGreatDoor
namespace Rows

/-- THE TIED CARD OF 'scclaw3.FillCopies'. -/
def fillCopiesCard : Claim7 := { stood := { row := fillCopiesRow, standIns := [], harness := (true, "9bcb9b90110dd2a8726f96474d49bf9f30a5645a20cc06ad8ff5660602d5f1a7"), looks := true }, kinds := [], alts := [], laidByText := true, laidKinds := [.data, .data, .data, .data, .handle, .sentinel, .sentinel, .data, .data, .pinned], laidTests := true, laidLooks := .later }
def FillCopiesCardSaid : Prop := Claim7.holds Tryz.pinned (.plain (OpenSpec.ofChange fillCopiesSpec)) fillCopiesCard

/-- THE TIED CARD OF 'scclaw3.FillDown'. -/
def fillDownCard : Claim7 := { stood := { row := fillDownRow, standIns := [], harness := (true, "9bcb9b90110dd2a8726f96474d49bf9f30a5645a20cc06ad8ff5660602d5f1a7"), looks := true }, kinds := [], alts := [], laidByText := true, laidKinds := [.data, .data, .data, .data, .handle, .sentinel, .sentinel, .data, .data, .pinned], laidTests := true, laidLooks := .later }
def FillDownCardSaid : Prop := Claim7.holds Tryz.pinned (.plain (OpenSpec.ofChange fillDownSpec)) fillDownCard

/-- THE TIED CARD OF 'scclaw3.FillCarries'. -/
def fillCarriesCard : Claim7 := { stood := { row := fillCarriesRow, standIns := [], harness := (true, "9bcb9b90110dd2a8726f96474d49bf9f30a5645a20cc06ad8ff5660602d5f1a7"), looks := true }, kinds := [], alts := [], laidByText := true, laidKinds := [.data, .data, .data, .data, .handle, .sentinel, .sentinel, .data, .data, .pinned], laidTests := true, laidLooks := .later }
def FillCarriesCardSaid : Prop := Claim7.holds Tryz.pinned (.plain (OpenSpec.ofChange fillCarriesSpec)) fillCarriesCard

/-- THE SECOND FORM's CARD OF 'scclaw3.FillCopies'. -/
def fillCopiesUptoCard : Claim7 := { stood := { row := fillCopiesUptoRow, standIns := [], harness := (true, "9bcb9b90110dd2a8726f96474d49bf9f30a5645a20cc06ad8ff5660602d5f1a7"), looks := true }, kinds := [], alts := [], laidByText := true, laidKinds := [.data, .data, .data, .data, .handle, .sentinel, .sentinel, .data, .data, .pinned], laidTests := true, laidLooks := .later }
def FillCopiesUptoCardSaid : Prop := Claim7.holds Tryz.pinned (.plain (OpenSpec.upto fillCopiesSpec)) fillCopiesUptoCard

/-- THE SECOND FORM's CARD OF 'scclaw3.FillDown'. -/
def fillDownUptoCard : Claim7 := { stood := { row := fillDownUptoRow, standIns := [], harness := (true, "9bcb9b90110dd2a8726f96474d49bf9f30a5645a20cc06ad8ff5660602d5f1a7"), looks := true }, kinds := [], alts := [], laidByText := true, laidKinds := [.data, .data, .data, .data, .handle, .sentinel, .sentinel, .data, .data, .pinned], laidTests := true, laidLooks := .later }
def FillDownUptoCardSaid : Prop := Claim7.holds Tryz.pinned (.plain (OpenSpec.upto fillDownSpec)) fillDownUptoCard

/-- THE SECOND FORM's CARD OF 'scclaw3.FillCarries'. -/
def fillCarriesUptoCard : Claim7 := { stood := { row := fillCarriesUptoRow, standIns := [], harness := (true, "9bcb9b90110dd2a8726f96474d49bf9f30a5645a20cc06ad8ff5660602d5f1a7"), looks := true }, kinds := [], alts := [], laidByText := true, laidKinds := [.data, .data, .data, .data, .handle, .sentinel, .sentinel, .data, .data, .pinned], laidTests := true, laidLooks := .later }
def FillCarriesUptoCardSaid : Prop := Claim7.holds Tryz.pinned (.plain (OpenSpec.upto fillCarriesSpec)) fillCarriesUptoCard
end Rows
end Go.Proofs.YtmfmhljpddpfnaaGreatDoor
