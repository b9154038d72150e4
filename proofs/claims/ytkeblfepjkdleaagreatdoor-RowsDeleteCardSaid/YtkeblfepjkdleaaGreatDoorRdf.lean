/-
  THE GIVEN STATEMENT 'RowsDeleteCardSaid' IS PROVED: whatever comes in, the law says true, and writes nothing that was there; the variables that are listed are tied to the program's text. No conditions.
-/
import Derived.Test.YtkeblfepjkdleaaGreatDoorRdo
import Derived.Test.YtkeblfepjkdleaaGreatDoorRdk
import Derived.Test.YtkeblfepjkdleaaGreatDoorCards
import Derived.Test.YtkeblfepjkdleaaGreatDoorTie
set_option maxRecDepth 100000
set_option linter.all false
namespace Go.Proofs.YtkeblfepjkdleaaGreatDoor.rowsDelete
open Go.ChangeShapes Go.WideShapes Go.RowKit Go.AM
open Go.ChangeMaps (open_string shut_string)
theorem proved:Rows.RowsDeleteCardSaid:=
 Claim7.holds_tied_plain_at .later [] [.data,.data,.data,.data,.handle,.sentinel,.sentinel,.data,.data,.pinned] true (true, "7078f4acefe41574fc7b1393724774a6bcffa604982d826eb4690ff2be108bc5") true
  over (fun _ h=>by cases h) w_wf (fun _ h=>by cases h) rowsDelete_row_tie rfl ⟨rfl,rfl⟩ zlB rfl
  (fun f fn hf hfn=>by
   obtain rfl:f=3:=zlb (w_fn.symm.trans hf) |>.symm
   obtain rfl:fn=Tryz.f3:=(zlb (Tryz.func3.symm.trans hfn)).symm;exact ⟨zjL,fun j t ht=>by
    rw [Tryz.params3] at ht;have ht':t∈[22,4,3,3]:=zlX (by simpa using ht);simp only [zmC,List.mem_nil_iff,or_false] at ht';rcases ht' with rfl|rfl|rfl|rfl
    ·exact w_t22
    ·exact w_t4
    ·exact w_t3
    ·exact w_t3⟩)
  zlC
#print axioms proved
end Go.Proofs.YtkeblfepjkdleaaGreatDoor.rowsDelete
