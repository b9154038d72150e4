/-
  THE GIVEN STATEMENT 'RowsInsertCardSaid' IS PROVED: whatever comes in, the law says true, and writes nothing that was there; the variables that are listed are tied to the program's text. No conditions.
-/
import Derived.Test.YtafclpcpdmeodaaGreatDoorRio
import Derived.Test.YtafclpcpdmeodaaGreatDoorRik
import Derived.Test.YtafclpcpdmeodaaGreatDoorCards
import Derived.Test.YtafclpcpdmeodaaGreatDoorTie
set_option linter.all false
set_option maxRecDepth 100000
namespace Go.Proofs.YtafclpcpdmeodaaGreatDoor.rowsInsert
open Go.ChangeShapes Go.WideShapes Go.RowKit Go.AM
open Go.ChangeMaps (open_string shut_string)
theorem proved:Rows.RowsInsertCardSaid:=
 Claim7.holds_tied_plain_at .later [] [.data,.data,.data,.data,.handle,.sentinel,.sentinel,.data,.data,.pinned] true (true, "4b392d39a2f9b860a25638f26f3f48039967bcd019463ba2570fce875fc2a063") true
  over (fun _ h=>by cases h) w_wf (fun _ h=>by cases h) rowsInsert_row_tie rfl ⟨rfl,rfl⟩ w_main rfl
  (fun f fn hf hfn=>by
   obtain rfl:f=3:=zQl (w_fn.symm.trans hf) |>.symm
   obtain rfl:fn=Tryz.f3:=(zQl (Tryz.func3.symm.trans hfn)).symm;exact ⟨w_looks,fun j t ht=>by
    rw [Tryz.params3] at ht;have ht':t∈[22,4,3,3]:=zQh (by simpa using ht);simp only [zRQ,List.mem_nil_iff,or_false] at ht';rcases ht' with rfl|rfl|rfl|rfl
    ·exact w_t22
    ·exact w_t4
    ·exact w_t3
    ·exact w_t3⟩)
  w_goes
#print axioms proved
end Go.Proofs.YtafclpcpdmeodaaGreatDoor.rowsInsert
