/-
  THE GIVEN STATEMENT 'BookBackCardSaid' IS PROVED: whatever the sheet, the place of the cut and the bytes, the law says true, and writes nothing that was there; the variables that are listed are tied to the program's text. No conditions.
-/
import Derived.Test.YthpjgjdeogodjaaGreatDoorBbo
import Derived.Test.YthpjgjdeogodjaaGreatDoorBbk
import Derived.Test.YthpjgjdeogodjaaGreatDoorCards
import Derived.Test.YthpjgjdeogodjaaGreatDoorTie
set_option linter.all false
set_option maxRecDepth 100000
namespace Go.Proofs.YthpjgjdeogodjaaGreatDoor.bookBack
open Go.ChangeShapes Go.WideShapes Go.RowKit Go.AM
open Go.ChangeMaps (open_string shut_string)
theorem proved : Rows.BookBackCardSaid:=
 Claim7.holds_tied_plain_at .later [] [.data,.data,.data,.data,.sentinel,.sentinel,.data,.data,.pinned] true (true, "9501d3954232c5125b03dd5d74bc7c481a3dcb888fe5f8afbdc5dcfaf05e539c") true
  over (fun _ h=>by cases h) w_wf (fun _ h=>by cases h) bookBack_row_tie rfl ⟨rfl,rfl⟩ w_main rfl
  (fun f fn hf hfn=>by
   obtain rfl : f = 5:=Option.some.inj (w_fn.symm.trans hf) |>.symm
   obtain rfl : fn = Tryz.f5:=(Option.some.inj (Tryz.func5.symm.trans hfn)).symm
   exact ⟨w_looks,fun j t ht=>by
    rw [Tryz.params5] at ht
    have ht' : t ∈ [23,3,38]:=List.mem_of_getElem? (by simpa using ht)
    simp only [List.mem_cons,List.mem_nil_iff,or_false] at ht'
    rcases ht' with rfl | rfl | rfl
    ·exact w_t23
    ·exact w_t3
    ·exact w_t38⟩)
  w_goes
#print axioms proved
end Go.Proofs.YthpjgjdeogodjaaGreatDoor.bookBack
