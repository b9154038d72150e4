/-
  THE GIVEN STATEMENT 'RowsSwapCardSaid' IS PROVED: whatever sheet and numbers come in, the law says true, and writes nothing that was there; the variables that are listed are tied to the program's text. No conditions.
-/
import Derived.Test.YtljipljfelkodaaGreatDoorRso
import Derived.Test.YtljipljfelkodaaGreatDoorRsk
import Derived.Test.YtljipljfelkodaaGreatDoorCards
import Derived.Test.YtljipljfelkodaaGreatDoorTie
set_option linter.all false
set_option maxRecDepth 100000
namespace Go.Proofs.YtljipljfelkodaaGreatDoor.rowsSwap
open Go.ChangeShapes Go.WideShapes Go.RowKit Go.AM
open Go.ChangeMaps (open_string shut_string)
theorem proved : Rows.RowsSwapCardSaid:=
 Claim7.holds_tied_plain_at .later [] [.data,.data,.data,.data,.handle,.sentinel,.sentinel,.data,.data,.pinned] true (true, "9c69943a7f21fbd2c59dafc9bf8b8af296c6e231ee090723be773a30837501ef") true
  over (fun _ h=>by cases h) w_wf (fun _ h=>by cases h) rowsSwap_row_tie rfl ⟨rfl,rfl⟩ w_main rfl
  (fun f fn hf hfn=>by
   obtain rfl : f = 3:=zMI (w_fn.symm.trans hf) |>.symm
   obtain rfl : fn = Tryz.f3:=(zMI (Tryz.func3.symm.trans hfn)).symm
   exact ⟨w_looks,fun j t ht=>by
    rw [Tryz.params3] at ht
    have ht' : t ∈ [22,4,3,3]:=zMH (by simpa using ht)
    simp only [zNP,List.mem_nil_iff,or_false] at ht'
    rcases ht' with rfl | rfl | rfl | rfl
    ·exact w_t22
    ·exact w_t4
    ·exact w_t3
    ·exact w_t3⟩)
  w_goes
#print axioms proved
end Go.Proofs.YtljipljfelkodaaGreatDoor.rowsSwap
