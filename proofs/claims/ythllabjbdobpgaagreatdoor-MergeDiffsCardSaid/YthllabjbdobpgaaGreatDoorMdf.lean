/-
  THE GIVEN STATEMENT 'MergeDiffsCardSaid' IS PROVED: whatever three sheets come in, the law says true, and writes nothing that was there; the variables that are listed are tied to the program's text. No conditions.
-/
import Derived.Test.YthllabjbdobpgaaGreatDoorMdo
import Derived.Test.YthllabjbdobpgaaGreatDoorMdk
import Derived.Test.YthllabjbdobpgaaGreatDoorCards
import Derived.Test.YthllabjbdobpgaaGreatDoorTie
set_option linter.all false
set_option maxRecDepth 100000
namespace Go.Proofs.YthllabjbdobpgaaGreatDoor.mergeDiffs
open Go.ChangeShapes Go.WideShapes Go.RowKit Go.AM
open Go.ChangeMaps (open_string shut_string)
theorem proved : Rows.MergeDiffsCardSaid:=
 Claim7.holds_tied_plain_at .later [] [.data,.data,.data,.data,.handle,.sentinel,.sentinel,.data,.data,.pinned] true (true, "03a2d1f7ad14e36cf4b12af0c9fa65197e83285cab9a9b3fb27832418ea8ecfb") true
  over (fun _ h=>by cases h) w_wf (fun _ h=>by cases h) mergeDiffs_row_tie rfl ⟨rfl,rfl⟩ w_main rfl
  (fun f fn hf hfn=>by
   obtain rfl : f = 4:=zNH (w_fn.symm.trans hf) |>.symm
   obtain rfl : fn = Tryz.f4:=(zNH (Tryz.func4.symm.trans hfn)).symm
   exact ⟨w_looks,fun j t ht=>by
    rw [Tryz.params4] at ht
    have ht' : t ∈ [22,22,22]:=zNG (by simpa using ht)
    simp only [zNe,List.mem_nil_iff,or_false] at ht'
    rcases ht' with rfl | rfl | rfl
    ·exact w_t22
    ·exact w_t22
    ·exact w_t22⟩)
  w_goes
#print axioms proved
end Go.Proofs.YthllabjbdobpgaaGreatDoor.mergeDiffs
