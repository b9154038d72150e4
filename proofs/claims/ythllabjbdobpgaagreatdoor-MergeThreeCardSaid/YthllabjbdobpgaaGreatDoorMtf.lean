/-
  THE GIVEN STATEMENT 'MergeThreeCardSaid' IS PROVED: whatever three sheets come in, the law says true, and writes nothing that was there; the variables that are listed are tied to the program's text. No conditions.
-/
import Derived.Test.YthllabjbdobpgaaGreatDoorMto
import Derived.Test.YthllabjbdobpgaaGreatDoorMtk
import Derived.Test.YthllabjbdobpgaaGreatDoorCards
import Derived.Test.YthllabjbdobpgaaGreatDoorTie
set_option linter.all false
set_option maxRecDepth 100000
namespace Go.Proofs.YthllabjbdobpgaaGreatDoor.mergeThree
open Go.ChangeShapes Go.WideShapes Go.RowKit Go.AM
open Go.ChangeMaps (open_string shut_string)
theorem proved : Rows.MergeThreeCardSaid:=
 Claim7.holds_tied_plain_at .later [] [.data,.data,.data,.data,.handle,.sentinel,.sentinel,.data,.data,.pinned] true (true, "03a2d1f7ad14e36cf4b12af0c9fa65197e83285cab9a9b3fb27832418ea8ecfb") true
  over (fun _ h=>by cases h) w_wf (fun _ h=>by cases h) mergeThree_row_tie rfl ⟨rfl,rfl⟩ w_main rfl
  (fun f fn hf hfn=>by
   obtain rfl : f = 3:=zM5 (w_fn.symm.trans hf) |>.symm
   obtain rfl : fn = Tryz.f3:=(zM5 (Tryz.func3.symm.trans hfn)).symm
   exact ⟨w_looks,fun j t ht=>by
    rw [Tryz.params3] at ht
    have ht' : t ∈ [22,22,22]:=zM3 (by simpa using ht)
    simp only [zNZ,List.mem_nil_iff,or_false] at ht'
    rcases ht' with rfl | rfl | rfl
    ·exact w_t22
    ·exact w_t22
    ·exact w_t22⟩)
  w_goes
#print axioms proved
end Go.Proofs.YthllabjbdobpgaaGreatDoor.mergeThree
