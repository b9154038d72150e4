/- More closed facts of the row 'mergeDiffs', one by one. Own work. -/
import Derived.Test.YthllabjbdobpgaaGreatDoorRows
import Derived.SevenTiedAt
import Derived.KernelRfl
set_option linter.all false
set_option maxRecDepth 100000
namespace Go.Proofs.YthllabjbdobpgaaGreatDoor.mergeDiffs
theorem w_wf : Rows.mergeDiffsRow.wfByText (OpenSpec.ofChange Rows.mergeDiffsSpec) = true:=by kernel_rfl
theorem w_main : Tryz.prog.mainIs = some (true, "03a2d1f7ad14e36cf4b12af0c9fa65197e83285cab9a9b3fb27832418ea8ecfb".toList):=by kernel_rfl
theorem w_looks : true = Tryz.prog.looks []:=by kernel_rfl
theorem w_goes : false = Rows.mergeDiffsRow.goesBy Tryz.prog:=by kernel_rfl
theorem w_fn : Tryz.prog.funcNamed "sccsettle/scclaw3.MergeDiffs" = some 4:=by kernel_rfl
theorem w_t22 : Tryz.prog.wantsStandIn 22 = false:=by kernel_rfl
end Go.Proofs.YthllabjbdobpgaaGreatDoor.mergeDiffs
