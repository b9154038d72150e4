/- More closed facts of the row 'rowsSwap', one by one. Own work. -/
import Derived.Test.YtljipljfelkodaaGreatDoorRows
import Derived.SevenTiedAt
import Derived.KernelRfl
set_option linter.all false
set_option maxRecDepth 100000
namespace Go.Proofs.YtljipljfelkodaaGreatDoor.rowsSwap
theorem w_wf : Rows.rowsSwapRow.wfByText (OpenSpec.ofChange Rows.rowsSwapSpec) = true:=by kernel_rfl
theorem w_main : Tryz.prog.mainIs = some (true, "9c69943a7f21fbd2c59dafc9bf8b8af296c6e231ee090723be773a30837501ef".toList):=by kernel_rfl
theorem w_looks : true = Tryz.prog.looks []:=by kernel_rfl
theorem w_goes : false = Rows.rowsSwapRow.goesBy Tryz.prog:=by kernel_rfl
theorem w_fn : Tryz.prog.funcNamed "sccsettle/scclaw3.RowsSwap" = some 3:=by kernel_rfl
theorem w_t22 : Tryz.prog.wantsStandIn 22 = false:=by kernel_rfl
theorem w_t4 : Tryz.prog.wantsStandIn 4 = false:=by kernel_rfl
theorem w_t3 : Tryz.prog.wantsStandIn 3 = false:=by kernel_rfl
end Go.Proofs.YtljipljfelkodaaGreatDoor.rowsSwap
