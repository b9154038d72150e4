/- More closed facts of the row 'rowsInsert', one by one. Own work. -/
import Derived.Test.YtafclpcpdmeodaaGreatDoorRows
import Derived.SevenTiedAt
import Derived.KernelRfl
set_option linter.all false
set_option maxRecDepth 100000
namespace Go.Proofs.YtafclpcpdmeodaaGreatDoor.rowsInsert
theorem w_wf:Rows.rowsInsertRow.wfByText (OpenSpec.ofChange Rows.rowsInsertSpec)=true:=by kernel_rfl
theorem w_main:Tryz.prog.mainIs=some (true, "4b392d39a2f9b860a25638f26f3f48039967bcd019463ba2570fce875fc2a063".toList):=by kernel_rfl
theorem w_looks:true=Tryz.prog.looks []:=by kernel_rfl
theorem w_goes:false=Rows.rowsInsertRow.goesBy Tryz.prog:=by kernel_rfl
theorem w_fn:Tryz.prog.funcNamed "sccsettle/scclaw3.RowsInsert" = some 3:=by kernel_rfl
theorem w_t22:Tryz.prog.wantsStandIn 22=false:=by kernel_rfl
theorem w_t4:Tryz.prog.wantsStandIn 4=false:=by kernel_rfl
theorem w_t3:Tryz.prog.wantsStandIn 3=false:=by kernel_rfl
end Go.Proofs.YtafclpcpdmeodaaGreatDoor.rowsInsert
