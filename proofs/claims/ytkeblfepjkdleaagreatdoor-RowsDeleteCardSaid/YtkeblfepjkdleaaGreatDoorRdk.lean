/- More closed facts of the row 'rowsDelete', one by one. Own work. -/
import Derived.Test.YtkeblfepjkdleaaGreatDoorRows
import Derived.SevenTiedAt
import Derived.KernelRfl
set_option maxRecDepth 100000
set_option linter.all false
namespace Go.Proofs.YtkeblfepjkdleaaGreatDoor.rowsDelete
theorem w_wf:Rows.rowsDeleteRow.wfByText (OpenSpec.ofChange Rows.rowsDeleteSpec)=true:=by kernel_rfl
theorem zlB:Tryz.prog.mainIs=some (true, "7078f4acefe41574fc7b1393724774a6bcffa604982d826eb4690ff2be108bc5".toList):=by kernel_rfl
theorem zjL:true=Tryz.prog.looks []:=by kernel_rfl
theorem zlC:false=Rows.rowsDeleteRow.goesBy Tryz.prog:=by kernel_rfl
theorem w_fn:Tryz.prog.funcNamed "sccsettle/scclaw3.RowsDelete" = some 3:=by kernel_rfl
theorem w_t22:Tryz.prog.wantsStandIn 22=false:=by kernel_rfl
theorem w_t4:Tryz.prog.wantsStandIn 4=false:=by kernel_rfl
theorem w_t3:Tryz.prog.wantsStandIn 3=false:=by kernel_rfl
end Go.Proofs.YtkeblfepjkdleaaGreatDoor.rowsDelete
