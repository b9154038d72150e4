/- More closed facts of the row 'bookBack', one by one. Own work. -/
import Derived.Test.YthpjgjdeogodjaaGreatDoorRows
import Derived.SevenTiedAt
import Derived.KernelRfl
set_option linter.all false
set_option maxRecDepth 100000
namespace Go.Proofs.YthpjgjdeogodjaaGreatDoor.bookBack
theorem w_wf : Rows.bookBackRow.wfByText (OpenSpec.ofChange Rows.bookBackSpec) = true:=by kernel_rfl
theorem w_main : Tryz.prog.mainIs = some (true, "9501d3954232c5125b03dd5d74bc7c481a3dcb888fe5f8afbdc5dcfaf05e539c".toList):=by kernel_rfl
theorem w_looks : true = Tryz.prog.looks []:=by kernel_rfl
theorem w_goes : false = Rows.bookBackRow.goesBy Tryz.prog:=by kernel_rfl
theorem w_fn : Tryz.prog.funcNamed "sccsettle/scclaw4.BookBack" = some 5:=by kernel_rfl
theorem w_t23 : Tryz.prog.wantsStandIn 23 = false:=by kernel_rfl
theorem w_t3 : Tryz.prog.wantsStandIn 3 = false:=by kernel_rfl
theorem w_t38 : Tryz.prog.wantsStandIn 38 = false:=by kernel_rfl
end Go.Proofs.YthpjgjdeogodjaaGreatDoor.bookBack
