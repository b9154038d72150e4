/- More closed facts of the row 'findReplaces', one by one. Own work. -/
import Derived.Test.YtaohficjbicfgaaGreatDoorRows
import Derived.SevenTiedAt
import Derived.KernelRfl
set_option linter.all false
set_option maxRecDepth 100000
namespace Go.Proofs.YtaohficjbicfgaaGreatDoor.findReplaces
theorem w_wf : Rows.findReplacesRow.wfByText (OpenSpec.ofChange Rows.findReplacesSpec) = true:=by kernel_rfl
theorem w_main : Tryz.prog.mainIs = some (true, "7c30096ef0070b70fd99b0b5d4534e146623e9c189b6f2fd726d186e40137e79".toList):=by kernel_rfl
theorem w_looks : true = Tryz.prog.looks []:=by kernel_rfl
theorem w_goes : false = Rows.findReplacesRow.goesBy Tryz.prog:=by kernel_rfl
theorem w_fn : Tryz.prog.funcNamed "sccsettle/scclaw3.FindReplaces" = some 5:=by kernel_rfl
theorem w_t26 : Tryz.prog.wantsStandIn 26 = false:=by kernel_rfl
theorem w_t9 : Tryz.prog.wantsStandIn 9 = false:=by kernel_rfl
theorem w_t4 : Tryz.prog.wantsStandIn 4 = false:=by kernel_rfl
end Go.Proofs.YtaohficjbicfgaaGreatDoor.findReplaces
