/- More closed facts of the row 'pickCross', one by one. Own work. -/
import Derived.Test.YtcnogafgcfidnaaGreatDoorRows
import Derived.SevenTiedAt
import Derived.KernelRfl
set_option linter.all false
set_option maxRecDepth 100000
namespace Go.Proofs.YtcnogafgcfidnaaGreatDoor.pickCross
theorem w_wf : Rows.pickCrossRow.wfByText (OpenSpec.ofChange Rows.pickCrossSpec) = true:=by kernel_rfl
theorem zRW : Tryz.prog.mainIs = some (true, "f2a9c24b2958ec60f1b1141839a4cbbdf261e6b13576574f030d76f18de87ef7".toList):=by kernel_rfl
theorem zQl : true = Tryz.prog.looks []:=by kernel_rfl
theorem zRX : false = Rows.pickCrossRow.goesBy Tryz.prog:=by kernel_rfl
theorem w_fn : Tryz.prog.funcNamed "sccsettle/scclaw3.PickCross" = some 3:=by kernel_rfl
theorem w_t22 : Tryz.prog.wantsStandIn 22 = false:=by kernel_rfl
theorem w_t3 : Tryz.prog.wantsStandIn 3 = false:=by kernel_rfl
end Go.Proofs.YtcnogafgcfidnaaGreatDoor.pickCross
