/- More closed facts of the row 'pickGroups', one by one. Own work. -/
import Derived.Test.YtaijlknbeapnhaaGreatDoorRows
import Derived.SevenTiedAt
import Derived.KernelRfl
set_option linter.all false
set_option maxRecDepth 100000
namespace Go.Proofs.YtaijlknbeapnhaaGreatDoor.pickGroups
theorem w_wf : Rows.pickGroupsRow.wfByText (OpenSpec.ofChange Rows.pickGroupsSpec) = true := by kernel_rfl
theorem w_main : Tryz.prog.mainIs = some (true, "3a11758a5fbf62c0acd3b5e4f3af94a5a19598c903aba61e4691aef00b31358e".toList) := by kernel_rfl
theorem w_looks : true = Tryz.prog.looks [] := by kernel_rfl
theorem w_goes : false = Rows.pickGroupsRow.goesBy Tryz.prog := by kernel_rfl
theorem w_fn : Tryz.prog.funcNamed "sccsettle/scclaw3.PickGroups" = some 9 := by kernel_rfl
theorem w_t38 : Tryz.prog.wantsStandIn 38 = false := by kernel_rfl
theorem w_t41 : Tryz.prog.wantsStandIn 41 = false := by kernel_rfl
theorem w_t3 : Tryz.prog.wantsStandIn 3 = false := by kernel_rfl
end Go.Proofs.YtaijlknbeapnhaaGreatDoor.pickGroups
