/- More closed facts of the row 'formatShows', one by one. Own work. -/
import Derived.Test.YtgcggndacnmhfaaGreatDoorRows
import Derived.SevenTiedAt
import Derived.KernelRfl
set_option linter.all false
set_option maxRecDepth 100000
namespace Go.Proofs.YtgcggndacnmhfaaGreatDoor.formatShows
theorem w_wf : Rows.formatShowsRow.wfByText (OpenSpec.ofChange Rows.formatShowsSpec) = true:=by kernel_rfl
theorem zNu : Tryz.prog.mainIs = some (true, "9e9a2a74ad1fab881b07a53aeb6354c4cc91bce3f0b5868c11e28a3524e8c4d1".toList):=by kernel_rfl
theorem zM9 : true = Tryz.prog.looks []:=by kernel_rfl
theorem zNv : false = Rows.formatShowsRow.goesBy Tryz.prog:=by kernel_rfl
theorem w_fn : Tryz.prog.funcNamed "sccsettle/scclaw3.FormatShows" = some 3:=by kernel_rfl
theorem w_t23 : Tryz.prog.wantsStandIn 23 = false:=by kernel_rfl
theorem w_t9 : Tryz.prog.wantsStandIn 9 = false:=by kernel_rfl
end Go.Proofs.YtgcggndacnmhfaaGreatDoor.formatShows
