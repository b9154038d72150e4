/- The closed facts of the row 'pickCross', one by one (in one piece they want more memory than there is). Own work. -/
import Derived.Test.YtcnogafgcfidnaaGreatDoorRows
import Derived.JoinedOf
import Derived.KernelRfl
set_option linter.all false
set_option maxRecDepth 100000
namespace Go.Proofs.YtcnogafgcfidnaaGreatDoor.pickCross
open Go.ChangeShapes Go.WideShapes
theorem zRT : Tryz.prog.plainKeys = Rows.pickCrossRow.plainKeys:=by kernel_rfl
theorem zQf : Tryz.prog.stopsHeard = true:=by kernel_rfl
theorem zQg : Tryz.prog.mayEnter = true:=by kernel_rfl
theorem zQh : Tryz.prog.liftsFinal = Rows.pickCrossRow.lifted:=by kernel_rfl
theorem zRU : Tryz.prog.make = some Rows.pickCrossRow.make:=by kernel_rfl
theorem zRV : laidOutB Tryz.prog = true:=by kernel_rfl
theorem zQi : mapsRowed Tryz.prog = true:=by kernel_rfl
theorem zQj : Tryz.prog.stops = []:=by kernel_rfl
theorem zKj : Tryz.prog.stopKnobs = []:=by kernel_rfl
theorem zOH : Tryz.prog.inPlace 3 = Rows.pickCrossRow.inPlace:=by kernel_rfl
theorem j_unf : Tryz.prog.unfollowed 3 = Rows.pickCrossRow.unfollowed:=by kernel_rfl
theorem j_rec : Tryz.prog.recurses 3 = Rows.pickCrossRow.recurses:=by kernel_rfl
theorem zQk : Tryz.prog.varsNamed 3 = Rows.pickCrossRow.named:=by kernel_rfl
theorem j_wf : Rows.pickCrossRow.wf (OpenSpec.ofChange Rows.pickCrossSpec) = true:=by kernel_rfl
theorem closed : joinedFacts Tryz.prog 3 Tryz.f3 Rows.pickCrossSpec Rows.pickCrossRow = true:=by
 unfold joinedFacts
 rw [zRT,zQf,zQg,zQh,zRU,zRV,zQi,zQj,zKj,zOH,j_unf,j_rec,zQk,j_wf]
 kernel_rfl
end Go.Proofs.YtcnogafgcfidnaaGreatDoor.pickCross
