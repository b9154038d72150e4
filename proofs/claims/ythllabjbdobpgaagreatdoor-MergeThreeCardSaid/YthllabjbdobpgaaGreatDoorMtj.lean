/- The closed facts of the row 'mergeThree', one by one (in one piece they want more memory than there is). Own work. -/
import Derived.Test.YthllabjbdobpgaaGreatDoorRows
import Derived.JoinedOf
import Derived.KernelRfl
set_option linter.all false
set_option maxRecDepth 100000
namespace Go.Proofs.YthllabjbdobpgaaGreatDoor.mergeThree
open Go.ChangeShapes Go.WideShapes
theorem j_keys : Tryz.prog.plainKeys = Rows.mergeThreeRow.plainKeys:=by kernel_rfl
theorem j_heard : Tryz.prog.stopsHeard = true:=by kernel_rfl
theorem j_enter : Tryz.prog.mayEnter = true:=by kernel_rfl
theorem j_lifts : Tryz.prog.liftsFinal = Rows.mergeThreeRow.lifted:=by kernel_rfl
theorem j_make : Tryz.prog.make = some Rows.mergeThreeRow.make:=by kernel_rfl
theorem j_laid : laidOutB Tryz.prog = true:=by kernel_rfl
theorem j_rowed : mapsRowed Tryz.prog = true:=by kernel_rfl
theorem j_stops : Tryz.prog.stops = []:=by kernel_rfl
theorem j_stopKnobs : Tryz.prog.stopKnobs = []:=by kernel_rfl
theorem j_inPlace : Tryz.prog.inPlace 3 = Rows.mergeThreeRow.inPlace:=by kernel_rfl
theorem j_unf : Tryz.prog.unfollowed 3 = Rows.mergeThreeRow.unfollowed:=by kernel_rfl
theorem j_rec : Tryz.prog.recurses 3 = Rows.mergeThreeRow.recurses:=by kernel_rfl
theorem j_named : Tryz.prog.varsNamed 3 = Rows.mergeThreeRow.named:=by kernel_rfl
theorem j_wf : Rows.mergeThreeRow.wf (OpenSpec.ofChange Rows.mergeThreeSpec) = true:=by kernel_rfl
theorem closed : joinedFacts Tryz.prog 3 Tryz.f3 Rows.mergeThreeSpec Rows.mergeThreeRow = true:=by
 unfold joinedFacts
 rw [j_keys,j_heard,j_enter,j_lifts,j_make,j_laid,j_rowed,j_stops,j_stopKnobs,j_inPlace,j_unf,j_rec,j_named,j_wf]
 kernel_rfl
end Go.Proofs.YthllabjbdobpgaaGreatDoor.mergeThree
