/- The closed facts of the row 'rowsSwap', one by one (in one piece they want more memory than there is). Own work. -/
import Derived.Test.YtljipljfelkodaaGreatDoorRows
import Derived.JoinedOf
import Derived.KernelRfl
set_option linter.all false
set_option maxRecDepth 100000
namespace Go.Proofs.YtljipljfelkodaaGreatDoor.rowsSwap
open Go.ChangeShapes Go.WideShapes
theorem j_keys : Tryz.prog.plainKeys = Rows.rowsSwapRow.plainKeys:=by kernel_rfl
theorem j_heard : Tryz.prog.stopsHeard = true:=by kernel_rfl
theorem j_enter : Tryz.prog.mayEnter = true:=by kernel_rfl
theorem j_lifts : Tryz.prog.liftsFinal = Rows.rowsSwapRow.lifted:=by kernel_rfl
theorem j_make : Tryz.prog.make = some Rows.rowsSwapRow.make:=by kernel_rfl
theorem j_laid : laidOutB Tryz.prog = true:=by kernel_rfl
theorem j_rowed : mapsRowed Tryz.prog = true:=by kernel_rfl
theorem j_stops : Tryz.prog.stops = []:=by kernel_rfl
theorem j_stopKnobs : Tryz.prog.stopKnobs = []:=by kernel_rfl
theorem j_inPlace : Tryz.prog.inPlace 3 = Rows.rowsSwapRow.inPlace:=by kernel_rfl
theorem j_unf : Tryz.prog.unfollowed 3 = Rows.rowsSwapRow.unfollowed:=by kernel_rfl
theorem j_rec : Tryz.prog.recurses 3 = Rows.rowsSwapRow.recurses:=by kernel_rfl
theorem j_named : Tryz.prog.varsNamed 3 = Rows.rowsSwapRow.named:=by kernel_rfl
theorem j_wf : Rows.rowsSwapRow.wf (OpenSpec.ofChange Rows.rowsSwapSpec) = true:=by kernel_rfl
theorem closed : joinedFacts Tryz.prog 3 Tryz.f3 Rows.rowsSwapSpec Rows.rowsSwapRow = true:=by
 unfold joinedFacts
 rw [j_keys,j_heard,j_enter,j_lifts,j_make,j_laid,j_rowed,j_stops,j_stopKnobs,j_inPlace,j_unf,j_rec,j_named,j_wf]
 kernel_rfl
end Go.Proofs.YtljipljfelkodaaGreatDoor.rowsSwap
