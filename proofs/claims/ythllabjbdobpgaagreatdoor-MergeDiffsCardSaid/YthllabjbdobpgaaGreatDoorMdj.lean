/- The closed facts of the row 'mergeDiffs', one by one (in one piece they want more memory than there is). Own work. -/
import Derived.Test.YthllabjbdobpgaaGreatDoorRows
import Derived.JoinedOf
import Derived.KernelRfl
set_option linter.all false
set_option maxRecDepth 100000
namespace Go.Proofs.YthllabjbdobpgaaGreatDoor.mergeDiffs
open Go.ChangeShapes Go.WideShapes
theorem j_keys : Tryz.prog.plainKeys = Rows.mergeDiffsRow.plainKeys:=by kernel_rfl
theorem j_heard : Tryz.prog.stopsHeard = true:=by kernel_rfl
theorem j_enter : Tryz.prog.mayEnter = true:=by kernel_rfl
theorem j_lifts : Tryz.prog.liftsFinal = Rows.mergeDiffsRow.lifted:=by kernel_rfl
theorem j_make : Tryz.prog.make = some Rows.mergeDiffsRow.make:=by kernel_rfl
theorem j_laid : laidOutB Tryz.prog = true:=by kernel_rfl
theorem j_rowed : mapsRowed Tryz.prog = true:=by kernel_rfl
theorem j_stops : Tryz.prog.stops = []:=by kernel_rfl
theorem j_stopKnobs : Tryz.prog.stopKnobs = []:=by kernel_rfl
theorem j_inPlace : Tryz.prog.inPlace 4 = Rows.mergeDiffsRow.inPlace:=by kernel_rfl
theorem j_unf : Tryz.prog.unfollowed 4 = Rows.mergeDiffsRow.unfollowed:=by kernel_rfl
theorem j_rec : Tryz.prog.recurses 4 = Rows.mergeDiffsRow.recurses:=by kernel_rfl
theorem j_named : Tryz.prog.varsNamed 4 = Rows.mergeDiffsRow.named:=by kernel_rfl
theorem j_wf : Rows.mergeDiffsRow.wf (OpenSpec.ofChange Rows.mergeDiffsSpec) = true:=by kernel_rfl
theorem closed : joinedFacts Tryz.prog 4 Tryz.f4 Rows.mergeDiffsSpec Rows.mergeDiffsRow = true:=by
 unfold joinedFacts
 rw [j_keys,j_heard,j_enter,j_lifts,j_make,j_laid,j_rowed,j_stops,j_stopKnobs,j_inPlace,j_unf,j_rec,j_named,j_wf]
 kernel_rfl
end Go.Proofs.YthllabjbdobpgaaGreatDoor.mergeDiffs
