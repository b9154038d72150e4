/- The closed facts of the row 'rowsInsert', one by one (in one piece they want more memory than there is). Own work. -/
import Derived.Test.YtafclpcpdmeodaaGreatDoorRows
import Derived.JoinedOf
import Derived.KernelRfl
set_option linter.all false
set_option maxRecDepth 100000
namespace Go.Proofs.YtafclpcpdmeodaaGreatDoor.rowsInsert
open Go.ChangeShapes Go.WideShapes
theorem j_keys:Tryz.prog.plainKeys=Rows.rowsInsertRow.plainKeys:=by kernel_rfl
theorem j_heard:Tryz.prog.stopsHeard=true:=by kernel_rfl
theorem j_enter:Tryz.prog.mayEnter=true:=by kernel_rfl
theorem j_lifts:Tryz.prog.liftsFinal=Rows.rowsInsertRow.lifted:=by kernel_rfl
theorem j_make:Tryz.prog.make=some Rows.rowsInsertRow.make:=by kernel_rfl
theorem j_laid:laidOutB Tryz.prog=true:=by kernel_rfl
theorem j_rowed:mapsRowed Tryz.prog=true:=by kernel_rfl
theorem j_stops:Tryz.prog.stops=[]:=by kernel_rfl
theorem j_stopKnobs:Tryz.prog.stopKnobs=[]:=by kernel_rfl
theorem j_inPlace:Tryz.prog.inPlace 3=Rows.rowsInsertRow.inPlace:=by kernel_rfl
theorem j_unf:Tryz.prog.unfollowed 3=Rows.rowsInsertRow.unfollowed:=by kernel_rfl
theorem j_rec:Tryz.prog.recurses 3=Rows.rowsInsertRow.recurses:=by kernel_rfl
theorem j_named:Tryz.prog.varsNamed 3=Rows.rowsInsertRow.named:=by kernel_rfl
theorem j_wf:Rows.rowsInsertRow.wf (OpenSpec.ofChange Rows.rowsInsertSpec)=true:=by kernel_rfl
theorem closed:joinedFacts Tryz.prog 3 Tryz.f3 Rows.rowsInsertSpec Rows.rowsInsertRow=true:=by
 unfold joinedFacts;rw [j_keys,j_heard,j_enter,j_lifts,j_make,j_laid,j_rowed,j_stops,j_stopKnobs,j_inPlace,j_unf,j_rec,j_named,j_wf]
 kernel_rfl
end Go.Proofs.YtafclpcpdmeodaaGreatDoor.rowsInsert
