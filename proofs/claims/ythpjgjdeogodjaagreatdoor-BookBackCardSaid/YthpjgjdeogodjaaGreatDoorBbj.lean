/- The closed facts of the row 'bookBack', one by one (in one piece they want more memory than there is). Own work. -/
import Derived.Test.YthpjgjdeogodjaaGreatDoorRows
import Derived.JoinedOf
import Derived.KernelRfl
set_option linter.all false
set_option maxRecDepth 100000
namespace Go.Proofs.YthpjgjdeogodjaaGreatDoor.bookBack
open Go.ChangeShapes Go.WideShapes
theorem j_keys : Tryz.prog.plainKeys = Rows.bookBackRow.plainKeys:=by kernel_rfl
theorem j_heard : Tryz.prog.stopsHeard = true:=by kernel_rfl
theorem j_enter : Tryz.prog.mayEnter = true:=by kernel_rfl
theorem j_lifts : Tryz.prog.liftsFinal = Rows.bookBackRow.lifted:=by kernel_rfl
theorem j_make : Tryz.prog.make = some Rows.bookBackRow.make:=by kernel_rfl
theorem j_laid : laidOutB Tryz.prog = true:=by kernel_rfl
theorem j_rowed : mapsRowed Tryz.prog = true:=by kernel_rfl
theorem j_stops : Tryz.prog.stops = []:=by kernel_rfl
theorem j_stopKnobs : Tryz.prog.stopKnobs = []:=by kernel_rfl
theorem j_inPlace : Tryz.prog.inPlace 5 = Rows.bookBackRow.inPlace:=by kernel_rfl
theorem j_unf : Tryz.prog.unfollowed 5 = Rows.bookBackRow.unfollowed:=by kernel_rfl
theorem j_rec : Tryz.prog.recurses 5 = Rows.bookBackRow.recurses:=by kernel_rfl
theorem j_named : Tryz.prog.varsNamed 5 = Rows.bookBackRow.named:=by kernel_rfl
theorem j_wf : Rows.bookBackRow.wf (OpenSpec.ofChange Rows.bookBackSpec) = true:=by kernel_rfl
theorem closed : joinedFacts Tryz.prog 5 Tryz.f5 Rows.bookBackSpec Rows.bookBackRow = true:=by
 unfold joinedFacts
 rw [j_keys,j_heard,j_enter,j_lifts,j_make,j_laid,j_rowed,j_stops,j_stopKnobs,j_inPlace,j_unf,j_rec,j_named,j_wf]
 kernel_rfl
end Go.Proofs.YthpjgjdeogodjaaGreatDoor.bookBack
