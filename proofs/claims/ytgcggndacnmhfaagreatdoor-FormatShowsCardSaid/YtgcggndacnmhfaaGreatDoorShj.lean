/- The closed facts of the row 'formatShows', one by one (in one piece they want more memory than there is). Own work. -/
import Derived.Test.YtgcggndacnmhfaaGreatDoorRows
import Derived.JoinedOf
import Derived.KernelRfl
set_option linter.all false
set_option maxRecDepth 100000
namespace Go.Proofs.YtgcggndacnmhfaaGreatDoor.formatShows
open Go.ChangeShapes Go.WideShapes
theorem zNr : Tryz.prog.plainKeys = Rows.formatShowsRow.plainKeys:=by kernel_rfl
theorem zM3 : Tryz.prog.stopsHeard = true:=by kernel_rfl
theorem zM4 : Tryz.prog.mayEnter = true:=by kernel_rfl
theorem zM5 : Tryz.prog.liftsFinal = Rows.formatShowsRow.lifted:=by kernel_rfl
theorem zNs : Tryz.prog.make = some Rows.formatShowsRow.make:=by kernel_rfl
theorem zNt : laidOutB Tryz.prog = true:=by kernel_rfl
theorem zM6 : mapsRowed Tryz.prog = true:=by kernel_rfl
theorem zM7 : Tryz.prog.stops = []:=by kernel_rfl
theorem zHm : Tryz.prog.stopKnobs = []:=by kernel_rfl
theorem zKm : Tryz.prog.inPlace 3 = Rows.formatShowsRow.inPlace:=by kernel_rfl
theorem j_unf : Tryz.prog.unfollowed 3 = Rows.formatShowsRow.unfollowed:=by kernel_rfl
theorem j_rec : Tryz.prog.recurses 3 = Rows.formatShowsRow.recurses:=by kernel_rfl
theorem zM8 : Tryz.prog.varsNamed 3 = Rows.formatShowsRow.named:=by kernel_rfl
theorem j_wf : Rows.formatShowsRow.wf (OpenSpec.ofChange Rows.formatShowsSpec) = true:=by kernel_rfl
theorem closed : joinedFacts Tryz.prog 3 Tryz.f3 Rows.formatShowsSpec Rows.formatShowsRow = true:=by
 unfold joinedFacts
 rw [zNr,zM3,zM4,zM5,zNs,zNt,zM6,zM7,zHm,zKm,j_unf,j_rec,zM8,j_wf]
 kernel_rfl
end Go.Proofs.YtgcggndacnmhfaaGreatDoor.formatShows
