/- The closed facts of the row 'formatSigns', one by one (in one piece they want more memory than there is). Own work. -/
import Derived.Test.YtgcggndacnmhfaaDoorRows
import Derived.JoinedOf
import Derived.KernelRfl
set_option linter.all false
set_option maxRecDepth 100000
namespace Go.Proofs.YtgcggndacnmhfaaDoor.formatSigns
open Go.ChangeShapes Go.WideShapes
theorem zL8 : Tryd.prog.plainKeys = Rows.formatSignsRow.plainKeys:=by kernel_rfl
theorem zLW : Tryd.prog.stopsHeard = true:=by kernel_rfl
theorem zLX : Tryd.prog.mayEnter = true:=by kernel_rfl
theorem zLY : Tryd.prog.liftsFinal = Rows.formatSignsRow.lifted:=by kernel_rfl
theorem zL9 : Tryd.prog.make = some Rows.formatSignsRow.make:=by kernel_rfl
theorem zMA : laidOutB Tryd.prog = true:=by kernel_rfl
theorem zLZ : mapsRowed Tryd.prog = true:=by kernel_rfl
theorem zLa : Tryd.prog.stops = []:=by kernel_rfl
theorem zGt : Tryd.prog.stopKnobs = []:=by kernel_rfl
theorem zJQ : Tryd.prog.inPlace 3 = Rows.formatSignsRow.inPlace:=by kernel_rfl
theorem j_unf : Tryd.prog.unfollowed 3 = Rows.formatSignsRow.unfollowed:=by kernel_rfl
theorem j_rec : Tryd.prog.recurses 3 = Rows.formatSignsRow.recurses:=by kernel_rfl
theorem zLb : Tryd.prog.varsNamed 3 = Rows.formatSignsRow.named:=by kernel_rfl
theorem j_wf : Rows.formatSignsRow.wf (OpenSpec.ofChange Rows.formatSignsSpec) = true:=by kernel_rfl
theorem closed : joinedFacts Tryd.prog 3 Tryd.f3 Rows.formatSignsSpec Rows.formatSignsRow = true:=by
 unfold joinedFacts
 rw [zL8,zLW,zLX,zLY,zL9,zMA,zLZ,zLa,zGt,zJQ,j_unf,j_rec,zLb,j_wf]
 kernel_rfl
end Go.Proofs.YtgcggndacnmhfaaDoor.formatSigns
