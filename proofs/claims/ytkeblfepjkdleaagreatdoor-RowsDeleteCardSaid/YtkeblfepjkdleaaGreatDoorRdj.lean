/- The closed facts of the row 'rowsDelete', one by one (in one piece they want more memory than there is). Own work. -/
import Derived.Test.YtkeblfepjkdleaaGreatDoorRows
import Derived.JoinedOf
import Derived.KernelRfl
set_option maxRecDepth 100000
set_option linter.all false
namespace Go.Proofs.YtkeblfepjkdleaaGreatDoor.rowsDelete
open Go.ChangeShapes Go.WideShapes
theorem zk8:Tryz.prog.plainKeys=Rows.rowsDeleteRow.plainKeys:=by kernel_rfl
theorem zjF:Tryz.prog.stopsHeard=true:=by kernel_rfl
theorem zjG:Tryz.prog.mayEnter=true:=by kernel_rfl
theorem zjH:Tryz.prog.liftsFinal=Rows.rowsDeleteRow.lifted:=by kernel_rfl
theorem zk9:Tryz.prog.make=some Rows.rowsDeleteRow.make:=by kernel_rfl
theorem zlA:laidOutB Tryz.prog=true:=by kernel_rfl
theorem zjI:mapsRowed Tryz.prog=true:=by kernel_rfl
theorem zjJ:Tryz.prog.stops=[]:=by kernel_rfl
theorem zWj:Tryz.prog.stopKnobs=[]:=by kernel_rfl
theorem zdf:Tryz.prog.inPlace 3=Rows.rowsDeleteRow.inPlace:=by kernel_rfl
theorem j_unf:Tryz.prog.unfollowed 3=Rows.rowsDeleteRow.unfollowed:=by kernel_rfl
theorem j_rec:Tryz.prog.recurses 3=Rows.rowsDeleteRow.recurses:=by kernel_rfl
theorem zjK:Tryz.prog.varsNamed 3=Rows.rowsDeleteRow.named:=by kernel_rfl
theorem j_wf:Rows.rowsDeleteRow.wf (OpenSpec.ofChange Rows.rowsDeleteSpec)=true:=by kernel_rfl
theorem closed:joinedFacts Tryz.prog 3 Tryz.f3 Rows.rowsDeleteSpec Rows.rowsDeleteRow=true:=by
 unfold joinedFacts;rw [zk8,zjF,zjG,zjH,zk9,zlA,zjI,zjJ,zWj,zdf,j_unf,j_rec,zjK,j_wf]
 kernel_rfl
end Go.Proofs.YtkeblfepjkdleaaGreatDoor.rowsDelete
