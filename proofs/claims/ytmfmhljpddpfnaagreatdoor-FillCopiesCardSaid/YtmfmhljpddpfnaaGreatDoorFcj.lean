/- The closed facts of the row 'fillCopies', one by one (in one piece they want more memory than there is). Own work. -/
import Derived.Test.YtmfmhljpddpfnaaGreatDoorRows
import Derived.JoinedOf
import Derived.KernelRfl
set_option maxRecDepth 100000
set_option linter.all false
namespace Go.Proofs.YtmfmhljpddpfnaaGreatDoor.fillCopies
open Go.ChangeShapes Go.WideShapes
theorem zlD:Tryz.prog.plainKeys=Rows.fillCopiesRow.plainKeys:=by kernel_rfl
theorem zim:Tryz.prog.stopsHeard=true:=by kernel_rfl
theorem zin:Tryz.prog.mayEnter=true:=by kernel_rfl
theorem zio:Tryz.prog.liftsFinal=Rows.fillCopiesRow.lifted:=by kernel_rfl
theorem zlE:Tryz.prog.make=some Rows.fillCopiesRow.make:=by kernel_rfl
theorem zlF:laidOutB Tryz.prog=true:=by kernel_rfl
theorem zip:mapsRowed Tryz.prog=true:=by kernel_rfl
theorem ziq:Tryz.prog.stops=[]:=by kernel_rfl
theorem zU7:Tryz.prog.stopKnobs=[]:=by kernel_rfl
theorem zcr:Tryz.prog.inPlace 3=Rows.fillCopiesRow.inPlace:=by kernel_rfl
theorem zln:Tryz.prog.unfollowed 3=Rows.fillCopiesRow.unfollowed:=by kernel_rfl
theorem zlo:Tryz.prog.recurses 3=Rows.fillCopiesRow.recurses:=by kernel_rfl
theorem zir:Tryz.prog.varsNamed 3=Rows.fillCopiesRow.named:=by kernel_rfl
theorem j_wf:Rows.fillCopiesRow.wf (OpenSpec.ofChange Rows.fillCopiesSpec)=true:=by kernel_rfl
theorem closed:joinedFacts Tryz.prog 3 Tryz.f3 Rows.fillCopiesSpec Rows.fillCopiesRow=true:=by
 unfold joinedFacts;rw [zlD,zim,zin,zio,zlE,zlF,zip,ziq,zU7,zcr,zln,zlo,zir,j_wf]
 kernel_rfl
end Go.Proofs.YtmfmhljpddpfnaaGreatDoor.fillCopies
