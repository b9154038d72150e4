/- The closed facts of the row 'fillDown', one by one (in one piece they want more memory than there is). Own work. -/
import Derived.Test.YtmfmhljpddpfnaaGreatDoorRows
import Derived.JoinedOf
import Derived.KernelRfl
set_option maxRecDepth 100000
set_option linter.all false
namespace Go.Proofs.YtmfmhljpddpfnaaGreatDoor.fillDown
open Go.ChangeShapes Go.WideShapes
theorem zlD:Tryz.prog.plainKeys=Rows.fillDownRow.plainKeys:=by kernel_rfl
theorem zim:Tryz.prog.stopsHeard=true:=by kernel_rfl
theorem zin:Tryz.prog.mayEnter=true:=by kernel_rfl
theorem zio:Tryz.prog.liftsFinal=Rows.fillDownRow.lifted:=by kernel_rfl
theorem zlE:Tryz.prog.make=some Rows.fillDownRow.make:=by kernel_rfl
theorem zlF:laidOutB Tryz.prog=true:=by kernel_rfl
theorem zip:mapsRowed Tryz.prog=true:=by kernel_rfl
theorem ziq:Tryz.prog.stops=[]:=by kernel_rfl
theorem zU7:Tryz.prog.stopKnobs=[]:=by kernel_rfl
theorem zcr:Tryz.prog.inPlace 4=Rows.fillDownRow.inPlace:=by kernel_rfl
theorem zln:Tryz.prog.unfollowed 4=Rows.fillDownRow.unfollowed:=by kernel_rfl
theorem zlo:Tryz.prog.recurses 4=Rows.fillDownRow.recurses:=by kernel_rfl
theorem zir:Tryz.prog.varsNamed 4=Rows.fillDownRow.named:=by kernel_rfl
theorem j_wf:Rows.fillDownRow.wf (OpenSpec.ofChange Rows.fillDownSpec)=true:=by kernel_rfl
theorem closed:joinedFacts Tryz.prog 4 Tryz.f4 Rows.fillDownSpec Rows.fillDownRow=true:=by
 unfold joinedFacts;rw [zlD,zim,zin,zio,zlE,zlF,zip,ziq,zU7,zcr,zln,zlo,zir,j_wf]
 kernel_rfl
end Go.Proofs.YtmfmhljpddpfnaaGreatDoor.fillDown
