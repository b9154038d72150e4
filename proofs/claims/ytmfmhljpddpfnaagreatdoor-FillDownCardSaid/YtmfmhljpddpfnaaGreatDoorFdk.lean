/- More closed facts of the row 'fillDown', one by one. Own work. -/
import Derived.Test.YtmfmhljpddpfnaaGreatDoorRows
import Derived.SevenTiedAt
import Derived.KernelRfl
set_option maxRecDepth 100000
set_option linter.all false
namespace Go.Proofs.YtmfmhljpddpfnaaGreatDoor.fillDown
theorem w_wf:Rows.fillDownRow.wfByText (OpenSpec.ofChange Rows.fillDownSpec)=true:=by kernel_rfl
theorem zlG:Tryz.prog.mainIs=some (true, "9bcb9b90110dd2a8726f96474d49bf9f30a5645a20cc06ad8ff5660602d5f1a7".toList):=by kernel_rfl
theorem zis:true=Tryz.prog.looks []:=by kernel_rfl
theorem zlH:false=Rows.fillDownRow.goesBy Tryz.prog:=by kernel_rfl
theorem w_fn:Tryz.prog.funcNamed "sccsettle/scclaw3.FillDown" = some 4:=by kernel_rfl
theorem zlp:Tryz.prog.wantsStandIn 22=false:=by kernel_rfl
theorem zlq:Tryz.prog.wantsStandIn 26=false:=by kernel_rfl
end Go.Proofs.YtmfmhljpddpfnaaGreatDoor.fillDown
