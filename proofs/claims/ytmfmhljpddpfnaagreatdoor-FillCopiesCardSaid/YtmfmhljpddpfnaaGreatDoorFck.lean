/- More closed facts of the row 'fillCopies', one by one. Own work. -/
import Derived.Test.YtmfmhljpddpfnaaGreatDoorRows
import Derived.SevenTiedAt
import Derived.KernelRfl
set_option maxRecDepth 100000
set_option linter.all false
namespace Go.Proofs.YtmfmhljpddpfnaaGreatDoor.fillCopies
theorem w_wf:Rows.fillCopiesRow.wfByText (OpenSpec.ofChange Rows.fillCopiesSpec)=true:=by kernel_rfl
theorem zlG:Tryz.prog.mainIs=some (true, "9bcb9b90110dd2a8726f96474d49bf9f30a5645a20cc06ad8ff5660602d5f1a7".toList):=by kernel_rfl
theorem zis:true=Tryz.prog.looks []:=by kernel_rfl
theorem zlH:false=Rows.fillCopiesRow.goesBy Tryz.prog:=by kernel_rfl
theorem w_fn:Tryz.prog.funcNamed "sccsettle/scclaw3.FillCopies" = some 3:=by kernel_rfl
theorem zlp:Tryz.prog.wantsStandIn 22=false:=by kernel_rfl
theorem zlq:Tryz.prog.wantsStandIn 26=false:=by kernel_rfl
theorem w_t24:Tryz.prog.wantsStandIn 24=false:=by kernel_rfl
end Go.Proofs.YtmfmhljpddpfnaaGreatDoor.fillCopies
