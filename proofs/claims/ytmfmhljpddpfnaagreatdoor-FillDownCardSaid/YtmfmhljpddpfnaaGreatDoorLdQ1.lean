/- The package-level variables of the rows of the great door: the world that is to meet the rows' condition. Own work, after the guide's worked examples. -/
import Derived.Test.YtmfmhljpddpfnaaGreatDoorRows
import Derived.Test.YtmfmhljpddpfnaaGreatDoorGFr5ToldQ
import Derived.Test.YtmfmhljpddpfnaaGreatDoorGAm23Am35
import Derived.WalkKit
import Derived.ProofKit
import Derived.OpenShut
import Derived.ShutString
import Derived.ChangeOld
import Derived.ChangeSame
import Derived.ChangeVars
import Derived.JoinedOf
import Derived.RowKit
import Derived.RowKitTokens
import Derived.LaidLaws
import Derived.LaidHandle
import Derived.LaidByTextLater
import Derived.Stop.Joined
import Derived.Below
import Derived.Carry
set_option maxRecDepth 100000
set_option linter.all false
namespace Go.Proofs.YtmfmhljpddpfnaaGreatDoor
open Go.ChangeShapes Go.WideShapes Go.RowKit Go.AM
theorem own:ownKnob Tryz.prog.godebug=none:=by kernel_rfl
theorem zUS:laidOutB Tryz.prog=true:=by kernel_rfl
theorem mixed:Tryz.prog.follows .mixedOrders=true:=by kernel_rfl
theorem et:Tryz.prog.globalNamed "errors.errorType" = some 0:=by kernel_rfl
theorem rt:(Tryz.prog.cutTypes.find? (·.1 == "internal/reflectlite.rtype")).map (·.2)=some 182:=by kernel_rfl
theorem zj2:((List.range 321).filter fun t=>Tryz.prog.rowNamed t [101,114,114,111,114])=[30]:=by kernel_rfl
theorem size:Tryz.prog.types.size=321:=by kernel_rfl
noncomputable def zGO (os:Os):World:=
 let w0:=varsWorld Tryz.prog 86 (varsId Tryz.prog) os (fun _ _=>0)
 { w0 with heap:=(w0.heap.modify 4 fun
   |.cells _ t frozen=>.cells (Go.Pinned.utf8FirstZ.map fun n:Nat=>Value.int .u8 (n:Int)).toArray t frozen
   |o=>o).modify 0 fun
   |.cells _ t frozen=>.cells #[zGt] t frozen
   |o=>o }
theorem zSp (os:Os):(zGO os).os=os:=by kernel_rfl
abbrev zNZ:List (String×DataW Unit):=Rows.fillCopiesRow.laid
abbrev zJS:List (String×DataW Unit):=zNZ.filter fun x=>x.2.handleName?.isNone
theorem laid1 (os:Os) (args:Array Value):(DataW.laidRun Tryz.prog ((zGO os).forCall (fun _ _=>0) ⟨#[],args,[]⟩).memory 8 (zJS.map (·.1))).map (·.1)=some zJS:=by kernel_rfl
end Go.Proofs.YtmfmhljpddpfnaaGreatDoor
