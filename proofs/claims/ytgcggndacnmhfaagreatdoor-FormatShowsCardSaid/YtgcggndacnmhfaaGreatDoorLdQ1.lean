/- The package-level variables of the rows of the great door: the world that is to meet the rows' condition. Own work, after the guide's worked examples. -/
import Derived.Test.YtgcggndacnmhfaaGreatDoorRows
import Derived.Test.YtgcggndacnmhfaaGreatDoorToldQ
import Derived.Test.YtgcggndacnmhfaaGreatDoorGAm23Bc
import Derived.WalkKit
import Derived.ProofKit
import Derived.OpenShut
import Derived.ShutString
import Derived.ChangeOld
import Derived.ChangeSame
import Derived.ChangeVars
import Derived.JoinedOf
import Derived.RowKit
import Derived.RowKitTokens
import Derived.LaidLaws
import Derived.LaidHandle
import Derived.LaidByTextLater
import Derived.Stop.Joined
import Derived.Below
import Derived.Carry
set_option linter.all false
set_option maxRecDepth 100000
namespace Go.Proofs.YtgcggndacnmhfaaGreatDoor
open Go.ChangeShapes Go.WideShapes Go.RowKit Go.AM
theorem own : ownKnob Tryz.prog.godebug = none:=by kernel_rfl
theorem zKb : laidOutB Tryz.prog = true:=by kernel_rfl
theorem mixed : Tryz.prog.follows .mixedOrders = true:=by kernel_rfl
theorem et : Tryz.prog.globalNamed "errors.errorType" = some 1:=by kernel_rfl
theorem rt : (Tryz.prog.cutTypes.find? (·.1 == "internal/reflectlite.rtype")).map (·.2) = some 116:=by kernel_rfl
theorem zNc : ((List.range 180).filter fun t=>Tryz.prog.rowNamed t [101,114,114,111,114]) = [32]:=by kernel_rfl
theorem size : Tryz.prog.types.size = 180:=by kernel_rfl
noncomputable def zBN (os : Os) : World:=
 let w0:=varsWorld Tryz.prog 86 (varsId Tryz.prog) os (fun _ _=>0)
 { w0 with heap:=(w0.heap.modify 6 fun
   | .cells _ t frozen=>.cells (Go.Pinned.utf8FirstZ.map fun n : Nat=>Value.int .u8 (n : Int)).toArray t frozen
   | o=>o).modify 1 fun
   | .cells _ t frozen=>.cells #[zBY] t frozen
   | o=>o }
theorem zG7 (os : Os) : (zBN os).os = os:=by kernel_rfl
abbrev zEN : List (String × DataW Unit):=Rows.formatShowsRow.laid
abbrev zCX : List (String × DataW Unit):=zEN.filter fun x=>x.2.handleName?.isNone
theorem laid1 (os : Os) (args : Array Value) : (DataW.laidRun Tryz.prog ((zBN os).forCall (fun _ _=>0) ⟨#[],args,[]⟩).memory 8 (zCX.map (·.1))).map (·.1) = some zCX:=by kernel_rfl
end Go.Proofs.YtgcggndacnmhfaaGreatDoor
