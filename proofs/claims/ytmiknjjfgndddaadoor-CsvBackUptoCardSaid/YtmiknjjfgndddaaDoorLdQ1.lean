/- The package-level variables of the rows of the great door: the world that is to meet the rows' condition. Own work, after the guide's worked examples. -/
import Derived.Test.YtmiknjjfgndddaaDoorRows
import Derived.Test.YtmiknjjfgndddaaDoorGToldQAm24
import Derived.WalkKit
import Derived.ProofKit
import Derived.OpenShut
import Derived.ShutString
import Derived.ChangeOld
import Derived.ChangeSame
import Derived.ChangeVars
import Derived.JoinedOf
import Derived.RowKit
import Derived.RowKitTokens
import Derived.LaidLaws
import Derived.LaidHandle
import Derived.LaidByTextLater
import Derived.Stop.Joined
import Derived.Below
import Derived.Carry
set_option linter.all false
set_option maxRecDepth 100000
namespace Go.Proofs.YtmiknjjfgndddaaDoor
open Go.ChangeShapes Go.WideShapes Go.RowKit Go.AM
theorem own : ownKnob Tryd.prog.godebug = none:=by kernel_rfl
theorem zIW : laidOutB Tryd.prog = true:=by kernel_rfl
theorem mixed : Tryd.prog.follows .mixedOrders = true:=by kernel_rfl
noncomputable def zAU (os : Os) : World:=
 let w0:=varsWorld Tryd.prog 86 (varsId Tryd.prog) os (fun _ _=>0)
 { w0 with heap:=w0.heap.modify 2 fun
   | .cells _ t frozen=>.cells (Go.Pinned.utf8FirstZ.map fun n : Nat=>Value.int .u8 (n : Int)).toArray t frozen
   | o=>o }
theorem zFL (os : Os) : (zAU os).os = os:=by kernel_rfl
abbrev zCk : List (String × DataW Unit):=Rows.csvBackRow.laid
abbrev zDL : List (String × DataW Unit):=zCk.filter fun x=>x.2.handleName?.isNone
theorem laid1 (os : Os) (args : Array Value) : (DataW.laidRun Tryd.prog ((zAU os).forCall (fun _ _=>0) ⟨#[],args,[]⟩).memory 8 (zDL.map (·.1))).map (·.1) = some zDL:=by kernel_rfl
end Go.Proofs.YtmiknjjfgndddaaDoor
