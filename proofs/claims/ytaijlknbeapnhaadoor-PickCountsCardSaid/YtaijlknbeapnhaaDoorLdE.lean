/- A world that meets the rows' condition on the package-level variables: the program's own text has laid them, and the pinned table is set. Own work, after the guide's worked examples. -/
import Derived.Test.YtaijlknbeapnhaaDoorRows
import Derived.Test.YtaijlknbeapnhaaDoorAm24
import Derived.WalkKit
import Derived.ProofKit
import Derived.OpenShut
import Derived.ShutString
import Derived.ChangeOld
import Derived.ChangeSame
import Derived.ChangeVars
import Derived.JoinedOf
import Derived.RowKit
import Derived.RowKitTokens
import Derived.LaidLaws
import Derived.LaidHandle
import Derived.LaidByTextLater
import Derived.Stop.Joined
import Derived.Below
import Derived.Carry
set_option linter.all false
set_option maxRecDepth 100000
namespace Go.Proofs.YtaijlknbeapnhaaDoor
open Go.ChangeShapes Go.WideShapes Go.RowKit Go.AM

theorem own : ownKnob Tryd.prog.godebug = none := by kernel_rfl
theorem laidOut : laidOutB Tryd.prog = true := by kernel_rfl
theorem mixed : Tryd.prog.follows .mixedOrders = true := by kernel_rfl

noncomputable def laidWorld (os : Os) : World :=
  let w0 := varsWorld Tryd.prog 86 (varsId Tryd.prog) os (fun _ _ => 0)
  { w0 with heap := (w0.heap.modify 8 fun
      | .cells _ t frozen => .cells (Go.Pinned.utf8FirstZ.map fun n : Nat => Value.int .u8 (n : Int)).toArray t frozen
      | o => o).modify 2 fun
      | .cells _ t frozen => .cells #[.slice none 0 0, .slice none 0 0, .slice none 0 0, .slice none 0 0] t frozen
      | o => o }
theorem laidWorld_os (os : Os) : (laidWorld os).os = os := by kernel_rfl
abbrev laidList : List (String × DataW Unit) := Rows.pickPartsRow.laid
abbrev plainList : List (String × DataW Unit) := laidList.filter fun x => x.2.handleName?.isNone
theorem laid1 (os : Os) (args : Array Value) : (DataW.laidRun Tryd.prog ((laidWorld os).forCall (fun _ _ => 0) ⟨#[], args, []⟩).memory 8 (plainList.map (·.1))).map (·.1) = some plainList := by kernel_rfl
theorem laid2 (os : Os) (args : Array Value) : (DataW.laidRun Tryd.prog ((laidWorld os).forCall (fun _ _ => 0) ⟨#[], args, []⟩).memory 8 (plainList.map (·.1))).map (fun x => decide x.2.Nodup && laidRowsB Tryd.prog ((laidWorld os).forCall (fun _ _ => 0) ⟨#[], args, []⟩).memory x.2) = some true := by kernel_rfl
theorem laidWorld_met (os : Os) (args : Array Value) : laidMetH Tryd.prog laidList ((laidWorld os).forCall (fun _ _ => 0) ⟨#[], args, []⟩).memory :=
  laidMetH_of_parts (laidMet_of_run' 8 (laid1 os args) (laid2 os args)) (by kernel_rfl)
end Go.Proofs.YtaijlknbeapnhaaDoor
