/- Several texts of mine in one (Mhj, Mho, Mhk). Own work. -/
import Derived.Test.YtmmbcogejaofpaaGreatDoorRows
import Derived.JoinedOf
import Derived.KernelRfl
import Derived.Test.YtmmbcogejaofpaaGreatDoorGMw6Mhl
import Derived.SevenTiedAt
set_option linter.all false
set_option maxRecDepth 100000
namespace Go.Proofs.YtmmbcogejaofpaaGreatDoor.mergeHands
open Go.ChangeShapes Go.WideShapes
theorem j_keys : Tryz.prog.plainKeys = Rows.mergeHandsRow.plainKeys:=by kernel_rfl
theorem j_heard : Tryz.prog.stopsHeard = true:=by kernel_rfl
theorem j_enter : Tryz.prog.mayEnter = true:=by kernel_rfl
theorem j_lifts : Tryz.prog.liftsFinal = Rows.mergeHandsRow.lifted:=by kernel_rfl
theorem j_make : Tryz.prog.make = some Rows.mergeHandsRow.make:=by kernel_rfl
theorem j_laid : laidOutB Tryz.prog = true:=by kernel_rfl
theorem j_rowed : mapsRowed Tryz.prog = true:=by kernel_rfl
theorem j_stops : Tryz.prog.stops = []:=by kernel_rfl
theorem zGM : Tryz.prog.stopKnobs = []:=by kernel_rfl
theorem zJn : Tryz.prog.inPlace 4 = Rows.mergeHandsRow.inPlace:=by kernel_rfl
theorem j_unf : Tryz.prog.unfollowed 4 = Rows.mergeHandsRow.unfollowed:=by kernel_rfl
theorem j_rec : Tryz.prog.recurses 4 = Rows.mergeHandsRow.recurses:=by kernel_rfl
theorem j_named : Tryz.prog.varsNamed 4 = Rows.mergeHandsRow.named:=by kernel_rfl
theorem j_wf : Rows.mergeHandsRow.wf (OpenSpec.ofChange Rows.mergeHandsSpec) = true:=by kernel_rfl
theorem closed : joinedFacts Tryz.prog 4 Tryz.f4 Rows.mergeHandsSpec Rows.mergeHandsRow = true:=by
 unfold joinedFacts
 rw [j_keys,j_heard,j_enter,j_lifts,j_make,j_laid,j_rowed,j_stops,zGM,zJn,j_unf,j_rec,j_named,j_wf]
 kernel_rfl
end Go.Proofs.YtmmbcogejaofpaaGreatDoor.mergeHands
set_option maxRecDepth 100000
namespace Go.Proofs.YtmmbcogejaofpaaGreatDoor.mergeHands
open Go.ChangeShapes Go.WideShapes Go.RowKit Go.AM
open Go.ChangeMaps (open_string shut_string)
theorem over : Rows.mergeHandsRow.holds Tryz.pinned (OpenSpec.ofChange Rows.mergeHandsSpec):=
 OpenClaim.holds_of_wide 4 Tryz.f4 rfl rfl rfl rfl rfl rfl rfl ⟨rfl,rfl,rfl,rfl,rfl⟩ rfl rfl rfl rfl rfl (by kernel_rfl) Tryz.func4 closed
  (of_decide_eq_true (by kernel_rfl)) (by unfold Func.isWrapper; first | (rw [if_pos (by decide +kernel)]; kernel_rfl) | (rw [if_neg (by decide +kernel)]; exact ⟨rfl,rfl⟩))
  (fun os started H enc _=>lifted os started H enc)
end Go.Proofs.YtmmbcogejaofpaaGreatDoor.mergeHands
set_option maxRecDepth 100000
namespace Go.Proofs.YtmmbcogejaofpaaGreatDoor.mergeHands
theorem w_wf : Rows.mergeHandsRow.wfByText (OpenSpec.ofChange Rows.mergeHandsSpec) = true:=by kernel_rfl
theorem w_main : Tryz.prog.mainIs = some (true, "e64b774697b7235d56ce54bc7dfeb99de01b9efc1c7c4e87b3ef142d4525ef08".toList):=by kernel_rfl
theorem w_looks : true = Tryz.prog.looks []:=by kernel_rfl
theorem w_goes : false = Rows.mergeHandsRow.goesBy Tryz.prog:=by kernel_rfl
theorem w_fn : Tryz.prog.funcNamed "sccsettle/scclaw4.MergeHands" = some 4:=by kernel_rfl
theorem w_t22 : Tryz.prog.wantsStandIn 22 = false:=by kernel_rfl
end Go.Proofs.YtmmbcogejaofpaaGreatDoor.mergeHands
