/-
  The row holds: whatever comes in, the law says true, and writes nothing that was there; the variables that are listed are tied to the program's text. No conditions.
-/
import Derived.Test.YtcnogafgcfidnaaGreatDoorCrl
import Derived.Test.YtcnogafgcfidnaaGreatDoorCrj
set_option linter.all false
set_option maxRecDepth 100000
namespace Go.Proofs.YtcnogafgcfidnaaGreatDoor.pickCross
open Go.ChangeShapes Go.WideShapes Go.RowKit Go.AM
open Go.ChangeMaps (open_string shut_string)
theorem over : Rows.pickCrossRow.holds Tryz.pinned (OpenSpec.ofChange Rows.pickCrossSpec):=
 OpenClaim.holds_of_wide 3 Tryz.f3 rfl rfl rfl rfl rfl rfl rfl ⟨rfl,rfl,rfl,rfl,rfl⟩ rfl rfl rfl rfl rfl (by kernel_rfl) Tryz.func3 closed
  (of_decide_eq_true (by kernel_rfl)) (by unfold Func.isWrapper; first | (rw [if_pos (by decide +kernel)]; kernel_rfl) | (rw [if_neg (by decide +kernel)]; exact ⟨rfl,rfl⟩))
  (fun os started H enc _=>lifted os started H enc)
end Go.Proofs.YtcnogafgcfidnaaGreatDoor.pickCross
