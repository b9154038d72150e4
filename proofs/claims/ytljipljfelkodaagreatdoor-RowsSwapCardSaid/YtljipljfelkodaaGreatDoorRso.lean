/-
  The row holds: whatever sheet and numbers come in, the law says true, and writes nothing that was there; the variables that are listed are tied to the program's text. No conditions.
-/
import Derived.Test.YtljipljfelkodaaGreatDoorRsl
import Derived.Test.YtljipljfelkodaaGreatDoorRsj
set_option linter.all false
set_option maxRecDepth 100000
namespace Go.Proofs.YtljipljfelkodaaGreatDoor.rowsSwap
open Go.ChangeShapes Go.WideShapes Go.RowKit Go.AM
open Go.ChangeMaps (open_string shut_string)
theorem over : Rows.rowsSwapRow.holds Tryz.pinned (OpenSpec.ofChange Rows.rowsSwapSpec):=
 OpenClaim.holds_of_wide 3 Tryz.f3 rfl rfl rfl rfl rfl rfl rfl ⟨rfl,rfl,rfl,rfl,rfl⟩ rfl rfl rfl rfl rfl (by kernel_rfl) Tryz.func3 closed
  (zMb (by kernel_rfl)) (by unfold Func.isWrapper; first | (rw [zLx (by decide +kernel)]; kernel_rfl) | (rw [zLv (by decide +kernel)]; exact ⟨rfl,rfl⟩))
  (fun os started H enc _=>lifted os started H enc)
end Go.Proofs.YtljipljfelkodaaGreatDoor.rowsSwap
