/-
  The row holds: whatever comes in, the law says true, and writes nothing that was there; the variables that are listed are tied to the program's text. No conditions.
-/
import Derived.Test.YtkeblfepjkdleaaGreatDoorRdl
import Derived.Test.YtkeblfepjkdleaaGreatDoorRdj
set_option maxRecDepth 100000
set_option linter.all false
namespace Go.Proofs.YtkeblfepjkdleaaGreatDoor.rowsDelete
open Go.ChangeShapes Go.WideShapes Go.RowKit Go.AM
open Go.ChangeMaps (open_string shut_string)
theorem over:Rows.rowsDeleteRow.holds Tryz.pinned (OpenSpec.ofChange Rows.rowsDeleteSpec):=
 OpenClaim.holds_of_wide 3 Tryz.f3 rfl rfl rfl rfl rfl rfl rfl ⟨rfl,rfl,rfl,rfl,rfl⟩ rfl rfl rfl rfl rfl (by kernel_rfl) Tryz.func3 closed
  (zlr (by kernel_rfl)) (by unfold Func.isWrapper;first|(rw [zlF (by decide +kernel)];kernel_rfl)|(rw [zlD (by decide +kernel)];exact ⟨rfl,rfl⟩))
  (fun os started H enc _=>lifted os started H enc)
end Go.Proofs.YtkeblfepjkdleaaGreatDoor.rowsDelete
