/-
  The row holds: whatever three sheets come in, the law says true, and writes nothing that was there; the variables that are listed are tied to the program's text. No conditions.
-/
import Derived.Test.YthllabjbdobpgaaGreatDoorMdl
import Derived.Test.YthllabjbdobpgaaGreatDoorMdj
set_option linter.all false
set_option maxRecDepth 100000
namespace Go.Proofs.YthllabjbdobpgaaGreatDoor.mergeDiffs
open Go.ChangeShapes Go.WideShapes Go.RowKit Go.AM
open Go.ChangeMaps (open_string shut_string)
theorem over : Rows.mergeDiffsRow.holds Tryz.pinned (OpenSpec.ofChange Rows.mergeDiffsSpec):=
 OpenClaim.holds_of_wide 4 Tryz.f4 rfl rfl rfl rfl rfl rfl rfl ⟨rfl,rfl,rfl,rfl,rfl⟩ rfl rfl rfl rfl rfl (by kernel_rfl) Tryz.func4 closed
  (zNc (by kernel_rfl)) (by unfold Func.isWrapper; first | (rw [zMt (by decide +kernel)]; kernel_rfl) | (rw [zMq (by decide +kernel)]; exact ⟨rfl,rfl⟩))
  (fun os started H enc _=>lifted os started H enc)
end Go.Proofs.YthllabjbdobpgaaGreatDoor.mergeDiffs
