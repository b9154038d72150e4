/-
  The row holds: whatever comes in, the law says true, and writes nothing that was there; the variables that are listed are tied to the program's text. No conditions.
-/
import Derived.Test.YtmfmhljpddpfnaaGreatDoorFdl
import Derived.Test.YtmfmhljpddpfnaaGreatDoorFdj
set_option maxRecDepth 100000
set_option linter.all false
namespace Go.Proofs.YtmfmhljpddpfnaaGreatDoor.fillDown
open Go.ChangeShapes Go.WideShapes Go.RowKit Go.AM
open Go.ChangeMaps (open_string shut_string)
theorem over:Rows.fillDownRow.holds Tryz.pinned (OpenSpec.ofChange Rows.fillDownSpec):=
 OpenClaim.holds_of_wide 4 Tryz.f4 rfl rfl rfl rfl rfl rfl rfl ⟨rfl,rfl,rfl,rfl,rfl⟩ rfl rfl rfl rfl rfl (by kernel_rfl) Tryz.func4 closed
  (zow (by kernel_rfl)) (by unfold Func.isWrapper;first|(rw [zoQ (by decide +kernel)];kernel_rfl)|(rw [zWl (by decide +kernel)];exact ⟨rfl,rfl⟩))
  (fun os started H enc _=>lifted os started H enc)
end Go.Proofs.YtmfmhljpddpfnaaGreatDoor.fillDown
