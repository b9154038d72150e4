/-
  The row holds: whatever number, noughts and truth come in, the law says true, and writes nothing that was there; the variables that are listed are tied to the program's text. No conditions.
-/
import Derived.Test.YtgcggndacnmhfaaDoorSil
import Derived.Test.YtgcggndacnmhfaaDoorSij
set_option linter.all false
set_option maxRecDepth 100000
namespace Go.Proofs.YtgcggndacnmhfaaDoor.formatSigns
open Go.ChangeShapes Go.WideShapes Go.RowKit Go.AM
open Go.ChangeMaps (open_string shut_string)
theorem over : Rows.formatSignsRow.holds Tryd.pinned (OpenSpec.ofChange Rows.formatSignsSpec):=
 OpenClaim.holds_of_wide 3 Tryd.f3 rfl rfl rfl rfl rfl rfl rfl ⟨rfl,rfl,rfl,rfl,rfl⟩ rfl rfl rfl rfl rfl (by kernel_rfl) Tryd.func3 closed
  (of_decide_eq_true (by kernel_rfl)) (by unfold Func.isWrapper; first | (rw [if_pos (by decide +kernel)]; kernel_rfl) | (rw [if_neg (by decide +kernel)]; exact ⟨rfl,rfl⟩))
  (fun os started H enc _=>lifted os started H enc)
end Go.Proofs.YtgcggndacnmhfaaDoor.formatSigns
