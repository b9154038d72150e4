/-
  The row holds (the second form): whatever comes in of bulk at most 1048576, the law CsvBack says true, and writes nothing that was there; the variables that are listed are tied to the program's text.
-/
import Derived.Test.YtmiknjjfgndddaaDoorCbl
set_option linter.all false
set_option maxRecDepth 100000
namespace Go.Proofs.YtmiknjjfgndddaaDoor.csvBack
open Go.ChangeShapes Go.WideShapes Go.ChangeAt Go.RowKit Go.AM
theorem closed : joinedFacts Tryd.prog 3 Tryd.f3 (Rows.OpenSpec.upto Rows.csvBackSpec).bare Rows.csvBackUptoRow = true:=by kernel_rfl
theorem over : Rows.csvBackUptoRow.holds Tryd.pinned (Rows.OpenSpec.upto Rows.csvBackSpec):=
 OpenClaim.holds_of_cond 3 Tryd.f3 rfl rfl rfl rfl rfl rfl rfl ⟨rfl,rfl,rfl,rfl,rfl⟩ rfl rfl rfl rfl rfl (by kernel_rfl) Tryd.func3 closed
  (of_decide_eq_true (by kernel_rfl)) (by unfold Func.isWrapper; first | (rw [if_pos (by decide +kernel)]; kernel_rfl) | (rw [if_neg (by decide +kernel)]; exact ⟨rfl,rfl⟩))
  (fun os started H enc _ F=>by rw [OpenClaim.pre_eq_preRow]; exact lifted os started H enc F)
end Go.Proofs.YtmiknjjfgndddaaDoor.csvBack
