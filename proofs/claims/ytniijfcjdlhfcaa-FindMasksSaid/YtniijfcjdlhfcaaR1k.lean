/- The abstract codes, checked against the program. -/
import Derived.Test.YtniijfcjdlhfcaaR1c
import Derived.Test.YtniijfcjdlhfcaaProg
set_option linter.all false
namespace Go.AM
open Go.Proofs
theorem k_scclaw4_FindMasks : chkF Try.prog f_scclaw4_FindMasks a_scclaw4_FindMasks = true := by kernel_rfl
theorem k_find_Like : chkF Try.prog f_find_Like a_find_Like = true := by kernel_rfl
end Go.AM
