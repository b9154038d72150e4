/- The abstract codes, checked against the program. -/
import Derived.Test.YtniijfcjdlhfcaaDoorDac
import Derived.Test.YtniijfcjdlhfcaaDoorProg
set_option linter.all false
namespace Go.AM
open Go.Proofs
theorem k_scclaw3_FindLike : chkF Tryd.prog f_scclaw3_FindLike a_scclaw3_FindLike = true := by kernel_rfl
theorem k_sccref3_Masks : chkF Tryd.prog f_sccref3_Masks a_sccref3_Masks = true := by kernel_rfl
theorem k_sccref3_Like : chkF Tryd.prog f_sccref3_Like a_sccref3_Like = true := by kernel_rfl
theorem k_find_Like : chkF Tryd.prog f_find_Like a_find_Like = true := by kernel_rfl
theorem k_sccsame_Error : chkF Tryd.prog f_sccsame_Error a_sccsame_Error = true := by kernel_rfl
theorem k_plain_Told : chkF Tryd.prog f_plain_Told a_plain_Told = true := by kernel_rfl
end Go.AM
