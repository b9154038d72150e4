/- The abstract codes, checked against the program. -/
import Derived.Test.YtibdekobocpfdaaDoorTc
import Derived.Test.YtibdekobocpfdaaDoorProg
set_option linter.all false
namespace Go.AM
open Go.Proofs
theorem k_scclaw3_ChartTicks : chkF Tryd.prog f_scclaw3_ChartTicks a_scclaw3_ChartTicks = true := by kernel_rfl
theorem k_sccref3_Ticks : chkF Tryd.prog f_sccref3_Ticks a_sccref3_Ticks = true := by kernel_rfl
theorem k_chart_Ticks : chkF Tryd.prog f_chart_Ticks a_chart_Ticks = true := by kernel_rfl
theorem k_sccsame_Error : chkF Tryd.prog f_sccsame_Error a_sccsame_Error = true := by kernel_rfl
theorem k_sccref1_Digits : chkF Tryd.prog f_sccref1_Digits a_sccref1_Digits = true := by kernel_rfl
theorem k_chart_near : chkF Tryd.prog f_chart_near a_chart_near = true := by kernel_rfl
theorem k_chart_floor : chkF Tryd.prog f_chart_floor a_chart_floor = true := by kernel_rfl
theorem k_plain_Told : chkF Tryd.prog f_plain_Told a_plain_Told = true := by kernel_rfl
theorem k_sccsettlebig_NewInt : chkF Tryd.prog f_sccsettlebig_NewInt a_sccsettlebig_NewInt = true := by kernel_rfl
theorem k_sccsettlebig_Int__String : chkF Tryd.prog f_sccsettlebig_Int__String a_sccsettlebig_Int__String = true := by kernel_rfl
theorem k_sccsettlebig_Int__SetInt64 : chkF Tryd.prog f_sccsettlebig_Int__SetInt64 a_sccsettlebig_Int__SetInt64 = true := by kernel_rfl
theorem k_sccsettlebig_Int__Text : chkF Tryd.prog f_sccsettlebig_Int__Text a_sccsettlebig_Int__Text = true := by kernel_rfl
theorem k_sccsettlebig_Int__give : chkF Tryd.prog f_sccsettlebig_Int__give a_sccsettlebig_Int__give = true := by kernel_rfl
theorem k_sccsettlebig_words : chkF Tryd.prog f_sccsettlebig_words a_sccsettlebig_words = true := by kernel_rfl
theorem k_sccsettlebig_twin : chkF Tryd.prog f_sccsettlebig_twin a_sccsettlebig_twin = true := by kernel_rfl
theorem k_sccsettlebig_small : chkF Tryd.prog f_sccsettlebig_small a_sccsettlebig_small = true := by kernel_rfl
theorem k_sccsettlebig_trim : chkF Tryd.prog f_sccsettlebig_trim a_sccsettlebig_trim = true := by kernel_rfl
end Go.AM
