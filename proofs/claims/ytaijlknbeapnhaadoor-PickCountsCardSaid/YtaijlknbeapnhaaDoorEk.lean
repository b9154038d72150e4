/- The abstract codes, checked against the program. -/
import Derived.Test.YtaijlknbeapnhaaDoorEc
import Derived.Test.YtaijlknbeapnhaaDoorProg
set_option linter.all false
namespace Go.AM
open Go.Proofs
theorem k_scclaw4_PickParts : chkF Tryd.prog f_scclaw4_PickParts a_scclaw4_PickParts = true := by kernel_rfl
theorem k_scclaw4_PickCounts : chkF Tryd.prog f_scclaw4_PickCounts a_scclaw4_PickCounts = true := by kernel_rfl
theorem k_pick_Pick : chkF Tryd.prog f_pick_Pick a_pick_Pick = true := by kernel_rfl
theorem k_sccref1_Num : chkF Tryd.prog f_sccref1_Num a_sccref1_Num = true := by kernel_rfl
theorem k_pick_Any : chkF Tryd.prog f_pick_Any a_pick_Any = true := by kernel_rfl
theorem k_pick_Group : chkF Tryd.prog f_pick_Group a_pick_Group = true := by kernel_rfl
theorem k_value_Two : chkF Tryd.prog f_value_Two a_value_Two = true := by kernel_rfl
theorem k_value_Compare : chkF Tryd.prog f_value_Compare a_value_Compare = true := by kernel_rfl
theorem k_pick_picked : chkF Tryd.prog f_pick_picked a_pick_picked = true := by kernel_rfl
theorem k_pick_Pick_c1 : chkF Tryd.prog f_pick_Pick_c1 a_pick_Pick_c1 = true := by kernel_rfl
theorem k_pick_Any_c1 : chkF Tryd.prog f_pick_Any_c1 a_pick_Any_c1 = true := by kernel_rfl
theorem k_value_Show : chkF Tryd.prog f_value_Show a_value_Show = true := by kernel_rfl
theorem k_value_Num : chkF Tryd.prog f_value_Num a_value_Num = true := by kernel_rfl
theorem k_value_Wrong : chkF Tryd.prog f_value_Wrong a_value_Wrong = true := by kernel_rfl
theorem k_value_Of : chkF Tryd.prog f_value_Of a_value_Of = true := by kernel_rfl
theorem k_sort_Columns : chkF Tryd.prog f_sort_Columns a_sort_Columns = true := by kernel_rfl
theorem k_sort_Column : chkF Tryd.prog f_sort_Column a_sort_Column = true := by kernel_rfl
theorem k_sort_Sort : chkF Tryd.prog f_sort_Sort a_sort_Sort = true := by kernel_rfl
theorem k_sort_Compare : chkF Tryd.prog f_sort_Compare a_sort_Compare = true := by kernel_rfl
theorem k_pick_sum : chkF Tryd.prog f_pick_sum a_pick_sum = true := by kernel_rfl
theorem k_value_Number : chkF Tryd.prog f_value_Number a_value_Number = true := by kernel_rfl
theorem k_value_IsBad : chkF Tryd.prog f_value_IsBad a_value_IsBad = true := by kernel_rfl
theorem k_value_reckon : chkF Tryd.prog f_value_reckon a_value_reckon = true := by kernel_rfl
theorem k_value_like : chkF Tryd.prog f_value_like a_value_like = true := by kernel_rfl
theorem k_value_Is : chkF Tryd.prog f_value_Is a_value_Is = true := by kernel_rfl
theorem k_cmp_Or_int_ : chkF Tryd.prog f_cmp_Or_int_ a_cmp_Or_int_ = true := by kernel_rfl
theorem k_cmp_Compare_int_ : chkF Tryd.prog f_cmp_Compare_int_ a_cmp_Compare_int_ = true := by kernel_rfl
theorem k_cmp_Compare_string_ : chkF Tryd.prog f_cmp_Compare_string_ a_cmp_Compare_string_ = true := by kernel_rfl
theorem k_pick_check : chkF Tryd.prog f_pick_check a_pick_check = true := by kernel_rfl
theorem k_value_IsTrue : chkF Tryd.prog f_value_IsTrue a_value_IsTrue = true := by kernel_rfl
theorem k_sort_Check : chkF Tryd.prog f_sort_Check a_sort_Check = true := by kernel_rfl
theorem k_sort_columns : chkF Tryd.prog f_sort_columns a_sort_columns = true := by kernel_rfl
theorem k_slices_SortStableFunc___int_int_ : chkF Tryd.prog f_slices_SortStableFunc___int_int_ a_slices_SortStableFunc___int_int_ = true := by kernel_rfl
theorem k_sort_Sort_c1 : chkF Tryd.prog f_sort_Sort_c1 a_sort_Sort_c1 = true := by kernel_rfl
theorem k_eval_Sum : chkF Tryd.prog f_eval_Sum a_eval_Sum = true := by kernel_rfl
theorem k_bits_Mul64 : chkF Tryd.prog f_bits_Mul64 a_bits_Mul64 = true := by kernel_rfl
theorem k_value_abs : chkF Tryd.prog f_value_abs a_value_abs = true := by kernel_rfl
theorem k_cmp_isNaN_int_ : chkF Tryd.prog f_cmp_isNaN_int_ a_cmp_isNaN_int_ = true := by kernel_rfl
theorem k_cmp_isNaN_string_ : chkF Tryd.prog f_cmp_isNaN_string_ a_cmp_isNaN_string_ = true := by kernel_rfl
theorem k_value_Check : chkF Tryd.prog f_value_Check a_value_Check = true := by kernel_rfl
theorem k_slices_stableCmpFunc_int_ : chkF Tryd.prog f_slices_stableCmpFunc_int_ a_slices_stableCmpFunc_int_ = true := by kernel_rfl
theorem k_slices_insertionSortCmpFunc_int_ : chkF Tryd.prog f_slices_insertionSortCmpFunc_int_ a_slices_insertionSortCmpFunc_int_ = true := by kernel_rfl
theorem k_slices_symMergeCmpFunc_int_ : chkF Tryd.prog f_slices_symMergeCmpFunc_int_ a_slices_symMergeCmpFunc_int_ = true := by kernel_rfl
theorem k_slices_rotateCmpFunc_int_ : chkF Tryd.prog f_slices_rotateCmpFunc_int_ a_slices_rotateCmpFunc_int_ = true := by kernel_rfl
theorem k_slices_swapRangeCmpFunc_int_ : chkF Tryd.prog f_slices_swapRangeCmpFunc_int_ a_slices_swapRangeCmpFunc_int_ = true := by kernel_rfl
end Go.AM
