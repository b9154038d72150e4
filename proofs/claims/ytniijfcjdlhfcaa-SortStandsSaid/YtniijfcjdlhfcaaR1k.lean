/- The abstract codes, checked against the program. -/
import Derived.Test.YtniijfcjdlhfcaaR1c
import Derived.Test.YtniijfcjdlhfcaaProg
set_option linter.all false
namespace Go.AM
open Go.Proofs
theorem k_scclaw4_FindMasks : chkF Try.prog f_scclaw4_FindMasks a_scclaw4_FindMasks = true := by kernel_rfl
theorem k_scclaw4_SortOnce : chkF Try.prog f_scclaw4_SortOnce a_scclaw4_SortOnce = true := by kernel_rfl
theorem k_scclaw4_FormatWides : chkF Try.prog f_scclaw4_FormatWides a_scclaw4_FormatWides = true := by kernel_rfl
theorem k_scclaw4_SortStands : chkF Try.prog f_scclaw4_SortStands a_scclaw4_SortStands = true := by kernel_rfl
theorem k_find_Like : chkF Try.prog f_find_Like a_find_Like = true := by kernel_rfl
theorem k_sort_Distinct : chkF Try.prog f_sort_Distinct a_sort_Distinct = true := by kernel_rfl
theorem k_sccref1_Num : chkF Try.prog f_sccref1_Num a_sccref1_Num = true := by kernel_rfl
theorem k_value_Compare : chkF Try.prog f_value_Compare a_value_Compare = true := by kernel_rfl
theorem k_format_Column : chkF Try.prog f_format_Column a_format_Column = true := by kernel_rfl
theorem k_format_Wide : chkF Try.prog f_format_Wide a_format_Wide = true := by kernel_rfl
theorem k_format_Number : chkF Try.prog f_format_Number a_format_Number = true := by kernel_rfl
theorem k_sort_Sort : chkF Try.prog f_sort_Sort a_sort_Sort = true := by kernel_rfl
theorem k_sort_Sorted : chkF Try.prog f_sort_Sorted a_sort_Sorted = true := by kernel_rfl
theorem k_sort_Columns : chkF Try.prog f_sort_Columns a_sort_Columns = true := by kernel_rfl
theorem k_slices_ContainsFunc___int_int_ : chkF Try.prog f_slices_ContainsFunc___int_int_ a_slices_ContainsFunc___int_int_ = true := by kernel_rfl
theorem k_sort_Distinct_c1 : chkF Try.prog f_sort_Distinct_c1 a_sort_Distinct_c1 = true := by kernel_rfl
theorem k_sort_Compare : chkF Try.prog f_sort_Compare a_sort_Compare = true := by kernel_rfl
theorem k_cmp_Or_int_ : chkF Try.prog f_cmp_Or_int_ a_cmp_Or_int_ = true := by kernel_rfl
theorem k_cmp_Compare_int_ : chkF Try.prog f_cmp_Compare_int_ a_cmp_Compare_int_ = true := by kernel_rfl
theorem k_cmp_Compare_string_ : chkF Try.prog f_cmp_Compare_string_ a_cmp_Compare_string_ = true := by kernel_rfl
theorem k_sort_columns : chkF Try.prog f_sort_columns a_sort_columns = true := by kernel_rfl
theorem k_slices_SortStableFunc___int_int_ : chkF Try.prog f_slices_SortStableFunc___int_int_ a_slices_SortStableFunc___int_int_ = true := by kernel_rfl
theorem k_sort_Sort_c1 : chkF Try.prog f_sort_Sort_c1 a_sort_Sort_c1 = true := by kernel_rfl
theorem k_slices_Equal___int_int_ : chkF Try.prog f_slices_Equal___int_int_ a_slices_Equal___int_int_ = true := by kernel_rfl
theorem k_sort_Check : chkF Try.prog f_sort_Check a_sort_Check = true := by kernel_rfl
theorem k_sort_Column : chkF Try.prog f_sort_Column a_sort_Column = true := by kernel_rfl
theorem k_slices_IndexFunc___int_int_ : chkF Try.prog f_slices_IndexFunc___int_int_ a_slices_IndexFunc___int_int_ = true := by kernel_rfl
theorem k_cmp_isNaN_int_ : chkF Try.prog f_cmp_isNaN_int_ a_cmp_isNaN_int_ = true := by kernel_rfl
theorem k_cmp_isNaN_string_ : chkF Try.prog f_cmp_isNaN_string_ a_cmp_isNaN_string_ = true := by kernel_rfl
theorem k_slices_stableCmpFunc_int_ : chkF Try.prog f_slices_stableCmpFunc_int_ a_slices_stableCmpFunc_int_ = true := by kernel_rfl
theorem k_value_Check : chkF Try.prog f_value_Check a_value_Check = true := by kernel_rfl
theorem k_slices_insertionSortCmpFunc_int_ : chkF Try.prog f_slices_insertionSortCmpFunc_int_ a_slices_insertionSortCmpFunc_int_ = true := by kernel_rfl
theorem k_slices_symMergeCmpFunc_int_ : chkF Try.prog f_slices_symMergeCmpFunc_int_ a_slices_symMergeCmpFunc_int_ = true := by kernel_rfl
theorem k_slices_rotateCmpFunc_int_ : chkF Try.prog f_slices_rotateCmpFunc_int_ a_slices_rotateCmpFunc_int_ = true := by kernel_rfl
theorem k_slices_swapRangeCmpFunc_int_ : chkF Try.prog f_slices_swapRangeCmpFunc_int_ a_slices_swapRangeCmpFunc_int_ = true := by kernel_rfl
end Go.AM
