/- The abstract codes, checked against the program. -/
import Derived.Test.YtniijfcjdlhfcaaR1sc
import Derived.Test.YtniijfcjdlhfcaaProg
set_option linter.all false
namespace Go.AM
open Go.Proofs
theorem k_scclaw4_SortOnce : chkF Try.prog f_scclaw4_SortOnce a_scclaw4_SortOnce = true := by kernel_rfl
theorem k_sort_Distinct : chkF Try.prog f_sort_Distinct a_sort_Distinct = true := by kernel_rfl
theorem k_sccref1_Num : chkF Try.prog f_sccref1_Num a_sccref1_Num = true := by kernel_rfl
theorem k_value_Compare : chkF Try.prog f_value_Compare a_value_Compare = true := by kernel_rfl
theorem k_sort_Columns : chkF Try.prog f_sort_Columns a_sort_Columns = true := by kernel_rfl
theorem k_slices_ContainsFunc___int_int_ : chkF Try.prog f_slices_ContainsFunc___int_int_ a_slices_ContainsFunc___int_int_ = true := by kernel_rfl
theorem k_sort_Distinct_c1 : chkF Try.prog f_sort_Distinct_c1 a_sort_Distinct_c1 = true := by kernel_rfl
theorem k_sort_Compare : chkF Try.prog f_sort_Compare a_sort_Compare = true := by kernel_rfl
theorem k_cmp_Or_int_ : chkF Try.prog f_cmp_Or_int_ a_cmp_Or_int_ = true := by kernel_rfl
theorem k_cmp_Compare_int_ : chkF Try.prog f_cmp_Compare_int_ a_cmp_Compare_int_ = true := by kernel_rfl
theorem k_cmp_Compare_string_ : chkF Try.prog f_cmp_Compare_string_ a_cmp_Compare_string_ = true := by kernel_rfl
theorem k_sort_Check : chkF Try.prog f_sort_Check a_sort_Check = true := by kernel_rfl
theorem k_sort_Column : chkF Try.prog f_sort_Column a_sort_Column = true := by kernel_rfl
theorem k_slices_IndexFunc___int_int_ : chkF Try.prog f_slices_IndexFunc___int_int_ a_slices_IndexFunc___int_int_ = true := by kernel_rfl
theorem k_cmp_isNaN_int_ : chkF Try.prog f_cmp_isNaN_int_ a_cmp_isNaN_int_ = true := by kernel_rfl
theorem k_cmp_isNaN_string_ : chkF Try.prog f_cmp_isNaN_string_ a_cmp_isNaN_string_ = true := by kernel_rfl
theorem k_value_Check : chkF Try.prog f_value_Check a_value_Check = true := by kernel_rfl
end Go.AM
