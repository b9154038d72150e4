/- The abstract codes, checked against the program. -/
import Derived.Test.YtniijfcjdlhfcaaDoorDac
import Derived.Test.YtniijfcjdlhfcaaDoorProg
set_option linter.all false
namespace Go.AM
open Go.Proofs
theorem k_scclaw3_FindLike : chkF Tryd.prog f_scclaw3_FindLike a_scclaw3_FindLike = true := by kernel_rfl
theorem k_scclaw3_CsvReads : chkF Tryd.prog f_scclaw3_CsvReads a_scclaw3_CsvReads = true := by kernel_rfl
theorem k_scclaw3_SortDistinct : chkF Tryd.prog f_scclaw3_SortDistinct a_scclaw3_SortDistinct = true := by kernel_rfl
theorem k_scclaw3_FormatWide : chkF Tryd.prog f_scclaw3_FormatWide a_scclaw3_FormatWide = true := by kernel_rfl
theorem k_scclaw3_ChartTicks : chkF Tryd.prog f_scclaw3_ChartTicks a_scclaw3_ChartTicks = true := by kernel_rfl
theorem k_scclaw3_SortRows : chkF Tryd.prog f_scclaw3_SortRows a_scclaw3_SortRows = true := by kernel_rfl
theorem k_scclaw4_CsvBack : chkF Tryd.prog f_scclaw4_CsvBack a_scclaw4_CsvBack = true := by kernel_rfl
theorem k_scclaw3_CsvWrites : chkF Tryd.prog f_scclaw3_CsvWrites a_scclaw3_CsvWrites = true := by kernel_rfl
theorem k_sccref3_Masks : chkF Tryd.prog f_sccref3_Masks a_sccref3_Masks = true := by kernel_rfl
theorem k_sccref3_Like : chkF Tryd.prog f_sccref3_Like a_sccref3_Like = true := by kernel_rfl
theorem k_find_Like : chkF Tryd.prog f_find_Like a_find_Like = true := by kernel_rfl
theorem k_sccsame_Error : chkF Tryd.prog f_sccsame_Error a_sccsame_Error = true := by kernel_rfl
theorem k_sccref3_Rows : chkF Tryd.prog f_sccref3_Rows a_sccref3_Rows = true := by kernel_rfl
theorem k_csv_Read : chkF Tryd.prog f_csv_Read a_csv_Read = true := by kernel_rfl
theorem k_sccsame_Rows : chkF Tryd.prog f_sccsame_Rows a_sccsame_Rows = true := by kernel_rfl
theorem k_sccref3_Columns : chkF Tryd.prog f_sccref3_Columns a_sccref3_Columns = true := by kernel_rfl
theorem k_sccref3_Distinct : chkF Tryd.prog f_sccref3_Distinct a_sccref3_Distinct = true := by kernel_rfl
theorem k_sort_Distinct : chkF Tryd.prog f_sort_Distinct a_sort_Distinct = true := by kernel_rfl
theorem k_sccsame_Ints : chkF Tryd.prog f_sccsame_Ints a_sccsame_Ints = true := by kernel_rfl
theorem k_sccref3_Wide : chkF Tryd.prog f_sccref3_Wide a_sccref3_Wide = true := by kernel_rfl
theorem k_format_Wide : chkF Tryd.prog f_format_Wide a_format_Wide = true := by kernel_rfl
theorem k_sccref3_Letters : chkF Tryd.prog f_sccref3_Letters a_sccref3_Letters = true := by kernel_rfl
theorem k_format_Column : chkF Tryd.prog f_format_Column a_format_Column = true := by kernel_rfl
theorem k_format_Number : chkF Tryd.prog f_format_Number a_format_Number = true := by kernel_rfl
theorem k_sccref3_Ticks : chkF Tryd.prog f_sccref3_Ticks a_sccref3_Ticks = true := by kernel_rfl
theorem k_chart_Ticks : chkF Tryd.prog f_chart_Ticks a_chart_Ticks = true := by kernel_rfl
theorem k_sccref1_Digits : chkF Tryd.prog f_sccref1_Digits a_sccref1_Digits = true := by kernel_rfl
theorem k_sccref3_Table : chkF Tryd.prog f_sccref3_Table a_sccref3_Table = true := by kernel_rfl
theorem k_sort_Check : chkF Tryd.prog f_sort_Check a_sort_Check = true := by kernel_rfl
theorem k_sccref3_Cols : chkF Tryd.prog f_sccref3_Cols a_sccref3_Cols = true := by kernel_rfl
theorem k_sccref3_Sort : chkF Tryd.prog f_sccref3_Sort a_sccref3_Sort = true := by kernel_rfl
theorem k_sort_Sort : chkF Tryd.prog f_sort_Sort a_sort_Sort = true := by kernel_rfl
theorem k_sort_Sorted : chkF Tryd.prog f_sort_Sorted a_sort_Sorted = true := by kernel_rfl
theorem k_csv_Write : chkF Tryd.prog f_csv_Write a_csv_Write = true := by kernel_rfl
theorem k_sccref3_Csv : chkF Tryd.prog f_sccref3_Csv a_sccref3_Csv = true := by kernel_rfl
theorem k_plain_Told : chkF Tryd.prog f_plain_Told a_plain_Told = true := by kernel_rfl
theorem k_csv_ends : chkF Tryd.prog f_csv_ends a_csv_ends = true := by kernel_rfl
theorem k_sccref3_Column : chkF Tryd.prog f_sccref3_Column a_sccref3_Column = true := by kernel_rfl
theorem k_sccref3_Alike : chkF Tryd.prog f_sccref3_Alike a_sccref3_Alike = true := by kernel_rfl
theorem k_sort_Columns : chkF Tryd.prog f_sort_Columns a_sort_Columns = true := by kernel_rfl
theorem k_slices_ContainsFunc___int_int_ : chkF Tryd.prog f_slices_ContainsFunc___int_int_ a_slices_ContainsFunc___int_int_ = true := by kernel_rfl
theorem k_sort_Distinct_c1 : chkF Tryd.prog f_sort_Distinct_c1 a_sort_Distinct_c1 = true := by kernel_rfl
theorem k_sort_Compare : chkF Tryd.prog f_sort_Compare a_sort_Compare = true := by kernel_rfl
theorem k_chart_near : chkF Tryd.prog f_chart_near a_chart_near = true := by kernel_rfl
theorem k_chart_floor : chkF Tryd.prog f_chart_floor a_chart_floor = true := by kernel_rfl
theorem k_sccref1_Is : chkF Tryd.prog f_sccref1_Is a_sccref1_Is = true := by kernel_rfl
theorem k_value_Check : chkF Tryd.prog f_value_Check a_value_Check = true := by kernel_rfl
theorem k_sccref3_Ahead : chkF Tryd.prog f_sccref3_Ahead a_sccref3_Ahead = true := by kernel_rfl
theorem k_sort_columns : chkF Tryd.prog f_sort_columns a_sort_columns = true := by kernel_rfl
theorem k_slices_SortStableFunc___int_int_ : chkF Tryd.prog f_slices_SortStableFunc___int_int_ a_slices_SortStableFunc___int_int_ = true := by kernel_rfl
theorem k_sort_Sort_c1 : chkF Tryd.prog f_sort_Sort_c1 a_sort_Sort_c1 = true := by kernel_rfl
theorem k_slices_Equal___int_int_ : chkF Tryd.prog f_slices_Equal___int_int_ a_slices_Equal___int_int_ = true := by kernel_rfl
theorem k_strings_HasPrefix : chkF Tryd.prog f_strings_HasPrefix a_strings_HasPrefix = true := by kernel_rfl
theorem k_sort_Column : chkF Tryd.prog f_sort_Column a_sort_Column = true := by kernel_rfl
theorem k_slices_IndexFunc___int_int_ : chkF Tryd.prog f_slices_IndexFunc___int_int_ a_slices_IndexFunc___int_int_ = true := by kernel_rfl
theorem k_value_Compare : chkF Tryd.prog f_value_Compare a_value_Compare = true := by kernel_rfl
theorem k_sccref1_Compare : chkF Tryd.prog f_sccref1_Compare a_sccref1_Compare = true := by kernel_rfl
theorem k_slices_stableCmpFunc_int_ : chkF Tryd.prog f_slices_stableCmpFunc_int_ a_slices_stableCmpFunc_int_ = true := by kernel_rfl
theorem k_stringslite_HasPrefix : chkF Tryd.prog f_stringslite_HasPrefix a_stringslite_HasPrefix = true := by kernel_rfl
theorem k_cmp_Or_int_ : chkF Tryd.prog f_cmp_Or_int_ a_cmp_Or_int_ = true := by kernel_rfl
theorem k_cmp_Compare_int_ : chkF Tryd.prog f_cmp_Compare_int_ a_cmp_Compare_int_ = true := by kernel_rfl
theorem k_cmp_Compare_string_ : chkF Tryd.prog f_cmp_Compare_string_ a_cmp_Compare_string_ = true := by kernel_rfl
theorem k_sccref1_less : chkF Tryd.prog f_sccref1_less a_sccref1_less = true := by kernel_rfl
theorem k_slices_insertionSortCmpFunc_int_ : chkF Tryd.prog f_slices_insertionSortCmpFunc_int_ a_slices_insertionSortCmpFunc_int_ = true := by kernel_rfl
theorem k_slices_symMergeCmpFunc_int_ : chkF Tryd.prog f_slices_symMergeCmpFunc_int_ a_slices_symMergeCmpFunc_int_ = true := by kernel_rfl
theorem k_cmp_isNaN_int_ : chkF Tryd.prog f_cmp_isNaN_int_ a_cmp_isNaN_int_ = true := by kernel_rfl
theorem k_cmp_isNaN_string_ : chkF Tryd.prog f_cmp_isNaN_string_ a_cmp_isNaN_string_ = true := by kernel_rfl
theorem k_slices_rotateCmpFunc_int_ : chkF Tryd.prog f_slices_rotateCmpFunc_int_ a_slices_rotateCmpFunc_int_ = true := by kernel_rfl
theorem k_slices_swapRangeCmpFunc_int_ : chkF Tryd.prog f_slices_swapRangeCmpFunc_int_ a_slices_swapRangeCmpFunc_int_ = true := by kernel_rfl
end Go.AM
