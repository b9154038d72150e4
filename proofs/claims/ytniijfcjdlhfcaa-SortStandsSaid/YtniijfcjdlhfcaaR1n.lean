/- The numbers of functions, types and variables, by name: printed by a program of my own (wip/gen/Gen.lean.tpl). -/
import Derived.Test.YtniijfcjdlhfcaaAm22
set_option linter.all false
namespace Go.AM
abbrev f_scclaw4_FindMasks : Nat := 3
abbrev f_find_Like : Nat := 7
abbrev f_scclaw4_SortOnce : Nat := 4
abbrev f_sccref1_Num : Nat := 9
abbrev f_sort_Distinct : Nat := 8
abbrev f_value_Compare : Nat := 10
abbrev f_scclaw4_FormatWides : Nat := 5
abbrev f_format_Column : Nat := 11
abbrev f_format_Wide : Nat := 12
abbrev f_format_Number : Nat := 13
abbrev f_scclaw4_SortStands : Nat := 6
abbrev f_sort_Sort : Nat := 14
abbrev f_sort_Sorted : Nat := 15
abbrev f_sort_Columns : Nat := 16
abbrev f_sort_Distinct_c1 : Nat := 18
abbrev f_slices_ContainsFunc___int_int_ : Nat := 17
abbrev f_cmp_Compare_int_ : Nat := 21
abbrev f_cmp_Compare_string_ : Nat := 22
abbrev f_cmp_Or_int_ : Nat := 20
abbrev f_strings_Repeat : Nat := 23
abbrev f_sort_columns : Nat := 24
abbrev f_sort_Sort_c1 : Nat := 26
abbrev f_slices_SortStableFunc___int_int_ : Nat := 25
abbrev f_slices_Equal___int_int_ : Nat := 27
abbrev f_sort_Check : Nat := 28
abbrev f_sort_Column : Nat := 29
abbrev f_slices_IndexFunc___int_int_ : Nat := 30
abbrev f_sort_Compare : Nat := 19
abbrev f_cmp_isNaN_int_ : Nat := 31
abbrev f_cmp_isNaN_string_ : Nat := 32
abbrev f_slices_stableCmpFunc_int_ : Nat := 39
abbrev f_value_Check : Nat := 40
abbrev f_slices_insertionSortCmpFunc_int_ : Nat := 46
abbrev f_slices_symMergeCmpFunc_int_ : Nat := 47
abbrev f_slices_rotateCmpFunc_int_ : Nat := 50
abbrev f_slices_swapRangeCmpFunc_int_ : Nat := 51
abbrev t_api_Errno : Nat := 51
end Go.AM
