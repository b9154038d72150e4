/- The numbers of functions, types and variables, by name: printed by a program of my own (wip/gen/Gen.lean.tpl). -/
import Derived.Test.YtaijlknbeapnhaaDoorAm22
set_option linter.all false
namespace Go.AM
abbrev f_scclaw4_PickParts : Nat := 3
abbrev f_sccref1_Num : Nat := 8
abbrev f_pick_Pick : Nat := 7
abbrev f_pick_Any : Nat := 9
abbrev f_scclaw4_PickCounts : Nat := 6
abbrev f_pick_Group : Nat := 16
abbrev f_value_Two : Nat := 17
abbrev f_value_Compare : Nat := 18
abbrev f_pick_Pick_c1 : Nat := 20
abbrev f_pick_picked : Nat := 19
abbrev f_pick_Any_c1 : Nat := 21
abbrev f_sort_Columns : Nat := 33
abbrev f_sort_Column : Nat := 34
abbrev f_sort_Sort : Nat := 35
abbrev f_sort_Compare : Nat := 36
abbrev f_pick_sum : Nat := 37
abbrev f_value_Wrong : Nat := 31
abbrev f_value_Number : Nat := 38
abbrev f_value_IsBad : Nat := 39
abbrev f_value_reckon : Nat := 40
abbrev f_value_Show : Nat := 25
abbrev f_value_Of : Nat := 32
abbrev f_value_like : Nat := 41
abbrev f_value_Is : Nat := 42
abbrev f_cmp_Compare_int_ : Nat := 44
abbrev f_cmp_Compare_string_ : Nat := 45
abbrev f_cmp_Or_int_ : Nat := 43
abbrev f_pick_check : Nat := 46
abbrev f_value_IsTrue : Nat := 47
abbrev f_strconv_Itoa : Nat := 54
abbrev f_value_Num : Nat := 29
abbrev f_sort_Check : Nat := 65
abbrev f_sort_columns : Nat := 66
abbrev f_sort_Sort_c1 : Nat := 68
abbrev f_slices_SortStableFunc___int_int_ : Nat := 67
abbrev f_eval_Sum : Nat := 69
abbrev f_value_Whole : Nat := 28
abbrev f_value_abs : Nat := 71
abbrev f_bits_Mul64 : Nat := 70
abbrev f_cmp_isNaN_int_ : Nat := 72
abbrev f_cmp_isNaN_string_ : Nat := 73
abbrev f_value_Check : Nat := 74
abbrev f_slices_stableCmpFunc_int_ : Nat := 101
abbrev f_slices_insertionSortCmpFunc_int_ : Nat := 124
abbrev f_slices_symMergeCmpFunc_int_ : Nat := 125
abbrev f_slices_rotateCmpFunc_int_ : Nat := 137
abbrev f_slices_swapRangeCmpFunc_int_ : Nat := 149
abbrev t_api_Errno : Nat := 67
abbrev g_value_texts : Nat := 0
end Go.AM
