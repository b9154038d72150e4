/- The numbers of functions, types and variables, by name: printed by a program of my own (wip/gen/Gen.lean.tpl). -/
import Derived.Test.YtniijfcjdlhfcaaAm22
set_option linter.all false
namespace Go.AM
abbrev f_scclaw4_SortOnce : Nat := 4
abbrev f_sccref1_Num : Nat := 9
abbrev f_sort_Distinct : Nat := 8
abbrev f_value_Compare : Nat := 10
abbrev f_sort_Columns : Nat := 16
abbrev f_sort_Distinct_c1 : Nat := 18
abbrev f_slices_ContainsFunc___int_int_ : Nat := 17
abbrev f_cmp_Compare_int_ : Nat := 21
abbrev f_cmp_Compare_string_ : Nat := 22
abbrev f_cmp_Or_int_ : Nat := 20
abbrev f_sort_Check : Nat := 28
abbrev f_sort_Column : Nat := 29
abbrev f_slices_IndexFunc___int_int_ : Nat := 30
abbrev f_sort_Compare : Nat := 19
abbrev f_cmp_isNaN_int_ : Nat := 31
abbrev f_cmp_isNaN_string_ : Nat := 32
abbrev f_value_Check : Nat := 40
abbrev t_api_Errno : Nat := 51
end Go.AM
