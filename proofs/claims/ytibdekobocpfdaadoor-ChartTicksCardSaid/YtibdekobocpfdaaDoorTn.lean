/- The numbers of functions, types and variables, by name: printed by a program of my own (wip/gen/Gen.lean.tpl). -/
import Derived.Test.YtibdekobocpfdaaDoorAm22
set_option linter.all false
namespace Go.AM
abbrev f_scclaw3_ChartTicks : Nat := 3
abbrev f_sccref3_Ticks : Nat := 4
abbrev f_chart_Ticks : Nat := 5
abbrev f_sccsame_Error : Nat := 6
abbrev f_sccref1_Digits : Nat := 7
abbrev f_chart_near : Nat := 8
abbrev f_chart_floor : Nat := 9
abbrev f_strconv_Itoa : Nat := 10
abbrev f_plain_Told : Nat := 11
abbrev f_sccsettlebig_NewInt : Nat := 12
abbrev f_sccsettlebig_Int__String : Nat := 13
abbrev f_errors_As : Nat := 15
abbrev f_sccsettlebig_Int__SetInt64 : Nat := 16
abbrev f_sccsettlebig_Int__Text : Nat := 17
abbrev f_sccsettlebig_words : Nat := 24
abbrev f_sccsettlebig_Int__give : Nat := 23
abbrev f_sccsettlebig_twin : Nat := 25
abbrev f_sccsettlebig_small : Nat := 26
abbrev f_sccsettlebig_trim : Nat := 34
abbrev t_api_Errno : Nat := 35
abbrev t__api_Errno : Nat := 43
end Go.AM
