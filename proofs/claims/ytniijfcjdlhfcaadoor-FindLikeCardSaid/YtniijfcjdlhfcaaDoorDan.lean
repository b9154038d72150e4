/- The numbers of functions, types and variables, by name: printed by a program of my own (wip/gen/Gen.lean.tpl). -/
import Derived.Test.YtniijfcjdlhfcaaDoorAm22
set_option linter.all false
namespace Go.AM
abbrev f_scclaw3_FindLike : Nat := 3
abbrev f_sccref3_Masks : Nat := 11
abbrev f_sccref3_Like : Nat := 12
abbrev f_find_Like : Nat := 13
abbrev f_sccsame_Error : Nat := 14
abbrev f_plain_Told : Nat := 38
abbrev f_errors_As : Nat := 65
abbrev t_api_Errno : Nat := 79
abbrev t__api_Errno : Nat := 111
end Go.AM
