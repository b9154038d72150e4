/- The numbers of functions, types and variables, by name: printed by a program of my own (wip/gen/Gen.lean.tpl). -/
import Derived.Test.YtniijfcjdlhfcaaAm22
set_option linter.all false
namespace Go.AM
abbrev f_scclaw4_FindMasks : Nat := 3
abbrev f_find_Like : Nat := 7
abbrev t_api_Errno : Nat := 51
end Go.AM
