/- More closed facts of the row 'formatSigns', one by one. Own work. -/
import Derived.Test.YtgcggndacnmhfaaDoorRows
import Derived.SevenTiedAt
import Derived.KernelRfl
set_option linter.all false
set_option maxRecDepth 100000
namespace Go.Proofs.YtgcggndacnmhfaaDoor.formatSigns
theorem w_wf : Rows.formatSignsRow.wfByText (OpenSpec.ofChange Rows.formatSignsSpec) = true:=by kernel_rfl
theorem zMB : Tryd.prog.mainIs = some (true, "aeeb58d4f50c845ecdc8ce842a7bfd9621b9588598ad8bb603e1fe0dbec62f9d".toList):=by kernel_rfl
theorem zLc : true = Tryd.prog.looks []:=by kernel_rfl
theorem zMC : false = Rows.formatSignsRow.goesBy Tryd.prog:=by kernel_rfl
theorem w_fn : Tryd.prog.funcNamed "sccsettle/scclaw4.FormatSigns" = some 3:=by kernel_rfl
theorem w_t3 : Tryd.prog.wantsStandIn 3 = false:=by kernel_rfl
theorem w_t4 : Tryd.prog.wantsStandIn 4 = false:=by kernel_rfl
end Go.Proofs.YtgcggndacnmhfaaDoor.formatSigns
