/- The reference's Num; results that lie in a variable. Own work. -/
import Derived.Test.YtaijlknbeapnhaaDoorVal
import Derived.Test.YtaijlknbeapnhaaDoorAm29
set_option linter.all false
namespace Go.AM

section
variable {C : CSpec} {GT : Nat → Option AV}

theorem num_ev (n : Int) (H : Heap) : EFun C GT a_sccref1_Num [intV n] H (valV ⟨1, n, []⟩) H := by
  refine sOpt rfl ?_
  refine sStoreBox push_last rfl rfl (by simp) ?_
  exact sRetCell (cs := splice [.int .i64 0, .int .i64 0, .str []] 0 [.int .i64 1, intV n, .str []]) (o := 0) rfl rfl (ptr_box (set_at push_last)) rfl rfl rfl ((Old.refl H).pushSet _ _)

end
end Go.AM
