/- The reference's parser: tokens. Own work. -/
import Derived.Test.YthpjgjdeogodjaaGreatDoorGAm31Rf1
set_option linter.all false
set_option maxRecDepth 20000
namespace Go.AM
structure KSt where
 i : Nat
 v : AV
 acc : Bs
section
variable {C : CSpec} {GT : Nat → Option AV}
end
end Go.AM
