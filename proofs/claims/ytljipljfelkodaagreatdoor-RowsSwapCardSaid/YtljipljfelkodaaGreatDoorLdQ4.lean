/- The world that meets the rows' condition has the shape that the form asks. Own work. -/
import Derived.Test.YtljipljfelkodaaGreatDoorLdQ1
import Derived.Test.YtljipljfelkodaaGreatDoorGGqAm32
set_option linter.all false
set_option maxRecDepth 100000
namespace Go.Proofs.YtljipljfelkodaaGreatDoor
open Go.AM
theorem zKZ (os : Os) (args : Array Value) : ((zEQ os).forCall (fun _ _=>0) ⟨#[],args,[]⟩).Shaped Tryz.prog:=shaped_of_refB (by kernel_rfl) (by kernel_rfl)
end Go.Proofs.YtljipljfelkodaaGreatDoor
