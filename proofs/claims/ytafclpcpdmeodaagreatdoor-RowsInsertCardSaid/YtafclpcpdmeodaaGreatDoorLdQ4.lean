/- The world that meets the rows' condition has the shape that the form asks. Own work. -/
import Derived.Test.YtafclpcpdmeodaaGreatDoorLdQ1
import Derived.Test.YtafclpcpdmeodaaGreatDoorGGqAm32
set_option linter.all false
set_option maxRecDepth 100000
namespace Go.Proofs.YtafclpcpdmeodaaGreatDoor
open Go.AM
theorem zOW (os:Os) (args:Array Value):((zGQ os).forCall (fun _ _=>0) ⟨#[],args,[]⟩).Shaped Tryz.prog:=shaped_of_refB (by kernel_rfl) (by kernel_rfl)
end Go.Proofs.YtafclpcpdmeodaaGreatDoor
