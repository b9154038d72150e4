/- The world that meets the rows' condition has the shape that the form asks. Own work. -/
import Derived.Test.YtkeblfepjkdleaaGreatDoorLdQ1
import Derived.Test.YtkeblfepjkdleaaGreatDoorGGqAm32
set_option maxRecDepth 100000
set_option linter.all false
namespace Go.Proofs.YtkeblfepjkdleaaGreatDoor
open Go.AM
theorem zOt (os:Os) (args:Array Value):((zGb os).forCall (fun _ _=>0) ⟨#[],args,[]⟩).Shaped Tryz.prog:=zRP (by kernel_rfl) (by kernel_rfl)
end Go.Proofs.YtkeblfepjkdleaaGreatDoor
