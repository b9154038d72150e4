/- The world that meets the rows' condition has the shape that the form asks. Own work. -/
import Derived.Test.YthpjgjdeogodjaaGreatDoorLdQ1
import Derived.Test.YthpjgjdeogodjaaGreatDoorGAm26Arf
set_option linter.all false
set_option maxRecDepth 100000
namespace Go.Proofs.YthpjgjdeogodjaaGreatDoor
open Go.AM
theorem zKg (os : Os) (args : Array Value) : ((zEd os).forCall (fun _ _=>0) ⟨#[],args,[]⟩).Shaped Tryz.prog:=shaped_of_refB (by kernel_rfl) (by kernel_rfl)
end Go.Proofs.YthpjgjdeogodjaaGreatDoor
