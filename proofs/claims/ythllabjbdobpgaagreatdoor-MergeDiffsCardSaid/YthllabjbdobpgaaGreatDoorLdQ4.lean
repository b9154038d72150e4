/- The world that meets the rows' condition has the shape that the form asks. Own work. -/
import Derived.Test.YthllabjbdobpgaaGreatDoorLdQ1
import Derived.Test.YthllabjbdobpgaaGreatDoorGWt2Arf
set_option linter.all false
set_option maxRecDepth 100000
namespace Go.Proofs.YthllabjbdobpgaaGreatDoor
open Go.AM
theorem zLH (os : Os) (args : Array Value) : ((zEt os).forCall (fun _ _=>0) ⟨#[],args,[]⟩).Shaped Tryz.prog:=shaped_of_refB (by kernel_rfl) (by kernel_rfl)
end Go.Proofs.YthllabjbdobpgaaGreatDoor
