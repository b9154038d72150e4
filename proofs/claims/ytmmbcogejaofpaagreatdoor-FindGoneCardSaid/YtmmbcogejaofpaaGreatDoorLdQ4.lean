/- The world that meets the rows' condition has the shape that the form asks. Own work. -/
import Derived.Test.YtmmbcogejaofpaaGreatDoorLdQ1
import Derived.Test.YtmmbcogejaofpaaGreatDoorGDlgArf
set_option linter.all false
set_option maxRecDepth 100000
namespace Go.Proofs.YtmmbcogejaofpaaGreatDoor
open Go.AM
theorem zG0 (os : Os) (args : Array Value) : ((zCi os).forCall (fun _ _=>0) ⟨#[],args,[]⟩).Shaped Tryz.prog:=shaped_of_refB (by kernel_rfl) (by kernel_rfl)
end Go.Proofs.YtmmbcogejaofpaaGreatDoor
