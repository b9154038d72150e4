/- The world that meets the rows' condition has the shape that the form asks. Own work. -/
import Derived.Test.YtcnogafgcfidnaaGreatDoorLdQ1
import Derived.Test.YtcnogafgcfidnaaGreatDoorGGcrArf
set_option linter.all false
set_option maxRecDepth 100000
namespace Go.Proofs.YtcnogafgcfidnaaGreatDoor
open Go.AM
theorem zF0 (os : Os) (args : Array Value) : ((zB8 os).forCall (fun _ _=>0) ⟨#[],args,[]⟩).Shaped Tryz.prog:=zHW (by kernel_rfl) (by kernel_rfl)
end Go.Proofs.YtcnogafgcfidnaaGreatDoor
