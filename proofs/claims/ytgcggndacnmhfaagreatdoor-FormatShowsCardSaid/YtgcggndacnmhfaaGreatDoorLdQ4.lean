/- The world that meets the rows' condition has the shape that the form asks. Own work. -/
import Derived.Test.YtgcggndacnmhfaaGreatDoorLdQ1
import Derived.Test.YtgcggndacnmhfaaGreatDoorGAm26Arf
set_option linter.all false
set_option maxRecDepth 100000
namespace Go.Proofs.YtgcggndacnmhfaaGreatDoor
open Go.AM
theorem zEB (os : Os) (args : Array Value) : ((zBN os).forCall (fun _ _=>0) ⟨#[],args,[]⟩).Shaped Tryz.prog:=zFJ (by kernel_rfl) (by kernel_rfl)
end Go.Proofs.YtgcggndacnmhfaaGreatDoor
