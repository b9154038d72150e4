/- The world that meets the rows' condition has the shape that the form asks. Own work. -/
import Derived.Test.YtmfmhljpddpfnaaGreatDoorLdQ1
import Derived.Test.YtmfmhljpddpfnaaGreatDoorGBe0Itd
set_option maxRecDepth 100000
set_option linter.all false
namespace Go.Proofs.YtmfmhljpddpfnaaGreatDoor
open Go.AM
theorem zNN (os:Os) (args:Array Value):((zGO os).forCall (fun _ _=>0) ⟨#[],args,[]⟩).Shaped Tryz.prog:=zPd (by kernel_rfl) (by kernel_rfl)
end Go.Proofs.YtmfmhljpddpfnaaGreatDoor
