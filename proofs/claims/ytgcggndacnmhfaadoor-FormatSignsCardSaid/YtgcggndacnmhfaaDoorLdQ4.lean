/- The world that meets the rows' condition has the shape that the form asks. Own work. -/
import Derived.Test.YtgcggndacnmhfaaDoorLdQ1
import Derived.Test.YtgcggndacnmhfaaDoorGAtpArf
set_option linter.all false
set_option maxRecDepth 100000
namespace Go.Proofs.YtgcggndacnmhfaaDoor
open Go.AM
theorem zDJ (os : Os) (args : Array Value) : ((zAt os).forCall (fun _ _=>0) ⟨#[],args,[]⟩).Shaped Tryd.prog:=zEO (by kernel_rfl) (by kernel_rfl)
end Go.Proofs.YtgcggndacnmhfaaDoor
