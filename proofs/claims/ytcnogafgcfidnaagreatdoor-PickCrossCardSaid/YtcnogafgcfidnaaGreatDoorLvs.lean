/- What is laid as a text, as a slice of texts, as an array of either. Own work. -/
import Derived.Test.YtcnogafgcfidnaaGreatDoorGHgcAm33
set_option linter.all false
set_option maxRecDepth 20000
namespace Go.AM
open Go Go.RowKit
section
variable {H : Type} {enc : TypeId × Value → H} {P : Program} {w : World} {held : Bool}
end
end Go.AM
