/- The abstract codes, checked against the program. -/
import Derived.Test.YtmiknjjfgndddaaDoorGAm22Fc
import Derived.Test.YtmiknjjfgndddaaDoorProg
set_option linter.all false
namespace Go.AM
open Go.Proofs
theorem zCI : zFa Tryd.prog zAm zAD = true:=by kernel_rfl
theorem zFw : zFa Tryd.prog zAS zBh = true:=by kernel_rfl
theorem zHE : zFa Tryd.prog zn zCH = true:=by kernel_rfl
theorem zDU : zFa Tryd.prog zAF zBS = true:=by kernel_rfl
theorem zAI : zFa Tryd.prog zH ze = true:=by kernel_rfl
theorem z8 : zFa Tryd.prog zJ zZ = true:=by kernel_rfl
theorem zAp : zFa Tryd.prog zP zw = true:=by kernel_rfl
theorem zHF : zFa Tryd.prog zAC zDu = true:=by kernel_rfl
theorem zBj : zFa Tryd.prog zf zAT = true:=by kernel_rfl
theorem zA0 : zFa Tryd.prog zR zz = true:=by kernel_rfl
end Go.AM
