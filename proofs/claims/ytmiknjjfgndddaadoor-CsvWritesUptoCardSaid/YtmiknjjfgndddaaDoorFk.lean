/- The abstract codes, checked against the program. -/
import Derived.Test.YtmiknjjfgndddaaDoorGAm22Err
import Derived.Test.YtmiknjjfgndddaaDoorProg
set_option linter.all false
namespace Go.AM
open Go.Proofs
theorem zBo : zF9 Tryd.prog zAZ zAa = true:=by kernel_rfl
theorem zFp : zF9 Tryd.prog zBk zBn = true:=by kernel_rfl
theorem zEV : zF9 Tryd.prog zA4 zA5 = true:=by kernel_rfl
theorem zBM : zF9 Tryd.prog zo zBK = true:=by kernel_rfl
theorem zAO : zF9 Tryd.prog zI zr = true:=by kernel_rfl
theorem zAH : zF9 Tryd.prog zP zl = true:=by kernel_rfl
theorem zAu : zF9 Tryd.prog zY zAC = true:=by kernel_rfl
theorem zCT : zF9 Tryd.prog zAB zBL = true:=by kernel_rfl
end Go.AM
