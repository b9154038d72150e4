/- The abstract codes, checked against the program. -/
import Derived.Test.YtgcggndacnmhfaaDoorGAm22Cc
import Derived.Test.YtgcggndacnmhfaaDoorProg
set_option linter.all false
namespace Go.AM
open Go.Proofs
theorem zBs : zEB Tryd.prog zAb zT = true:=by kernel_rfl
theorem zFK : zEB Tryd.prog zf zAl = true:=by kernel_rfl
theorem zFL : zEB Tryd.prog zW zCi = true:=by kernel_rfl
theorem zGB : zEB Tryd.prog zx zDC = true:=by kernel_rfl
theorem zFM : zEB Tryd.prog zAi zAm = true:=by kernel_rfl
theorem zFN : zEB Tryd.prog zAj zCj = true:=by kernel_rfl
theorem zGl : zEB Tryd.prog zBQ zD0 = true:=by kernel_rfl
theorem zD2 : zEB Tryd.prog zAN zBr = true:=by kernel_rfl
theorem zCK : zEB Tryd.prog zq zAs = true:=by kernel_rfl
theorem zEJ : zEB Tryd.prog zAX zB4 = true:=by kernel_rfl
theorem zBy : zEB Tryd.prog zm zAf = true:=by kernel_rfl
theorem zEK : zEB Tryd.prog zAY zB5 = true:=by kernel_rfl
theorem zBZ : zEB Tryd.prog zX zAO = true:=by kernel_rfl
theorem zBa : zEB Tryd.prog zM zAP = true:=by kernel_rfl
theorem zBK : zEB Tryd.prog zU zAF = true:=by kernel_rfl
theorem zBh : zEB Tryd.prog zd zAT = true:=by kernel_rfl
theorem zBb : zEB Tryd.prog zY zAQ = true:=by kernel_rfl
theorem zBL : zEB Tryd.prog zV zAG = true:=by kernel_rfl
theorem zAd : zEB Tryd.prog zD zp = true:=by kernel_rfl
end Go.AM
