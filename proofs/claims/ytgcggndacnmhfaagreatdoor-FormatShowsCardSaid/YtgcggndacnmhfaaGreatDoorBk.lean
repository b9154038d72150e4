/- The abstract codes, checked against the program. -/
import Derived.Test.YtgcggndacnmhfaaGreatDoorGAm23Bc
import Derived.Test.YtgcggndacnmhfaaGreatDoorProg
set_option linter.all false
namespace Go.AM
open Go.Proofs
theorem zAO : zCp Tryz.prog zA2 zz = true:=by kernel_rfl
theorem zG5 : zCp Tryz.prog zAM zDw = true:=by kernel_rfl
theorem zFC : zCp Tryz.prog zAY zp = true:=by kernel_rfl
theorem zFD : zCp Tryz.prog zAy zCr = true:=by kernel_rfl
theorem zFE : zCp Tryz.prog zAz zBd = true:=by kernel_rfl
theorem zFF : zCp Tryz.prog zAZ zCt = true:=by kernel_rfl
theorem zCW : zCp Tryz.prog zw zCO = true:=by kernel_rfl
theorem zB3 : zCp Tryz.prog zAT zAV = true:=by kernel_rfl
theorem zD7 : zCp Tryz.prog zAa zB9 = true:=by kernel_rfl
theorem zD8 : zCp Tryz.prog zAb zCA = true:=by kernel_rfl
theorem zBr : zCp Tryz.prog zh zAk = true:=by kernel_rfl
theorem zB4 : zCp Tryz.prog zl zAr = true:=by kernel_rfl
theorem zAX : zCp Tryz.prog zN zy = true:=by kernel_rfl
theorem zGF : zCp Tryz.prog zAU zBA = true:=by kernel_rfl
theorem zDy : zCp Tryz.prog zAj zCR = true:=by kernel_rfl
theorem zG6 : zCp Tryz.prog zBU zDx = true:=by kernel_rfl
theorem zBC : zCp Tryz.prog zX zAJ = true:=by kernel_rfl
theorem zAm : zCp Tryz.prog zL zAB = true:=by kernel_rfl
theorem zBM : zCp Tryz.prog zR zAg = true:=by kernel_rfl
theorem zAn : zCp Tryz.prog zW zi = true:=by kernel_rfl
theorem zEz : zCp Tryz.prog zAq zCS = true:=by kernel_rfl
theorem zC9 : zCp Tryz.prog zAE zBJ = true:=by kernel_rfl
theorem zFG : zCp Tryz.prog zA0 zCu = true:=by kernel_rfl
theorem zCg : zCp Tryz.prog z8 zA4 = true:=by kernel_rfl
theorem zCh : zCp Tryz.prog zAA zA5 = true:=by kernel_rfl
theorem zB5 : zCp Tryz.prog zm zAs = true:=by kernel_rfl
theorem zB6 : zCp Tryz.prog zn zAt = true:=by kernel_rfl
theorem zDA : zCp Tryz.prog zb zBK = true:=by kernel_rfl
end Go.AM
