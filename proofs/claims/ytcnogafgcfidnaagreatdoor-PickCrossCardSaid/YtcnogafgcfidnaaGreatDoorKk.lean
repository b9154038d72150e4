/- The abstract codes, checked against the program. -/
import Derived.Test.YtcnogafgcfidnaaGreatDoorGRtwErr
import Derived.Test.YtcnogafgcfidnaaGreatDoorProg
set_option linter.all false
namespace Go.AM
open Go.Proofs
theorem zEK : zBM Tryz.prog zBy zB0 = true:=by kernel_rfl
theorem zFO : zBM Tryz.prog zAo zCc = true:=by kernel_rfl
theorem zGw : zBM Tryz.prog zAf zDQ = true:=by kernel_rfl
theorem zJr : zBM Tryz.prog zCE zFb = true:=by kernel_rfl
theorem zGx : zBM Tryz.prog zAL zDR = true:=by kernel_rfl
theorem zFw : zBM Tryz.prog zr zC6 = true:=by kernel_rfl
theorem zEx : zBM Tryz.prog zAQ zCu = true:=by kernel_rfl
theorem zGy : zBM Tryz.prog zBC zDS = true:=by kernel_rfl
theorem zFx : zBM Tryz.prog zA2 zC7 = true:=by kernel_rfl
theorem zHP : zBM Tryz.prog zBR zDw = true:=by kernel_rfl
theorem zHQ : zBM Tryz.prog zBS zDx = true:=by kernel_rfl
theorem zJs : zBM Tryz.prog zBa zFc = true:=by kernel_rfl
theorem zMQ : zBM Tryz.prog zDg zHw = true:=by kernel_rfl
theorem zFk : zBM Tryz.prog zA6 zDT = true:=by kernel_rfl
theorem zIq : zBM Tryz.prog zBD zEe = true:=by kernel_rfl
theorem zJt : zBM Tryz.prog zCF zFd = true:=by kernel_rfl
theorem zDa : zBM Tryz.prog zBE zB1 = true:=by kernel_rfl
theorem zJu : zBM Tryz.prog zCG zFe = true:=by kernel_rfl
theorem zIr : zBM Tryz.prog zBj zEf = true:=by kernel_rfl
theorem zq : zBM Tryz.prog zO zW = true:=by kernel_rfl
theorem zMR : zBM Tryz.prog zDh zHx = true:=by kernel_rfl
theorem zIs : zBM Tryz.prog zx zEg = true:=by kernel_rfl
theorem zIt : zBM Tryz.prog zBk zEh = true:=by kernel_rfl
theorem zFP : zBM Tryz.prog z6 zCd = true:=by kernel_rfl
theorem zIu : zBM Tryz.prog zBl zEi = true:=by kernel_rfl
theorem zKf : zBM Tryz.prog zt zGp = true:=by kernel_rfl
theorem zKg : zBM Tryz.prog zCq zGq = true:=by kernel_rfl
theorem zIv : zBM Tryz.prog zAD zEj = true:=by kernel_rfl
theorem zFy : zBM Tryz.prog zAT zC8 = true:=by kernel_rfl
theorem zFz : zBM Tryz.prog zA3 zC9 = true:=by kernel_rfl
theorem zHR : zBM Tryz.prog zAw zDy = true:=by kernel_rfl
theorem zIw : zBM Tryz.prog zAE zEk = true:=by kernel_rfl
theorem zHS : zBM Tryz.prog zAx zDz = true:=by kernel_rfl
theorem zIx : zBM Tryz.prog zBG zEl = true:=by kernel_rfl
theorem zHT : zBM Tryz.prog zBT zD0 = true:=by kernel_rfl
theorem zC1 : zBM Tryz.prog zy zBH = true:=by kernel_rfl
theorem zHU : zBM Tryz.prog zBU zD1 = true:=by kernel_rfl
theorem zCS : zBM Tryz.prog zm zAy = true:=by kernel_rfl
theorem zBq : zBM Tryz.prog zc zAd = true:=by kernel_rfl
theorem zCk : zBM Tryz.prog zV zA7 = true:=by kernel_rfl
theorem zEy : zBM Tryz.prog zAZ zCH = true:=by kernel_rfl
theorem zB7 : zBM Tryz.prog ze zAh = true:=by kernel_rfl
theorem zCA : zBM Tryz.prog zj zAt = true:=by kernel_rfl
theorem zDp : zBM Tryz.prog zAJ zBg = true:=by kernel_rfl
theorem zEz : zBM Tryz.prog zAa zBI = true:=by kernel_rfl
theorem zE0 : zBM Tryz.prog zAb zCJ = true:=by kernel_rfl
theorem zE1 : zBM Tryz.prog zAF zCK = true:=by kernel_rfl
theorem zEL : zBM Tryz.prog za zB3 = true:=by kernel_rfl
theorem zDb : zBM Tryz.prog zAG zBb = true:=by kernel_rfl
theorem zA1 : zBM Tryz.prog zQ z1 = true:=by kernel_rfl
theorem zE2 : zBM Tryz.prog zAc zCL = true:=by kernel_rfl
end Go.AM
