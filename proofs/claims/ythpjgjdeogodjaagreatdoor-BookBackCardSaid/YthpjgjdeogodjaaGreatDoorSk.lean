/- The abstract codes, checked against the program. -/
import Derived.Test.YthpjgjdeogodjaaGreatDoorSc
import Derived.Test.YthpjgjdeogodjaaGreatDoorProg
set_option linter.all false
namespace Go.AM
open Go.Proofs
theorem zGM : z7 Tryz.prog zC8 zDA = true:=by kernel_rfl
theorem k_book_Open : z7 Tryz.prog zAv zIc = true:=by kernel_rfl
theorem zHm : z7 Tryz.prog zAo zEH = true:=by kernel_rfl
theorem k_book_Pack : z7 Tryz.prog zDz zId = true:=by kernel_rfl
theorem k_book_Entry : z7 Tryz.prog zCO zHL = true:=by kernel_rfl
theorem k_scclaw4_cell : z7 Tryz.prog zCK zFK = true:=by kernel_rfl
theorem k_book_Write : z7 Tryz.prog zBC zHM = true:=by kernel_rfl
theorem k_graph_Check : z7 Tryz.prog zB0 zGD = true:=by kernel_rfl
theorem k_book_sum : z7 Tryz.prog zCH a_book_sum = true:=by kernel_rfl
theorem k_sheet_May : z7 Tryz.prog zBE zIh = true:=by kernel_rfl
theorem k_sheet_With : z7 Tryz.prog zC9 zHN = true:=by kernel_rfl
theorem k_book_entry : z7 Tryz.prog zBu zHO = true:=by kernel_rfl
theorem k_addr_Check : z7 Tryz.prog zAs zHP = true:=by kernel_rfl
theorem k_addr_Less : z7 Tryz.prog zD0 zIi = true:=by kernel_rfl
theorem k_graph_Text : z7 Tryz.prog zAg zHQ = true:=by kernel_rfl
theorem zAS : z7 Tryz.prog zS zk = true:=by kernel_rfl
theorem zIx : z7 Tryz.prog zAW zEn = true:=by kernel_rfl
theorem k_addr_Compare : z7 Tryz.prog zBK zFL = true:=by kernel_rfl
theorem zAT : z7 Tryz.prog zM zu = true:=by kernel_rfl
theorem k_addr_ok : z7 Tryz.prog zF9 a_addr_ok = true:=by kernel_rfl
theorem zGN : z7 Tryz.prog zAF zB7 = true:=by kernel_rfl
theorem zIy : z7 Tryz.prog zAX zAj = true:=by kernel_rfl
theorem k_cmp_Or_int_ : z7 Tryz.prog zCe zGH = true:=by kernel_rfl
theorem zGO : z7 Tryz.prog zAt zDB = true:=by kernel_rfl
theorem zFh : z7 Tryz.prog zx zBr = true:=by kernel_rfl
theorem zGP : z7 Tryz.prog zt zB9 = true:=by kernel_rfl
theorem zET : z7 Tryz.prog zK zBM = true:=by kernel_rfl
theorem zEp : z7 Tryz.prog zR zAu = true:=by kernel_rfl
theorem zDj : z7 Tryz.prog zL zA3 = true:=by kernel_rfl
theorem zHn : z7 Tryz.prog zBJ zEI = true:=by kernel_rfl
theorem zD9 : z7 Tryz.prog zn zBH = true:=by kernel_rfl
theorem zEq : z7 Tryz.prog zm zBc = true:=by kernel_rfl
theorem k_formula_opOf : z7 Tryz.prog zBL zDM = true:=by kernel_rfl
theorem zDk : z7 Tryz.prog zV zA4 = true:=by kernel_rfl
theorem zDl : z7 Tryz.prog zAC zA5 = true:=by kernel_rfl
theorem zEU : z7 Tryz.prog zAO za = true:=by kernel_rfl
theorem zDR : z7 Tryz.prog zp zAx = true:=by kernel_rfl
theorem zEV : z7 Tryz.prog zZ zBN = true:=by kernel_rfl
theorem zEW : z7 Tryz.prog zAP zBO = true:=by kernel_rfl
theorem zIz : z7 Tryz.prog zo zCp = true:=by kernel_rfl
theorem zHo : z7 Tryz.prog zy zBn = true:=by kernel_rfl
theorem zEX : z7 Tryz.prog zY zBP = true:=by kernel_rfl
theorem zHp : z7 Tryz.prog zAp zCY = true:=by kernel_rfl
theorem zDS : z7 Tryz.prog zh zAy = true:=by kernel_rfl
theorem zEY : z7 Tryz.prog zAk zAl = true:=by kernel_rfl
theorem zI0 : z7 Tryz.prog z8 zCq = true:=by kernel_rfl
theorem k_value_Is : z7 Tryz.prog zBv zG2 = true:=by kernel_rfl
theorem k_value_Wrong : z7 Tryz.prog zB3 zD5 = true:=by kernel_rfl
theorem k_strings_Trim : z7 Tryz.prog zAw zDP = true:=by kernel_rfl
theorem zC2 : z7 Tryz.prog zAN zAm = true:=by kernel_rfl
theorem k_value_Whole : z7 Tryz.prog zBG zD6 = true:=by kernel_rfl
theorem k_addr_Ref : z7 Tryz.prog zAZ zG3 = true:=by kernel_rfl
theorem zEZ : z7 Tryz.prog zAQ zBQ = true:=by kernel_rfl
theorem zEA : z7 Tryz.prog zAI zBI = true:=by kernel_rfl
theorem zDm : z7 Tryz.prog zAD zA6 = true:=by kernel_rfl
theorem zFA : z7 Tryz.prog zAL zBi = true:=by kernel_rfl
theorem k_addr_Ref_c1 : z7 Tryz.prog zB4 zD8 = true:=by kernel_rfl
theorem zCR : z7 Tryz.prog zX zAY = true:=by kernel_rfl
theorem zDn : z7 Tryz.prog zAE zA7 = true:=by kernel_rfl
end Go.AM
