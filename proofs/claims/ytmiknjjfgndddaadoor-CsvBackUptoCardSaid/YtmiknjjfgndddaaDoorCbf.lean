/-
  THE GIVEN STATEMENT 'CsvBackUptoCardSaid' IS PROVED: whatever comes in, with the listed variables of bulk at most 1048576, the law says true, and writes nothing that was there; the variables that are listed are tied to the program's text. The bulk is the statement's own condition; no other.
-/
import Derived.Test.YtmiknjjfgndddaaDoorCbo
import Derived.Test.YtmiknjjfgndddaaDoorCards
import Derived.Test.YtmiknjjfgndddaaDoorTie
set_option linter.all false
set_option maxRecDepth 100000
namespace Go.Proofs.YtmiknjjfgndddaaDoor.csvBack
open Go.ChangeShapes Go.WideShapes Go.ChangeAt Go.RowKit Go.AM
theorem w_wf : Rows.csvBackUptoRow.wfByText (Rows.OpenSpec.upto Rows.csvBackSpec) = true:=by kernel_rfl
theorem zK0 : Tryd.prog.mainIs = some (true, "f07138df605dd88917f6174e7057414845c4e2b2a52ddc3cfa827065bfad08ea".toList):=by kernel_rfl
theorem zKV : true = Tryd.prog.looks []:=by kernel_rfl
theorem zK1 : false = Rows.csvBackUptoRow.goesBy Tryd.prog:=by kernel_rfl
theorem w_fn : Tryd.prog.funcNamed "sccsettle/scclaw4.CsvBack" = some 3:=by kernel_rfl
theorem w_t22 : Tryd.prog.wantsStandIn 22 = false:=by kernel_rfl
theorem w_t9 : Tryd.prog.wantsStandIn 9 = false:=by kernel_rfl
theorem proved : Rows.CsvBackUptoCardSaid:=
 Claim7.holds_tied_plain_at .later [] [.data,.pinned] true (true, "f07138df605dd88917f6174e7057414845c4e2b2a52ddc3cfa827065bfad08ea") true
  over (fun _ h=>by cases h) w_wf (fun _ h=>by cases h) csvBackUpto_row_tie rfl ⟨rfl,rfl⟩ zK0 rfl
  (fun f fn hf hfn=>by
   obtain rfl : f = 3:=Option.some.inj (w_fn.symm.trans hf) |>.symm
   obtain rfl : fn = Tryd.f3:=(Option.some.inj (Tryd.func3.symm.trans hfn)).symm
   exact ⟨zKV,fun j t ht=>by
    rw [Tryd.params3] at ht
    have ht' : t ∈ [22,9]:=List.mem_of_getElem? (by simpa using ht)
    simp only [List.mem_cons,List.mem_nil_iff,or_false] at ht'
    rcases ht' with rfl | rfl
    ·exact w_t22
    ·exact w_t9⟩)
  zK1
#print axioms proved
end Go.Proofs.YtmiknjjfgndddaaDoor.csvBack
