/-
  THE GIVEN STATEMENT 'CsvWritesUptoCardSaid' IS PROVED: whatever comes in, with the listed variables of bulk at most 1048576, the law says true, and writes nothing that was there; the variables that are listed are tied to the program's text. The bulk is the statement's own condition; no other.
-/
import Derived.Test.YtmiknjjfgndddaaDoorCso
import Derived.Test.YtmiknjjfgndddaaDoorCards
import Derived.Test.YtmiknjjfgndddaaDoorTie
set_option linter.all false
set_option maxRecDepth 100000
namespace Go.Proofs.YtmiknjjfgndddaaDoor.csvWrites
open Go.ChangeShapes Go.WideShapes Go.ChangeAt Go.RowKit Go.AM
theorem w_wf : Rows.csvWritesUptoRow.wfByText (Rows.OpenSpec.upto Rows.csvWritesSpec) = true:=by kernel_rfl
theorem zKM : Tryd.prog.mainIs = some (true, "f07138df605dd88917f6174e7057414845c4e2b2a52ddc3cfa827065bfad08ea".toList):=by kernel_rfl
theorem zJx : true = Tryd.prog.looks []:=by kernel_rfl
theorem zKN : false = Rows.csvWritesUptoRow.goesBy Tryd.prog:=by kernel_rfl
theorem w_fn : Tryd.prog.funcNamed "sccsettle/scclaw3.CsvWrites" = some 4:=by kernel_rfl
theorem w_t22 : Tryd.prog.wantsStandIn 22 = false:=by kernel_rfl
theorem proved : Rows.CsvWritesUptoCardSaid:=
 Claim7.holds_tied_plain_at .later [] [.data,.handle,.pinned] true (true, "f07138df605dd88917f6174e7057414845c4e2b2a52ddc3cfa827065bfad08ea") true
  over (fun _ h=>by cases h) w_wf (fun _ h=>by cases h) csvWritesUpto_row_tie rfl ⟨rfl,rfl⟩ zKM rfl
  (fun f fn hf hfn=>by
   obtain rfl : f = 4:=Option.some.inj (w_fn.symm.trans hf) |>.symm
   obtain rfl : fn = Tryd.f4:=(Option.some.inj (Tryd.func4.symm.trans hfn)).symm
   exact ⟨zJx,fun j t ht=>by
    rw [Tryd.params4] at ht
    have ht' : t ∈ [22]:=List.mem_of_getElem? (by simpa using ht)
    simp only [List.mem_cons,List.mem_nil_iff,or_false] at ht'
    rcases ht' with rfl
    ·exact w_t22⟩)
  zKN
#print axioms proved
end Go.Proofs.YtmiknjjfgndddaaDoor.csvWrites
