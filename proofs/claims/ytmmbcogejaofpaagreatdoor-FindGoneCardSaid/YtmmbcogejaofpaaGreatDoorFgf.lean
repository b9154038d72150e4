/-
  THE GIVEN STATEMENT 'FindGoneCardSaid' IS PROVED: whatever sheet, byte and text come in, the law says true, and writes nothing that was there; the variables that are listed are tied to the program's text. No conditions.
-/
import Derived.Test.YtmmbcogejaofpaaGreatDoorGFglFgk
import Derived.Test.YtmmbcogejaofpaaGreatDoorCards
import Derived.Test.YtmmbcogejaofpaaGreatDoorTie
set_option linter.all false
set_option maxRecDepth 100000
namespace Go.Proofs.YtmmbcogejaofpaaGreatDoor.findGone
open Go.ChangeShapes Go.WideShapes Go.RowKit Go.AM
open Go.ChangeMaps (open_string shut_string)
theorem proved : Rows.FindGoneCardSaid:=
 Claim7.holds_tied_plain_at .later [] [.data,.data,.data,.data,.sentinel,.sentinel,.data,.data,.pinned] true (true, "e64b774697b7235d56ce54bc7dfeb99de01b9efc1c7c4e87b3ef142d4525ef08") true
  over (fun _ h=>by cases h) w_wf (fun _ h=>by cases h) findGone_row_tie rfl ⟨rfl,rfl⟩ w_main rfl
  (fun f fn hf hfn=>by
   obtain rfl : f = 5:=Option.some.inj (w_fn.symm.trans hf) |>.symm
   obtain rfl : fn = Tryz.f5:=(Option.some.inj (Tryz.func5.symm.trans hfn)).symm
   exact ⟨w_looks,fun j t ht=>by
    rw [Tryz.params5] at ht
    have ht' : t ∈ [22,5,9]:=List.mem_of_getElem? (by simpa using ht)
    simp only [List.mem_cons,List.mem_nil_iff,or_false] at ht'
    rcases ht' with rfl | rfl | rfl
    ·exact w_t22
    ·exact w_t5
    ·exact w_t9⟩)
  w_goes
#print axioms proved
end Go.Proofs.YtmmbcogejaofpaaGreatDoor.findGone
