/-
  THE GIVEN STATEMENT 'FindReplacesCardSaid' IS PROVED: whatever the sheet, both texts and the flag, the law says true, and writes nothing that was there; the variables that are listed are tied to the program's text. No conditions.
-/
import Derived.Test.YtaohficjbicfgaaGreatDoorFro
import Derived.Test.YtaohficjbicfgaaGreatDoorFrk
import Derived.Test.YtaohficjbicfgaaGreatDoorCards
import Derived.Test.YtaohficjbicfgaaGreatDoorTie
set_option linter.all false
set_option maxRecDepth 100000
namespace Go.Proofs.YtaohficjbicfgaaGreatDoor.findReplaces
open Go.ChangeShapes Go.WideShapes Go.RowKit Go.AM
open Go.ChangeMaps (open_string shut_string)
theorem proved : Rows.FindReplacesCardSaid:=
 Claim7.holds_tied_plain_at .later [] [.data,.data,.data,.data,.handle,.sentinel,.sentinel,.data,.data,.pinned] true (true, "7c30096ef0070b70fd99b0b5d4534e146623e9c189b6f2fd726d186e40137e79") true
  over (fun _ h=>by cases h) w_wf (fun _ h=>by cases h) findReplaces_row_tie rfl ⟨rfl,rfl⟩ w_main rfl
  (fun f fn hf hfn=>by
   obtain rfl : f = 5:=Option.some.inj (w_fn.symm.trans hf) |>.symm
   obtain rfl : fn = Tryz.f5:=(Option.some.inj (Tryz.func5.symm.trans hfn)).symm
   exact ⟨w_looks,fun j t ht=>by
    rw [Tryz.params5] at ht
    have ht' : t ∈ [26,9,9,4]:=List.mem_of_getElem? (by simpa using ht)
    simp only [List.mem_cons,List.mem_nil_iff,or_false] at ht'
    rcases ht' with rfl | rfl | rfl | rfl
    ·exact w_t26
    ·exact w_t9
    ·exact w_t9
    ·exact w_t4⟩)
  w_goes
#print axioms proved
end Go.Proofs.YtaohficjbicfgaaGreatDoor.findReplaces
