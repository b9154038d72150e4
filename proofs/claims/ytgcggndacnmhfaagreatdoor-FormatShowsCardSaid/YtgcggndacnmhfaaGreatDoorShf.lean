/-
  THE GIVEN STATEMENT 'FormatShowsCardSaid' IS PROVED: whatever value and code come in, the law says true, and writes nothing that was there; the variables that are listed are tied to the program's text. No conditions.
-/
import Derived.Test.YtgcggndacnmhfaaGreatDoorSho
import Derived.Test.YtgcggndacnmhfaaGreatDoorShk
import Derived.Test.YtgcggndacnmhfaaGreatDoorCards
import Derived.Test.YtgcggndacnmhfaaGreatDoorTie
set_option linter.all false
set_option maxRecDepth 100000
namespace Go.Proofs.YtgcggndacnmhfaaGreatDoor.formatShows
open Go.ChangeShapes Go.WideShapes Go.RowKit Go.AM
open Go.ChangeMaps (open_string shut_string)
theorem proved : Rows.FormatShowsCardSaid:=
 Claim7.holds_tied_plain_at .later [] [.data,.data,.data,.data,.handle,.data,.pinned] true (true, "9e9a2a74ad1fab881b07a53aeb6354c4cc91bce3f0b5868c11e28a3524e8c4d1") true
  over (fun _ h=>by cases h) w_wf (fun _ h=>by cases h) formatShows_row_tie rfl ⟨rfl,rfl⟩ zNu rfl
  (fun f fn hf hfn=>by
   obtain rfl : f = 3:=Option.some.inj (w_fn.symm.trans hf) |>.symm
   obtain rfl : fn = Tryz.f3:=(Option.some.inj (Tryz.func3.symm.trans hfn)).symm
   exact ⟨zM9,fun j t ht=>by
    rw [Tryz.params3] at ht
    have ht' : t ∈ [23,9]:=List.mem_of_getElem? (by simpa using ht)
    simp only [List.mem_cons,List.mem_nil_iff,or_false] at ht'
    rcases ht' with rfl | rfl
    ·exact w_t23
    ·exact w_t9⟩)
  zNv
#print axioms proved
end Go.Proofs.YtgcggndacnmhfaaGreatDoor.formatShows
