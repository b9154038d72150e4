/-
  THE GIVEN STATEMENT 'FormatSignsCardSaid' IS PROVED: whatever number, noughts and truth come in, the law says true, and writes nothing that was there; the variables that are listed are tied to the program's text. No conditions.
-/
import Derived.Test.YtgcggndacnmhfaaDoorSio
import Derived.Test.YtgcggndacnmhfaaDoorSik
import Derived.Test.YtgcggndacnmhfaaDoorCards
import Derived.Test.YtgcggndacnmhfaaDoorTie
set_option linter.all false
set_option maxRecDepth 100000
namespace Go.Proofs.YtgcggndacnmhfaaDoor.formatSigns
open Go.ChangeShapes Go.WideShapes Go.RowKit Go.AM
open Go.ChangeMaps (open_string shut_string)
theorem proved : Rows.FormatSignsCardSaid:=
 Claim7.holds_tied_plain_at .later [] [.data,.data,.data,.data,.sentinel,.sentinel,.data,.pinned] true (true, "aeeb58d4f50c845ecdc8ce842a7bfd9621b9588598ad8bb603e1fe0dbec62f9d") true
  over (fun _ h=>by cases h) w_wf (fun _ h=>by cases h) formatSigns_row_tie rfl ⟨rfl,rfl⟩ zMB rfl
  (fun f fn hf hfn=>by
   obtain rfl : f = 3:=Option.some.inj (w_fn.symm.trans hf) |>.symm
   obtain rfl : fn = Tryd.f3:=(Option.some.inj (Tryd.func3.symm.trans hfn)).symm
   exact ⟨zLc,fun j t ht=>by
    rw [Tryd.params3] at ht
    have ht' : t ∈ [3,3,4]:=List.mem_of_getElem? (by simpa using ht)
    simp only [List.mem_cons,List.mem_nil_iff,or_false] at ht'
    rcases ht' with rfl | rfl | rfl
    ·exact w_t3
    ·exact w_t3
    ·exact w_t4⟩)
  zMC
#print axioms proved
end Go.Proofs.YtgcggndacnmhfaaDoor.formatSigns
