/-
  THE GIVEN STATEMENT 'PickGroupsCardSaid' IS PROVED: whatever the table, the columns and the column, the law says true, and writes nothing that was there; the variables that are listed are tied to the program's text. No conditions.
-/
import Derived.Test.YtaijlknbeapnhaaGreatDoorPgo
import Derived.Test.YtaijlknbeapnhaaGreatDoorPgk
import Derived.Test.YtaijlknbeapnhaaGreatDoorCards
import Derived.Test.YtaijlknbeapnhaaGreatDoorTie
set_option linter.all false
set_option maxRecDepth 100000
namespace Go.Proofs.YtaijlknbeapnhaaGreatDoor.pickGroups
open Go.ChangeShapes Go.WideShapes Go.RowKit Go.AM
open Go.ChangeMaps (open_string shut_string)

/-- The given statement: the tied card. -/
theorem proved : Rows.PickGroupsCardSaid :=
  Claim7.holds_tied_plain_at .later [] [.data, .data, .data, .data, .handle, .sentinel, .sentinel, .data, .pinned] true (true, "3a11758a5fbf62c0acd3b5e4f3af94a5a19598c903aba61e4691aef00b31358e") true
    over (fun _ h => by cases h) w_wf (fun _ h => by cases h) pickGroups_row_tie rfl ⟨rfl, rfl⟩ w_main rfl
    (fun f fn hf hfn => by
      obtain rfl : f = 9 := Option.some.inj (w_fn.symm.trans hf) |>.symm
      obtain rfl : fn = Tryz.f9 := (Option.some.inj (Tryz.func9.symm.trans hfn)).symm
      exact ⟨w_looks, fun j t ht => by
        rw [Tryz.params9] at ht
        have ht' : t ∈ [38, 41, 3] := List.mem_of_getElem? (by simpa using ht)
        simp only [List.mem_cons, List.mem_nil_iff, or_false] at ht'
        rcases ht' with rfl | rfl | rfl
        · exact w_t38
        · exact w_t41
        · exact w_t3⟩)
    w_goes
#print axioms proved

end Go.Proofs.YtaijlknbeapnhaaGreatDoor.pickGroups
