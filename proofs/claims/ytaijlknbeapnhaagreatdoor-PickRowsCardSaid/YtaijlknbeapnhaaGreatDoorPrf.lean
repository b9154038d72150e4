/-
  THE GIVEN STATEMENT 'PickRowsCardSaid' IS PROVED: whatever the table and the wants, the law says true, and writes nothing that was there; the variables that are listed are tied to the program's text. No conditions.
-/
import Derived.Test.YtaijlknbeapnhaaGreatDoorPro
import Derived.Test.YtaijlknbeapnhaaGreatDoorPrk
import Derived.Test.YtaijlknbeapnhaaGreatDoorCards
import Derived.Test.YtaijlknbeapnhaaGreatDoorTie
set_option linter.all false
set_option maxRecDepth 100000
namespace Go.Proofs.YtaijlknbeapnhaaGreatDoor.pickRows
open Go.ChangeShapes Go.WideShapes Go.RowKit Go.AM
open Go.ChangeMaps (open_string shut_string)

/-- The given statement: the tied card. -/
theorem proved : Rows.PickRowsCardSaid :=
  Claim7.holds_tied_plain_at .later [] [.data, .data, .data, .data, .handle, .sentinel, .sentinel, .data, .pinned] true (true, "3a11758a5fbf62c0acd3b5e4f3af94a5a19598c903aba61e4691aef00b31358e") true
    over (fun _ h => by cases h) w_wf (fun _ h => by cases h) pickRows_row_tie rfl ⟨rfl, rfl⟩ w_main rfl
    (fun f fn hf hfn => by
      obtain rfl : f = 4 := Option.some.inj (w_fn.symm.trans hf) |>.symm
      obtain rfl : fn = Tryz.f4 := (Option.some.inj (Tryz.func4.symm.trans hfn)).symm
      exact ⟨w_looks, fun j t ht => by
        rw [Tryz.params4] at ht
        have ht' : t ∈ [38, 39] := List.mem_of_getElem? (by simpa using ht)
        simp only [List.mem_cons, List.mem_nil_iff, or_false] at ht'
        rcases ht' with rfl | rfl
        · exact w_t38
        · exact w_t39⟩)
    w_goes
#print axioms proved

end Go.Proofs.YtaijlknbeapnhaaGreatDoor.pickRows
