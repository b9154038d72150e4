/-
  THE GIVEN STATEMENT 'PickCrossCardSaid' IS PROVED: whatever comes in, the law says true, and writes nothing that was there; the variables that are listed are tied to the program's text. No conditions.
-/
import Derived.Test.YtcnogafgcfidnaaGreatDoorCro
import Derived.Test.YtcnogafgcfidnaaGreatDoorCrk
import Derived.Test.YtcnogafgcfidnaaGreatDoorCards
import Derived.Test.YtcnogafgcfidnaaGreatDoorTie
set_option linter.all false
set_option maxRecDepth 100000
namespace Go.Proofs.YtcnogafgcfidnaaGreatDoor.pickCross
open Go.ChangeShapes Go.WideShapes Go.RowKit Go.AM
open Go.ChangeMaps (open_string shut_string)
theorem proved : Rows.PickCrossCardSaid:=
 Claim7.holds_tied_plain_at .later [] [.data,.data,.data,.data,.handle,.sentinel,.sentinel,.data,.pinned] true (true, "f2a9c24b2958ec60f1b1141839a4cbbdf261e6b13576574f030d76f18de87ef7") true
  over (fun _ h=>by cases h) w_wf (fun _ h=>by cases h) pickCross_row_tie rfl ⟨rfl,rfl⟩ zRW rfl
  (fun f fn hf hfn=>by
   obtain rfl : f = 3:=Option.some.inj (w_fn.symm.trans hf) |>.symm
   obtain rfl : fn = Tryz.f3:=(Option.some.inj (Tryz.func3.symm.trans hfn)).symm
   exact ⟨zQl,fun j t ht=>by
    rw [Tryz.params3] at ht
    have ht' : t ∈ [22,3,3,3]:=List.mem_of_getElem? (by simpa using ht)
    simp only [List.mem_cons,List.mem_nil_iff,or_false] at ht'
    rcases ht' with rfl | rfl | rfl | rfl
    ·exact w_t22
    ·exact w_t3
    ·exact w_t3
    ·exact w_t3⟩)
  zRX
#print axioms proved
end Go.Proofs.YtcnogafgcfidnaaGreatDoor.pickCross
