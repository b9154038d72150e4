/-
  THE GIVEN STATEMENT 'FillDownCardSaid' IS PROVED: whatever comes in, the law says true, and writes nothing that was there; the variables that are listed are tied to the program's text. No conditions.
-/
import Derived.Test.YtmfmhljpddpfnaaGreatDoorFdo
import Derived.Test.YtmfmhljpddpfnaaGreatDoorFdk
import Derived.Test.YtmfmhljpddpfnaaGreatDoorCards
import Derived.Test.YtmfmhljpddpfnaaGreatDoorTie
set_option maxRecDepth 100000
set_option linter.all false
namespace Go.Proofs.YtmfmhljpddpfnaaGreatDoor.fillDown
open Go.ChangeShapes Go.WideShapes Go.RowKit Go.AM
open Go.ChangeMaps (open_string shut_string)
theorem proved:Rows.FillDownCardSaid:=
 Claim7.holds_tied_plain_at .later [] [.data,.data,.data,.data,.handle,.sentinel,.sentinel,.data,.data,.pinned] true (true, "9bcb9b90110dd2a8726f96474d49bf9f30a5645a20cc06ad8ff5660602d5f1a7") true
  over (fun _ h=>by cases h) w_wf (fun _ h=>by cases h) fillDown_row_tie rfl ⟨rfl,rfl⟩ zlG rfl
  (fun f fn hf hfn=>by
   obtain rfl:f=4:=zoh (w_fn.symm.trans hf) |>.symm
   obtain rfl:fn=Tryz.f4:=(zoh (Tryz.func4.symm.trans hfn)).symm;exact ⟨zis,fun j t ht=>by
    rw [Tryz.params4] at ht;have ht':t∈[22,26]:=zoc (by simpa using ht);simp only [zmG,List.mem_nil_iff,or_false] at ht';rcases ht' with rfl|rfl
    ·exact zlp
    ·exact zlq⟩)
  zlH
#print axioms proved
end Go.Proofs.YtmfmhljpddpfnaaGreatDoor.fillDown
