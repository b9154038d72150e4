/- Cells that are written: what stays; a function shown by hand as a contract; what a row of cells with texts holds. Own work. -/
import Derived.Test.YtkeblfepjkdleaaGreatDoorGMgcSk0
import Derived.Test.YtkeblfepjkdleaaGreatDoorGAm23Am29
import Derived.Test.YtkeblfepjkdleaaGreatDoorGRffRfi
set_option linter.all false
namespace Go.AM
open Go Go.Lib Go.Proofs
structure SameBut (g:Nat) (w w':World):Prop where
 os:w'.os=w.os
 tape:w'.tape=w.tape
 out:w'.output=w.output
 size:w.heap.size<=w'.heap.size
 other:∀ j,j<w.heap.size->j≠g->w'.heap[j]?=w.heap[j]?
 shape:∀ j s,w.shape? j=some s->w'.shape? j=some s
theorem SameBut.refl (g:Nat) (w:World):SameBut g w w:=⟨rfl,rfl,rfl,zlK _,fun _ _ _=>rfl,fun _ _ h=>h⟩
theorem SameBut.trans {g:Nat} {w w1 w2:World} (h:SameBut g w w1) (k:SameBut g w1 w2):SameBut g w w2:=
 ⟨k.os.trans h.os,k.tape.trans h.tape,k.out.trans h.out,zmR h.size k.size,fun j hj hn=>(k.other j (zl4 hj h.size) hn).trans (h.other j hj hn),fun j s hs=>k.shape j s (h.shape j s hs)⟩
theorem SameBut.drew {g:Nat} (w:World):SameBut g w w.drew:=⟨rfl,rfl,rfl,zlK _,fun _ _ _=>rfl,fun _ _ h=>h⟩
theorem SameBut.setCell (w:World) (g o:Nat) (v:Value):SameBut g w (w.setCell ⟨g,o,none⟩ v):=by
 refine ⟨rfl,rfl,rfl,by simp [World.setCell],fun j _ hn=>?_,fun j s hs=>?_⟩
 ·simp only [World.setCell,zmd];rw [zlD (zl7 hn)]
 ·simp only [World.shape?,World.setCell,zmd] at hs ⊢;by_cases e:g=j
  ·rw [zlF e];cases hq:w.heap[j]? with
   |none=>rw [hq] at hs;cases hs
   |some ob=>
    rw [hq] at hs;cases ob <;> simp_all
  ·rw [zlD e];exact hs
theorem SameBut.alloc (g:Nat) (w:World) (ob:Obj):SameBut g w (w.alloc ob):=by
 have hh:(w.alloc ob).heap=w.heap.push ob:=rfl;refine ⟨rfl,rfl,rfl,by rw [hh];simp,fun j hj _=>?_,fun j s hs=>?_⟩
 ·rw [hh,zl9];rw [zlD tO]
 ·have hlt:j<w.heap.size:=by
   rcases zmp j w.heap.size with h|h
   ·exact h
   ·simp [World.shape?,zmy h] at hs
  simp only [World.shape?] at hs ⊢;rw [hh,zl9,zlD tO];exact hs
theorem zFW {P:Program} {GT:zG_} {f:FuncId} {fn:Func} {args:List AV} {H H':Heap} {v:AV} (hf:P.funcs[f]?=some fn) (hname:(fn.name == "runtime.NumGoroutine")=false) (hb:fn.body.isSome=true) (hn:zKZ args=true)
  (h:∀ (w:World) (M:AMap) (I:Nat->Prop) (cargs:List Value),Sim GT w M I H->zEV w M I H.length args cargs->Calls P f cargs.toArray w fun e w'=>∃ v',e=.returned v'/\∃ M' I',Grow w M I H w' M' I' H'/\Sim GT w' M' I' H'/\Rel w' M' I' H'.length v v'):Good P GT f args H v H':=by
 refine zJh hn ?_;intro w M I cargs hS hA;have h1:fn.name ≠ "runtime.NumGoroutine" := by simpa using hname
 obtain ⟨c,hb⟩:=zmH.1 hb;have hrun:(callFunc f cargs.toArray).run P w=.ok (.enter f cargs.toArray) w:=by simp [callFunc,hf,h1,hb]
 rw [hrun];exact h w M I cargs hS hA
end Go.AM
