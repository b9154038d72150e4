/- Several texts of mine in one (Sk0, Skg). Own work. -/
import Derived.Test.YtcnogafgcfidnaaGreatDoorGHgcAm33
import Derived.Shelf.Spec.SlicesInsert
import Derived.Lib.AppendZerosOnto
import Derived.Laws.NewBlocks
set_option linter.all false
namespace Go.AM
open Go Go.Lib Go.Proofs
end Go.AM
namespace Go.AM
section
theorem zD5 {P : Program} {GT : Nat → Option AV} {f : FuncId} {fn : Func} {args : List AV} {H H' : Heap} {v : AV} (hf : P.funcs[f]? = some fn) (hname : (fn.name == "runtime.NumGoroutine") = false) (hb : fn.body.isSome = true) (hn : zIE args = true)
  (h : ∀ (w : World) (M : AMap) (I : Nat → Prop) (cargs : List Value),Sim GT w M I H → zBJ w M I H.length args cargs → Calls P f cargs.toArray w fun e w'=>∃ v',e = .returned v' ∧ ∃ M' I',Grow w M I H w' M' I' H' ∧ Sim GT w' M' I' H' ∧ Rel w' M' I' H'.length v v') : Good P GT f args H v H':=by
 refine zI8 hn ?_
 intro w M I cargs hS hA
 have h1 : fn.name ≠ "runtime.NumGoroutine" := by simpa using hname
 obtain ⟨c,hb⟩:=Option.isSome_iff_exists.1 hb
 have hrun : (callFunc f cargs.toArray).run P w = .ok (.enter f cargs.toArray) w:=by simp [callFunc,hf,h1,hb]
 rw [hrun]
 exact h w M I cargs hS hA
end
end Go.AM
