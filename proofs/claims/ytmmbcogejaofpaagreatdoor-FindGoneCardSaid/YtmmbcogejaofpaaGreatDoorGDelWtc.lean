/- Several texts of mine in one (Del, Ins, Wt1, Wt3, Wtc). Own work. -/
import Derived.Test.YtmmbcogejaofpaaGreatDoorGAm33Wt0
import Derived.Test.YtmmbcogejaofpaaGreatDoorGMcMk
import Derived.Shelf.SlicesG.Delete
import Derived.Shelf.Spec.SlicesInsertGrow
import Derived.Test.YtmmbcogejaofpaaGreatDoorGAm23Am29
set_option linter.all false
set_option maxRecDepth 1000000
namespace Go.Proofs.YtmmbcogejaofpaaGreatDoor
open Go.AM Go.Shelf Go.RowKit Go.Lib Go.Sort Go.Proofs
end Go.Proofs.YtmmbcogejaofpaaGreatDoor
set_option maxRecDepth 1000000
namespace Go.Proofs.YtmmbcogejaofpaaGreatDoor
open Go.AM Go.Shelf Go.RowKit Go.Lib Go.Sort Go.Proofs
end Go.Proofs.YtmmbcogejaofpaaGreatDoor
set_option maxRecDepth 20000
namespace Go.AM
section
variable {C : CSpec} {GT : Nat → Option AV}
structure BsS where
 i : Nat
 j : Nat
end
end Go.AM
set_option maxRecDepth 20000
namespace Go.AM
theorem frz_slw {n0 b k len : Nat} {H : Heap} {xs : List AV} (hb : n0 ≤ b) (h : H[b]? = some (.row k xs)) (hl : len = xs.length) : zB0 n0 (.sl (some false) b k 0 len) H = some (.lst (some false) k xs,H.set b (.frz k xs)):=by
 subst hl
 simp only [zB0]
 rw [if_neg tO,h]
 simp [frzQ]
section
variable {C : CSpec} {GT : Nat → Option AV}
end
end Go.AM
set_option maxRecDepth 20000
namespace Go.AM
theorem sRetW {F : AF} {H H1 H2 H' : Heap} {fr : Fr} {v0 v : AV} (hk : F.keep = false) (hr : (zBJ fr H1 F.results).map tupled = some v0) (hf : zB0 H.length v0 H1 = some (v,H2)) (hb : v.bel H.length = true) (ho : OldOK H H2) (hH : H' = H2.take H.length) : retP F H fr H1 v H':=by
 refine sRet ?_
 unfold zEQ
 cases hs : zBJ fr H1 F.results with
 | none=>rw [hs] at hr; cases hr
 | some vs=>
  rw [hs] at hr
  simp only [Option.map_some,Option.some.injEq] at hr
  subst hr
  simp only [hk,hf,Bool.false_eq_true,if_false]
  exact ⟨hb,ho,trivial,hH⟩
section
variable {C : CSpec} {GT : Nat → Option AV}
end
end Go.AM
