/- strings.CutPrefix, walked. Own work. -/
import Derived.Test.YtgcggndacnmhfaaGreatDoorGFscPre
import Derived.Test.YtgcggndacnmhfaaGreatDoorGAm23Bc
import Derived.Lib.Strings
set_option linter.all false
set_option maxRecDepth 20000
namespace Go.AM
section
variable {C : CSpec} {GT : Nat → Option AV}
theorem zLu (s : List UInt8) (a : Nat) (h : a ≤ s.length) : zf none (.str s) (some (.int .i64 (a : Int))) none = some (.str (s.drop a)):=by
 simp only [zf,zAv,aHi,aLo]
 have h1 : ¬ ((a : Int) < 0):=by omega
 have e1 : (a : Int).toNat = a:=Int.toNat_natCast a
 simp [h1,e1,h]
theorem zE1 (hP : ∀ s p H,C zn [.str s,.str p] H (.bool (p.isPrefixOf s)) H) (s p : List UInt8) (H : Heap) : EFun C GT zAs [.str s,.str p] H (.tup [.str (Lib.trimPrefix s p),.bool (Lib.hasPrefix s p)]) H:=by
 have hp:=hP s p H
 clear hP
 unfold Lib.trimPrefix Lib.hasPrefix
 refine zS ?_
 by_cases h : p.isPrefixOf s = true
 ·rw [h] at hp ⊢
  have hl : p.length ≤ s.length:=by rw [zBD,Bool.and_eq_true,decide_eq_true_iff] at h; exact h.1
  refine zK hp <| zD ?_; refine za (v:=.str (s.drop p.length)) (zLu s p.length hl) ?_
  exact sRr
 ·have h:=Bool.eq_false_iff.2 h
  rw [h] at hp ⊢
  refine zK hp <| zE ?_
  exact sRr
theorem zHA (hP : ∀ s p H,C zm [.str s,.str p] H (.tup [.str (Lib.trimPrefix s p),.bool (Lib.hasPrefix s p)]) H) (s p : List UInt8) (H : Heap) : EFun C GT zBJ [.str s,.str p] H (.tup [.str (Lib.trimPrefix s p),.bool (Lib.hasPrefix s p)]) H:=by
 have hp:=hP s p H
 clear hP
 refine zS <| zK hp ?_; refine za rfl <| za rfl ?_
 exact sRr
end
end Go.AM
