/- Several texts of mine in one (Rf5, Bg1, Bg2, Bgm, Rf3). Own work. -/
import Derived.Test.YthpjgjdeogodjaaGreatDoorRf2
import Derived.Test.YthpjgjdeogodjaaGreatDoorGPreFr1
import Derived.Test.YthpjgjdeogodjaaGreatDoorGAm23Am29
import Derived.Test.YthpjgjdeogodjaaGreatDoorSc
import Derived.Test.YthpjgjdeogodjaaGreatDoorGFp0Trm
import Derived.Test.YthpjgjdeogodjaaGreatDoorGAm31Rf1
set_option linter.all false
set_option maxRecDepth 20000
namespace Go.AM
def tkE (q : Nat) : Tok → Nat
 | .fin=>q
 | .word e _=>e
 | .txt e _=>e
 | .bad e _=>e
 | .sign e _=>e
 | .none=>q
def tkT : Tok → Bs
 | .fin=>[]
 | .word _ t=>t
 | .txt _ t=>t
 | .bad _ k=>wrongs.getD (k - 1) []
 | .sign _ t=>t
 | .none=>[]
theorem tkE_le {s : Bs} {a : Nat} (h : a ≤ s.length) : tkE (skip s a) (tok s a) ≤ s.length:=by
 have h1:=zCL s a
 have h2:=zAz h
 cases hk : tok s a <;> rw [hk] at h1 <;> simp only [tkE,Tok.endsBy] at h1 ⊢ <;> omega
section
variable {C : CSpec} {GT : Nat → Option AV}
end
end Go.AM
set_option maxRecDepth 20000
namespace Go.AM
def u32V (w : Nat) : AV:=.int .u32 w
def magV (n : Nat) : AV:=.lst (some false) 1 ((wds n).map u32V)
def Mag (v : AV) (n : Nat) : Prop:=zDy v 1 ((wds n).map u32V)
theorem Mag.nil (k : Nat) : Mag (.lst (some true) k []) 0:=⟨_,_,rfl,.inr rfl⟩
theorem sWu32 {x : Int} {K : Int → Prop} (r : Nat) (h : x % 4294967296 = r) (k : K (r : Int)) : valP (IntKind.wrap .u32 x) K:=sVal (by rw [IntKind.wrap_u32]; omega) k
section
variable {C : CSpec} {GT : Nat → Option AV}
structure SAd where
 i : Nat
 c : Nat
 ds : List Nat
end
end Go.AM
set_option maxRecDepth 20000
namespace Go.AM
def bigC (v : Int) : List AV:=[.bool (decide (v < 0)),magV v.natAbs]
section
variable {C : CSpec} {GT : Nat → Option AV}
structure SLe where
 t : Nat
 n : Nat
end
end Go.AM
set_option maxRecDepth 20000
namespace Go.AM
def mulV (v : Nat) : AV:=if v = 0 then .lst (some true) 0 [] else magV (v * 10)
structure SMu where
 i : Nat
 c : Nat
 ds : List Nat
structure SMj where
 j : Nat
 c : Nat
section
variable {C : CSpec} {GT : Nat → Option AV}
end
end Go.AM
set_option maxRecDepth 20000
namespace Go.AM
section
variable {C : CSpec} {GT : Nat → Option AV}
end
end Go.AM
