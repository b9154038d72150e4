/- Several texts of mine in one (Rf6, Rf7, Rf4, Rf8, Rf9). Own work. -/
import Derived.Test.YthpjgjdeogodjaaGreatDoorGRf5Rf3
set_option linter.all false
set_option maxRecDepth 20000
namespace Go.AM
section
variable {C : CSpec} {GT : Nat → Option AV}
end
end Go.AM
set_option maxRecDepth 20000
namespace Go.AM
section
variable {C : CSpec} {GT : Nat → Option AV}
end
end Go.AM
set_option maxRecDepth 20000
namespace Go.AM
section
variable {C : CSpec} {GT : Nat → Option AV}
end
end Go.AM
set_option maxRecDepth 20000
namespace Go.AM
section
variable {C : CSpec} {GT : Nat → Option AV}
end
end Go.AM
set_option maxRecDepth 20000
namespace Go.AM
structure Bd where
 a : Nat
 w : Int
 e : Int
 d : Int
def Bd.ok (s : Bs) (W : Bd) : Prop:=W.e ≠ 0 ∧ W.a ≤ s.length
def Bd.blk (s : Bs) (W : Bd) : ABlk:=pB s W.a W.w W.e W.d
def LoF (C : CSpec) (b : Nat) (s : Bs) (d l a : Nat) (W : Bd) : Prop:=W.ok s ∧ ∃ n : Nd,∀ H,H[b]? = some (rP s a d) → C zAG [pR b,zP l] H (ndV n) (H.set b (W.blk s))
inductive LF (C : CSpec) (b : Nat) (s : Bs) (d l : Nat) : Nd → Nat → Bd → Prop where
 | now (n : Nd) (a op e : Nat) (W : Bd) (ho : zHS s a = some (op,e)) (ht : ¬ tight op < l) (h : LoF C b s d (tight op + 1) e W) : LF C b s d l n a W
 | later (n m : Nd) (a op e e2 : Nat) (W : Bd) (ho : zHS s a = some (op,e)) (ht : ¬ tight op < l) (h : (P s).loose (tight op + 1) e d = some (m,e2)) (k : LF C b s d l (twoN op n m) e2 W) : LF C b s d l n a W
theorem LF.ok {C : CSpec} {b : Nat} {s : Bs} {d l : Nat} {n : Nd} {a : Nat} {W : Bd} (h : LF C b s d l n a W) : W.ok s:=by
 induction h with
 | now _ _ _ _ _ _ _ h=>exact h.1
 | later _ _ _ _ _ _ _ _ _ _ _ ih=>exact ih
structure LSt where
 m : Nat
 a : Nat
 n : Nd
 x : AV
section
variable {C : CSpec} {GT : Nat → Option AV}
def LoR (C : CSpec) (b : Nat) (s : Bs) (d l : Nat) (n : Nd) (a : Nat) (RV : AV) (RB : ABlk) : Prop:=
 (∃ n' e',(P s).ll l n a d = some (n',e') ∧ RV = ndV n' ∧ RB = rP s e' d) ∨ (∃ W : Bd,LF C b s d l n a W ∧ RV = ndV zq ∧ RB = W.blk s)
theorem LoR.go {b : Nat} {s : Bs} {d l : Nat} {n : Nd} {a op e : Nat} {RV : AV} {RB : ABlk} (h : LoR C b s d l n a RV RB) (ha : a ≤ s.length) (ho : zHS s a = some (op,e)) (ht : ¬ tight op < l) :
  (∃ m e2,(P s).loose (tight op + 1) e d = some (m,e2) ∧ LoR C b s d l (twoN op n m) e2 RV RB) ∨ (∃ W : Bd,LoF C b s d (tight op + 1) e W ∧ RV = ndV zq ∧ RB = W.blk s):=by
 rcases h with ⟨n',e',h1,h2,h3⟩ | ⟨W,hW,h2,h3⟩
 ·rw [P_ll l n d ha] at h1
  unfold psLl at h1
  rw [ho] at h1
  simp only at h1
  rw [if_neg ht,Option.bind_eq_some_iff] at h1
  obtain ⟨⟨m,e2⟩,h4,h5⟩:=h1
  exact .inl ⟨m,e2,h4,.inl ⟨n',e',h5,h2,h3⟩⟩
 ·cases hW with
  | now _ _ op' e' _ ho' ht' h=>rw [ho] at ho'; cases ho'; exact .inr ⟨W,h,h2,h3⟩
  | later _ m _ op' e' e2 _ ho' ht' h k=>rw [ho] at ho'; cases ho'; exact .inl ⟨m,e2,h,.inr ⟨W,k,h2,h3⟩⟩
end
end Go.AM
