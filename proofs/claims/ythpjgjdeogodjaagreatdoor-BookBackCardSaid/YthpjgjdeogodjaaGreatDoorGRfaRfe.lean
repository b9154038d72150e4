/- Several texts of mine in one (Rfa, Rfb, Rfc, Rfd, Rfe). Own work. -/
import Derived.Test.YthpjgjdeogodjaaGreatDoorGRf6Rf9
set_option linter.all false
set_option maxRecDepth 20000
namespace Go.AM
section
variable {C : CSpec} {GT : Nat → Option AV}
def Kp (H H' : Heap) (b n9 : Nat) : Prop:=(∀ c x,H[c]? = some x → c ≠ b → c ≠ n9 → H'[c]? = some x) ∧ H.length ≤ H'.length
end
end Go.AM
set_option maxRecDepth 20000
namespace Go.AM
section
variable {C : CSpec} {GT : Nat → Option AV}
end
end Go.AM
set_option maxRecDepth 20000
namespace Go.AM
def emB (s : Bs) (e1 : Nat) : Nat:=tkE (skip s (e1 + 1)) (tok s (e1 + 1))
def clB (s : Bs) (a : Nat) (w e d : Int) : ABlk:=pB s (tkE (skip s a) (tok s a) : Nat) w e (IntKind.wrap .i64 (d - 1))
inductive AF' (C : CSpec) (b : Nat) (s : Bs) (d : Nat) : List Nd → Nat → List Nd → ABlk → Prop where
 | box (ks : List Nd) (a e1 : Nat) (w1 : Bs) (r1 : RefP) (ht : tok s a = .word e1 w1) (hr : refP w1 = some r1) (h58 : s[e1]? = some 58) (hn : zHq s a = some none) :
   AF' C b s d ks a (ks ++ [boxN r1 ((refP (tkT (tok s (e1 + 1)))).getD noRef)]) (clB s (emB s e1) (e1 + 1 : Nat) 2 (d + 1 : Nat))
 | lo (ks : List Nd) (a : Nat) (nw : Nd) (W : Bd) (hn : zHq s a = none) (hl : (P s).loose 1 a (d + 1) = none) (hW : W.ok s) (h : ∀ H,H[b]? = some (rP s a (d + 1)) → C zAG [pR b,.int .i64 1] H (ndV nw) (H.set b (W.blk s))) :
   AF' C b s d ks a (ks ++ [nw]) (clB s W.a W.w W.e W.d)
 | close (ks : List Nd) (a : Nat) (m : Nd) (e2 : Nat) (h : zG4 s (P s) a (d + 1) = some (m,e2)) (h44 : ¬ ∃ e3,tok s e2 = .sign e3 [44]) (h41 : ¬ ∃ e3,tok s e2 = .sign e3 [41]) :
   AF' C b s d ks a (ks ++ [m]) (pB s (tkE (skip s e2) (tok s e2) : Nat) (skip s e2 : Nat) 2 d)
 | later (ks : List Nd) (a : Nat) (m : Nd) (e2 e3 : Nat) (L : List Nd) (RB : ABlk) (h : zG4 s (P s) a (d + 1) = some (m,e2)) (h44 : tok s e2 = .sign e3 [44]) (k : AF' C b s d (ks ++ [m]) e3 L RB) : AF' C b s d ks a L RB
def AR (C : CSpec) (b : Nat) (s : Bs) (d : Nat) (t : Bs) (ks : List Nd) (a : Nat) (RV : AV) (RB : ABlk) : Prop:=
 (∃ n' e',(P s).args t ks a (d + 1) = some (n',e') ∧ RV = ndV n' ∧ RB = rP s e' d) ∨ (∃ L,AF' C b s d ks a L RB ∧ RV = ndV (zEt t L))
def AN (C : CSpec) (b : Nat) (s : Bs) (d : Nat) (t : Bs) (L : List Nd) (e2 : Nat) (RV : AV) (RB : ABlk) : Prop:=
 (∃ e3,tok s e2 = .sign e3 [44] ∧ AR C b s d t L e3 RV RB) ∨ (∃ e3,tok s e2 = .sign e3 [41] ∧ RV = ndV (zEt t L) ∧ RB = rP s e3 d) ∨
 ((¬ ∃ e3,tok s e2 = .sign e3 [44]) ∧ (¬ ∃ e3,tok s e2 = .sign e3 [41]) ∧ RV = ndV (zEt t L) ∧ RB = pB s (tkE (skip s e2) (tok s e2) : Nat) (skip s e2 : Nat) 2 d)
theorem AR.ok {C : CSpec} {b : Nat} {s : Bs} {d : Nat} {t : Bs} {ks : List Nd} {a : Nat} {RV : AV} {RB : ABlk} (h : AR C b s d t ks a RV RB) (ha : a ≤ s.length) {m : Nd} {e2 : Nat} (hp : zG4 s (P s) a (d + 1) = some (m,e2)) : AN C b s d t (ks ++ [m]) e2 RV RB:=by
 rcases h with ⟨n',e',h1,h2,h3⟩ | ⟨L,hL,hv⟩
 ·rw [P_args t ks (d + 1) ha] at h1
  unfold zFM at h1
  rw [hp,Option.bind_some] at h1
  by_cases h44 : ∃ e3,tok s e2 = .sign e3 [44]
  ·obtain ⟨e3,h44⟩:=h44
   simp only [h44] at h1
   exact .inl ⟨e3,h44,.inl ⟨n',e',h1,h2,h3⟩⟩
  ·by_cases h41 : ∃ e3,tok s e2 = .sign e3 [41]
   ·obtain ⟨e3,h41⟩:=h41
    simp only [h41] at h1
    obtain ⟨rfl,rfl⟩ : zEt t (ks ++ [m]) = n' ∧ e3 = e':=by cases h1; exact ⟨rfl,rfl⟩
    exact .inr (.inl ⟨_,h41,h2,h3⟩)
   ·exfalso
    split at h1
    ·rename_i e3 hk; exact h44 ⟨e3,hk⟩
    ·rename_i e3 hk; exact h41 ⟨e3,hk⟩
    ·cases h1
 ·cases hL with
  | box _ _ e1 w1 r1 ht hr h58 hn=>unfold zG4 at hp; rw [hn] at hp; cases hp
  | lo _ _ nw W hn hl hW h=>unfold zG4 at hp; rw [hn] at hp; simp only at hp; rw [hl] at hp; cases hp
  | close _ _ m' e2' h h44 h41=>rw [hp] at h; cases h; exact .inr (.inr ⟨h44,h41,hv,rfl⟩)
  | later _ _ m' e2' e3 _ _ h h44 k=>rw [hp] at h; cases h; exact .inl ⟨_,h44,.inr ⟨L,k,hv⟩⟩
structure CaS where
 a : Nat
 v : AV
 ks : List Nd
section
variable {C : CSpec} {GT : Nat → Option AV}
end
end Go.AM
set_option maxRecDepth 20000
namespace Go.AM
theorem Kp.old {H0 H H' : Heap} {b n9 : Nat} {B0 B : ABlk} (k : Kp H H' b n9) (hob : OldB H0 b B0 H) (g9 : H0.length ≤ n9) (hB : H'[b]? = some B) : OldB H0 b B H':=by
 have hl:=hob.old.1
 rw [List.length_set] at hl
 refine ⟨hob.lt,by rw [List.length_set]; exact Nat.le_trans hl k.2,fun c hc=>?_⟩
 rw [List.length_set] at hc
 by_cases e : b = c
 ·subst e; rw [List.getElem?_set_self hc]; exact hB
 ·rw [List.getElem?_set_ne e]
  have h1:=hob.old.2 c (by rw [List.length_set]; exact hc)
  rw [List.getElem?_set_ne e] at h1
  obtain ⟨x,hx⟩ : ∃ x,H0[c]? = some x:=⟨_,List.getElem?_eq_getElem hc⟩
  rw [hx] at h1 ⊢
  exact k.1 c x h1 (Ne.symm e) tO
section
variable {C : CSpec} {GT : Nat → Option AV}
end
end Go.AM
set_option maxRecDepth 20000
namespace Go.AM
theorem AF'.shape {C : CSpec} {b : Nat} {s : Bs} {d : Nat} {ks : List Nd} {a : Nat} {L : List Nd} {RB : ABlk} (h : AF' C b s d ks a L RB) : a ≤ s.length → ∃ (a' : Nat) (w e d' : Int),e ≠ 0 ∧ a' ≤ s.length ∧ RB = pB s a' w e d':=by
 induction h with
 | box ks a e1 w1 r1 ht hr h58 hn=>
  intro ha
  have h1 : e1 < s.length:=(zg h58).1
  exact ⟨_,_,2,_,by decide,tkE_le (tkE_le tO),rfl⟩
 | lo ks a nw W hn hl hW h=>intro ha; exact ⟨_,_,_,_,hW.1,tkE_le hW.2,rfl⟩
 | close ks a m e2 h h44 h41=>
  intro ha
  have hx:=zG5 (zCS s) a (d + 1) _ ha h
  exact ⟨_,_,2,_,by decide,tkE_le hx.2,rfl⟩
 | later ks a m e2 e3 L RB h h44 k ih=>
  intro ha
  have ht:=zCL s e2
  rw [h44] at ht
  simp only [Tok.endsBy] at ht
  exact ih tO
section
variable {C : CSpec} {GT : Nat → Option AV}
end
end Go.AM
