/- Several texts of mine in one (Fr5, Fp4, Fr6, Fr7). Own work. -/
import Derived.Test.YthllabjbdobpgaaGreatDoorGFr2Fr4
set_option linter.all false
set_option maxRecDepth 20000
namespace Go.AM
theorem psOne_skip (s : Bs) (q : Ps) (p d : Nat) : zCD s q (skip s p) d = zCD s q p d:=by unfold zCD; rw [zJX]
theorem one_minus {s : Bs} {p d : Nat} (h : s[p]? = some 45) : zCD s (P s) p d = if d = 30 then none else ((P s).one (p + 1) (d + 1)).map fun q=>(negN q.1,q.2):=by
 have hs : skip s p = p:=zDl (by rw [h]; simp)
 have ht:=zF3 (s:=s) (p:=p) (c:=45) (by rw [hs]; exact h) (by decide)
 rw [hs] at ht
 unfold zCD
 rw [ht]
 rfl
def argS (s : Bs) (p d : Nat) : Option (Nd × Nat):=match zEB s p with
 | some r=>r
 | none=>bl s ((P s).loose 1 p d)
theorem sub_self (s : Bs) (a : Nat) : sub s a a = []:=by unfold sub; rw [Nat.sub_self]; rfl
theorem refP_nil : zCu [] = none:=rfl
theorem box_is (s : Bs) (p : Nat) : zEB s p = match zCu (sub s (skip s p) (zCJ s (skip s p))) with
  | some r=>if s[zCJ s (skip s p)]? = some 58 then some ((zCu (sub s (zCJ s (skip s p) + 1) (zCJ s (zCJ s (skip s p) + 1)))).map fun r2=>(boxN r r2,zCJ s (zCJ s (skip s p) + 1))) else none
  | none=>none:=by
 unfold zEB
 by_cases hw : ∃ c,s[skip s p]? = some c ∧ z6 c = true
 ·obtain ⟨c,hc,hw⟩:=hw
  have ht : tok s p = .word (zCJ s (skip s p)) (sub s (skip s p) (zCJ s (skip s p))):=by rw [← zJX]; exact tok_word hc hw
  rw [ht]
  simp only
  cases zCu (sub s (skip s p) (zCJ s (skip s p))) with
  | none=>rfl
  | some r=>
   simp only
   generalize zCJ s (skip s p) = e
   by_cases h58 : s[e]? = some 58
   ·rw [zMg h58,zMg h58]
    by_cases hw2 : ∃ c,s[e + 1]? = some c ∧ z6 c = true
    ·obtain ⟨c2,hc2,hw2⟩:=hw2
     have ht2 : zCX s (e + 1) = .word (zCJ s (e + 1)) (sub s (e + 1) (zCJ s (e + 1))):=by
      unfold zCX
      rw [hc2]
      simp only [hw2,zND]
     rw [ht2]
    ·have hst : zCJ s (e + 1) = e + 1:=zF0 fun c h=>zNL.2 fun x=>hw2 ⟨c,h,x⟩
     rw [hst,sub_self,refP_nil]
     unfold zCX
     split
     ·rename_i heq
      split at heq
      ·cases heq
      ·rename_i c2 hc2
       rw [zMe (fun x=>hw2 ⟨c2,hc2,x⟩)] at heq
       split at heq
       ·split at heq <;> cases heq
       ·split at heq
        ·split at heq <;> cases heq
        ·split at heq
         ·split at heq <;> cases heq
         ·cases heq
     ·rfl
   ·rw [zMe h58,zMe h58]
 ·have hst : zCJ s (skip s p) = skip s p:=zF0 fun c h=>zNL.2 fun x=>hw ⟨c,h,x⟩
  rw [hst,sub_self,refP_nil]
  simp only
  split
  ·rename_i e t heq
   exfalso
   unfold tok zCX at heq
   split at heq
   ·cases heq
   ·rename_i c2 hc2
    rw [zMe (fun x=>hw ⟨c2,hc2,x⟩)] at heq
    split at heq
    ·split at heq <;> cases heq
    ·split at heq
     ·split at heq <;> cases heq
     ·split at heq
      ·split at heq <;> cases heq
      ·cases heq
  ·rfl
section
variable {C : CSpec} {GT : Nat → Option AV}
theorem neg_ev (hB : ∀ b s p d H,H[b]? = some (rdB s p d) → p ≤ s.length → s.length ≤ 200 → C za [pR b] H (.tup []) (H.set b (rdB s (skip s p) d)))
  (hWi : ∀ f caps a b s p d H r,H[b]? = some (rdB s p d) → d ≤ 1000 → (∀ H',H'[b]? = some (rdB s p (d + 1)) → Off H b H' → CR C f caps H' b s (d + 1) r) → CR C zq [pR b,.int .i64 a,.fn f [] caps] H b s d (if d = 30 then none else r))
  (b : Nat) (s : Bs) (p d : Nat) (H : Heap) (hb : H[b]? = some (rdB s p d)) (hp : p ≤ s.length) (hl : s.length ≤ 200) (hd : d ≤ 1000)
  (hNc : s[skip s p]? = some 45 → ∀ H' rb,H'[b]? = some (rdB s (skip s p) (d + 1)) → H'[rb]? = some (.box [pR b]) → CR C zAd [pR rb] H' b s (d + 1) (((P s).one (skip s p + 1) (d + 1)).map fun q=>(negN q.1,q.2)))
  (hPr : s[skip s p]? ≠ some 45 → ∀ H',H'[b]? = some (rdB s (skip s p) d) → CR C zAv [pR b] H' b s d (zCD s (P s) (skip s p) d)) :
  zCA C GT zCc [pR b] H b (wkC s) zFB (mkR s d ((P s).one p d)):=by
 have hbl : b < H.length:=(zg hb).1
 rw [P_one d hp,← psOne_skip]
 have hbk:=hB b s p d (H ++ [ABlk.box (pR b).cells] ++ [ABlk.box (ndC zY)]) (zC (zC hb)) hp hl
 have hql:=zBo hp
 generalize skip s p = q at *
 by_cases h45 : s[q]? = some 45
 ·have hlt : q < s.length:=(zg h45).1
  rw [one_minus h45]
  have hnc:=hNc h45
  have hw:=hWi zAd [pR H.length] q b s q d ((H ++ [ABlk.box (pR b).cells] ++ [ABlk.box (ndC zY)]).set b (rdB s q d)) (((P s).one (q + 1) (d + 1)).map fun q=>(negN q.1,q.2)) (zE (zC (zC hb))) hd (fun H' h1 ho=>hnc H' H.length h1 (ho _ _ (zA tO (zC zD)) tO))
  clear hB hWi hNc hPr hnc
  refine zAE ?_
  cases hr : (if d = 30 then none else ((P s).one (q + 1) (d + 1)).map fun q=>(negN q.1,q.2)) with
  | none=>
   rw [hr] at hw
   have hw:=hw.2 rfl
   have e : mkR s d none = none:=rfl
   rw [e]
   refine zD6 (x:=pR b) rfl <| zB (pR b) (zC zD) rfl <| zp hbk (fun h=>by cases h) <| zB (pR b) (zA tA (zC zD)) rfl <| zB (zJ q) (zE (zC (zC hb))) rfl <| zB (pR b) (zA tA (zC zD)) rfl ?_; refine zB (AV.str s) (zE (zC (zC hb))) rfl <| zP tT <| zB (pR b) (zA tA (zC zD)) rfl <| zB (AV.str s) (zE (zC (zC hb))) rfl <| zB (pR b) (zA tA (zC zD)) rfl <| zB (zJ q) (zE (zC (zC hb))) rfl ?_; refine zn rfl h45 <| zH <| zP (tE (by rfl)) <| zB (pR b) (zA tA (zC zD)) rfl <| zB (zJ q) (zE (zC (zC hb))) rfl <| zB (pR b) (zA tA (zC zD)) rfl ?_
   refine zAb hw ?_
   exact zB1 (by first | rfl | assumption) rfl rfl rfl (((((OldB.start hb).push _).push _).setB _).setB _) rfl (by first | exact WkL.refl _ | exact zGA _ _ _) (by first | exact Wk.refl _ | exact zB2 _ _)
  | some x=>
   obtain ⟨n,e⟩:=x
   rw [hr] at hw
   have hw:=hw.1 n e rfl
   have e0 : mkR s d (some (n,e)) = some (ndV n,rdB s e d):=rfl
   rw [e0]
   refine zD6 (x:=pR b) rfl <| zB (pR b) (zC zD) rfl <| zp hbk (fun h=>by cases h) <| zB (pR b) (zA tA (zC zD)) rfl <| zB (zJ q) (zE (zC (zC hb))) rfl <| zB (pR b) (zA tA (zC zD)) rfl ?_; refine zB (AV.str s) (zE (zC (zC hb))) rfl <| zP tT <| zB (pR b) (zA tA (zC zD)) rfl <| zB (AV.str s) (zE (zC (zC hb))) rfl <| zB (pR b) (zA tA (zC zD)) rfl <| zB (zJ q) (zE (zC (zC hb))) rfl ?_; refine zn rfl h45 <| zH <| zP (tE (by rfl)) <| zB (pR b) (zA tA (zC zD)) rfl <| zB (zJ q) (zE (zC (zC hb))) rfl <| zB (pR b) (zA tA (zC zD)) rfl ?_
   refine zBp hw <| zF (v:=ndV n) (AV.cells (ndV n)) (zA tA (zA tA zD)) rfl rfl rfl rfl ?_
   exact z8 (o:=0) (ndV n) (by first | rfl | assumption) rfl rfl (zL (zE (zA tA (zA tA zD)))) rfl rfl rfl ((((((OldB.start hb).push _).push _).setB _).setB _).set tA _) rfl
 ·have hpr:=hPr h45 ((H ++ [ABlk.box (pR b).cells] ++ [ABlk.box (ndC zY)]).set b (rdB s q d)) (zE (zC (zC hb)))
  clear hB hWi hNc hPr
  generalize zCD s (P s) q d = r at *
  refine zAE ?_
  by_cases hlt : q < s.length
  ·obtain ⟨c,hc⟩ : ∃ c,s[q]? = some c:=⟨_,zMf hlt⟩
   have hn : c.toNat ≠ 45:=fun e=>h45 (by rw [hc,show c = 45 from zM0.1 e])
   cases r with
   | none=>
    have hpr:=hpr.2 rfl
    have e : mkR s d none = none:=rfl
    rw [e]
    refine zD6 (x:=pR b) rfl <| zB (pR b) (zC zD) rfl <| zp hbk (fun h=>by cases h) <| zB (pR b) (zA tA (zC zD)) rfl <| zB (zJ q) (zE (zC (zC hb))) rfl <| zB (pR b) (zA tA (zC zD)) rfl ?_; refine zB (AV.str s) (zE (zC (zC hb))) rfl <| zP tT <| zB (pR b) (zA tA (zC zD)) rfl <| zB (AV.str s) (zE (zC (zC hb))) rfl <| zB (pR b) (zA tA (zC zD)) rfl <| zB (zJ q) (zE (zC (zC hb))) rfl ?_; refine zn rfl hc <| zH <| zO tN <| zB (pR b) (zA tA (zC zD)) rfl <| zAb hpr ?_
    exact zB1 (by first | rfl | assumption) rfl rfl rfl (((((OldB.start hb).push _).push _).setB _).setB _) rfl (by first | exact WkL.refl _ | exact zGA _ _ _) (by first | exact Wk.refl _ | exact zB2 _ _)
   | some x=>
    obtain ⟨n,e⟩:=x
    have hpr:=hpr.1 n e rfl
    have e0 : mkR s d (some (n,e)) = some (ndV n,rdB s e d):=rfl
    rw [e0]
    refine zD6 (x:=pR b) rfl <| zB (pR b) (zC zD) rfl <| zp hbk (fun h=>by cases h) <| zB (pR b) (zA tA (zC zD)) rfl <| zB (zJ q) (zE (zC (zC hb))) rfl <| zB (pR b) (zA tA (zC zD)) rfl ?_; refine zB (AV.str s) (zE (zC (zC hb))) rfl <| zP tT <| zB (pR b) (zA tA (zC zD)) rfl <| zB (AV.str s) (zE (zC (zC hb))) rfl <| zB (pR b) (zA tA (zC zD)) rfl <| zB (zJ q) (zE (zC (zC hb))) rfl ?_; refine zn rfl hc <| zH <| zO tN <| zB (pR b) (zA tA (zC zD)) rfl <| zBp hpr <| zF (v:=ndV n) (AV.cells (ndV n)) (zA tA (zA tA zD)) rfl rfl rfl rfl ?_
    exact z8 (o:=0) (ndV n) (by first | rfl | assumption) rfl rfl (zL (zE (zA tA (zA tA zD)))) rfl rfl rfl ((((((OldB.start hb).push _).push _).setB _).setB _).set tA _) rfl
  ·cases r with
   | none=>
    have hpr:=hpr.2 rfl
    have e : mkR s d none = none:=rfl
    rw [e]
    refine zD6 (x:=pR b) rfl <| zB (pR b) (zC zD) rfl <| zp hbk (fun h=>by cases h) <| zB (pR b) (zA tA (zC zD)) rfl <| zB (zJ q) (zE (zC (zC hb))) rfl <| zB (pR b) (zA tA (zC zD)) rfl ?_; refine zB (AV.str s) (zE (zC (zC hb))) rfl <| zO tF <| zG <| zG <| zB (pR b) (zA tA (zC zD)) rfl <| zAb hpr ?_
    exact zB1 (by first | rfl | assumption) rfl rfl rfl (((((OldB.start hb).push _).push _).setB _).setB _) rfl (by first | exact WkL.refl _ | exact zGA _ _ _) (by first | exact Wk.refl _ | exact zB2 _ _)
   | some x=>
    obtain ⟨n,e⟩:=x
    have hpr:=hpr.1 n e rfl
    have e0 : mkR s d (some (n,e)) = some (ndV n,rdB s e d):=rfl
    rw [e0]
    refine zD6 (x:=pR b) rfl <| zB (pR b) (zC zD) rfl <| zp hbk (fun h=>by cases h) <| zB (pR b) (zA tA (zC zD)) rfl <| zB (zJ q) (zE (zC (zC hb))) rfl <| zB (pR b) (zA tA (zC zD)) rfl ?_; refine zB (AV.str s) (zE (zC (zC hb))) rfl <| zO tF <| zG <| zG <| zB (pR b) (zA tA (zC zD)) rfl <| zBp hpr ?_; refine zF (v:=ndV n) (AV.cells (ndV n)) (zA tA (zA tA zD)) rfl rfl rfl rfl ?_
    exact z8 (o:=0) (ndV n) (by first | rfl | assumption) rfl rfl (zL (zE (zA tA (zA tA zD)))) rfl rfl rfl ((((((OldB.start hb).push _).push _).setB _).setB _).set tA _) rfl
theorem arg_ev (hB : ∀ b s p d H,H[b]? = some (rdB s p d) → p ≤ s.length → s.length ≤ 200 → C za [pR b] H (.tup []) (H.set b (rdB s (skip s p) d)))
  (hF : ∀ b s p d a e H,H[b]? = some (rdB s p d) → C zX (.pan .undef :: [pR b,.int .i64 a,zFX e]) H zFB (H.set b (.box (wkC s))))
  (hWo : ∀ b s p d H,H[b]? = some (rdB s p d) → p ≤ s.length → s.length ≤ 200 → C zw [pR b] H (.str (sub s p (zCJ s p))) (H.set b (rdB s (zCJ s p) d)))
  (hR : ∀ s H,s.length ≤ 1000 → C zA6 [.str s] H (refV (zCu s)) H)
  (b : Nat) (s : Bs) (p d : Nat) (H : Heap) (hb : H[b]? = some (rdB s p d)) (hp : p ≤ s.length) (hl : s.length ≤ 200)
  (hT : ∀ H',H'[b]? = some (rdB s (skip s p) d) → CR C zl [pR b,zK 0] H' b s d (bl s ((P s).loose 1 p d))) :
  zCA C GT zBW [pR b] H b (wkC s) zFB (mkR s d (argS s p d)):=by
 have hbl : b < H.length:=(zg hb).1
 unfold argS
 rw [box_is]
 have hbk:=hB b s p d (H ++ [ABlk.box (ndC zY)]) (zC hb) hp hl
 have hql:=zBo hp
 generalize skip s p = q at *
 have hwo:=fun H' h=>hWo b s q d H' h hql hl
 have hel:=zHX hql
 have htl : (sub s q (zCJ s q)).length ≤ 1000:=by rw [zKC hel]; omega
 generalize zCJ s q = e at *
 have hrr:=fun H'=>hR (sub s q e) H' htl
 have hTT : ∃ r,bl s ((P s).loose 1 p d) = r:=⟨_,rfl⟩
 obtain ⟨r0,hr0⟩:=hTT
 rw [hr0] at hT
 rw [hr0]
 generalize sub s q e = t at *
 cases hrt : zCu t with
 | none=>
  rw [hrt] at hrr
  have hrr : ∀ H',C zA6 [.str t] H' (.tup [rV noRef,zFX 2]) H':=hrr
  clear hB hF hWo hR
  simp only
  refine zAE ?_
  cases r0 with
  | none=>
   have hT:=fun H' h=>(hT H' h).2 rfl
   have e : mkR s d none = none:=rfl
   rw [e]
   refine zp hbk (fun h=>by cases h) <| zB (zJ q) (zE (zC hb)) rfl <| zp (hwo _ hP) (fun h=>by cases h) <| zI (hrr _) <| zS rfl <| zS rfl ?_; refine zF (v:=rV noRef) (AV.cells (rV noRef)) zD rfl rfl rfl rfl <| zS rfl ?_; refine zH <| zH <| zH <| zH <| zH <| zF (v:=zJ q) [AV.str s,zJ q,zJ d] (zA tA (zC (zE (zE (zC hb))))) rfl rfl rfl rfl ?_; refine zAb (hT _ hP) ?_
   exact zB1 (by first | rfl | assumption) rfl rfl rfl ((((((((OldB.start hb).push _).setB _).setB _).push _).set tA _).setB _).setB _) rfl (by first | exact WkL.refl _ | exact zGA _ _ _) (by first | exact Wk.refl _ | exact zB2 _ _)
  | some x=>
   obtain ⟨n,e'⟩:=x
   have hT:=fun H' h=>(hT H' h).1 n e' rfl
   have e0 : mkR s d (some (n,e')) = some (ndV n,rdB s e' d):=rfl
   rw [e0]
   refine zp hbk (fun h=>by cases h) <| zB (zJ q) (zE (zC hb)) rfl <| zp (hwo _ hP) (fun h=>by cases h) <| zI (hrr _) <| zS rfl <| zS rfl ?_; refine zF (v:=rV noRef) (AV.cells (rV noRef)) zD rfl rfl rfl rfl <| zS rfl ?_; refine zH <| zH <| zH <| zH <| zH <| zF (v:=zJ q) [AV.str s,zJ q,zJ d] (zA tA (zC (zE (zE (zC hb))))) rfl rfl rfl rfl ?_; refine zBp (hT _ hP) <| zF (v:=ndV n) (AV.cells (ndV n)) (zA tA (zA tA (zA tA (zC (zA tA (zA tA zD)))))) rfl rfl rfl rfl ?_
   exact z8 (o:=0) (ndV n) (by first | rfl | assumption) rfl rfl (zL (zE (zA tA (zA tA (zA tA (zC (zA tA (zA tA zD)))))))) rfl rfl rfl (((((((((OldB.start hb).push _).setB _).setB _).push _).set tA _).setB _).setB _).set tA _) rfl
 | some r=>
  rw [hrt] at hrr
  have hrr : ∀ H',C zA6 [.str t] H' (.tup [rV r,.nili]) H':=hrr
  simp only
  by_cases h58 : s[e]? = some 58
  case neg=>
   rw [zMe h58]
   clear hB hF hWo hR
   simp only
   refine zAE ?_
   by_cases hlt : e < s.length
   ·obtain ⟨c,hc⟩ : ∃ c,s[e]? = some c:=⟨_,zMf hlt⟩
    have hn : c.toNat ≠ 58:=fun x=>h58 (by rw [hc,show c = 58 from zM0.1 x])
    cases r0 with
    | none=>
     have hT:=fun H' h=>(hT H' h).2 rfl
     have e : mkR s d none = none:=rfl
     rw [e]
     refine zp hbk (fun h=>by cases h) <| zB (zJ q) (zE (zC hb)) rfl <| zp (hwo _ hP) (fun h=>by cases h) <| zI (hrr _) <| zS rfl <| zS rfl ?_; refine zF (v:=rV r) (AV.cells (rV r)) zD rfl rfl rfl rfl <| zS rfl <| zG <| zB _ (zA tA (zC (zE (zE (zC hb))))) rfl <| zB (AV.str s) (zA tA (zC (zE (zE (zC hb))))) rfl ?_; refine zG <| zO tN <| zB (AV.str s) (zA tA (zC (zE (zE (zC hb))))) rfl <| zB _ (zA tA (zC (zE (zE (zC hb))))) rfl <| zn rfl hc ?_
     refine zG <| zP (zNP.2 tO) <| zF (v:=zJ q) [AV.str s,zJ q,zJ d] (zA tA (zC (zE (zE (zC hb))))) rfl rfl rfl rfl <| zAb (hT _ hP) ?_
     exact zB1 (by first | rfl | assumption) rfl rfl rfl ((((((((OldB.start hb).push _).setB _).setB _).push _).set tA _).setB _).setB _) rfl (by first | exact WkL.refl _ | exact zGA _ _ _) (by first | exact Wk.refl _ | exact zB2 _ _)
    | some x=>
     obtain ⟨n,e'⟩:=x
     have hT:=fun H' h=>(hT H' h).1 n e' rfl
     have e0 : mkR s d (some (n,e')) = some (ndV n,rdB s e' d):=rfl
     rw [e0]
     refine zp hbk (fun h=>by cases h) <| zB (zJ q) (zE (zC hb)) rfl <| zp (hwo _ hP) (fun h=>by cases h) <| zI (hrr _) <| zS rfl <| zS rfl ?_; refine zF (v:=rV r) (AV.cells (rV r)) zD rfl rfl rfl rfl <| zS rfl <| zG <| zB (zJ e) (zA tA (zC (zE (zE (zC hb))))) rfl <| zB (AV.str s) (zA tA (zC (zE (zE (zC hb))))) rfl ?_; refine zG <| zO tN <| zB (AV.str s) (zA tA (zC (zE (zE (zC hb))))) rfl <| zB (zJ e) (zA tA (zC (zE (zE (zC hb))))) rfl <| zn rfl hc ?_
     refine zG <| zP (zNP.2 tO) <| zF (v:=zJ q) [AV.str s,zJ q,zJ d] (zA tA (zC (zE (zE (zC hb))))) rfl rfl rfl rfl <| zBp (hT _ hP) <| zF (v:=ndV n) (AV.cells (ndV n)) (zA tA (zA tA (zA tA (zC (zA tA (zA tA zD)))))) rfl rfl rfl rfl ?_
     exact z8 (o:=0) (ndV n) (by first | rfl | assumption) rfl rfl (zL (zE (zA tA (zA tA (zA tA (zC (zA tA (zA tA zD)))))))) rfl rfl rfl (((((((((OldB.start hb).push _).setB _).setB _).push _).set tA _).setB _).setB _).set tA _) rfl
   ·cases r0 with
    | none=>
     have hT:=fun H' h=>(hT H' h).2 rfl
     have e : mkR s d none = none:=rfl
     rw [e]
     refine zp hbk (fun h=>by cases h) <| zB (zJ q) (zE (zC hb)) rfl <| zp (hwo _ hP) (fun h=>by cases h) <| zI (hrr _) <| zS rfl <| zS rfl ?_; refine zF (v:=rV r) (AV.cells (rV r)) zD rfl rfl rfl rfl <| zS rfl <| zG <| zB _ (zA tA (zC (zE (zE (zC hb))))) rfl <| zB (AV.str s) (zA tA (zC (zE (zE (zC hb))))) rfl ?_; refine zG <| zP tE <| zH <| zH <| zF (v:=zJ q) [AV.str s,zJ q,zJ d] (zA tA (zC (zE (zE (zC hb))))) rfl rfl rfl rfl <| zAb (hT _ hP) ?_
     exact zB1 (by first | rfl | assumption) rfl rfl rfl ((((((((OldB.start hb).push _).setB _).setB _).push _).set tA _).setB _).setB _) rfl (by first | exact WkL.refl _ | exact zGA _ _ _) (by first | exact Wk.refl _ | exact zB2 _ _)
    | some x=>
     obtain ⟨n,e'⟩:=x
     have hT:=fun H' h=>(hT H' h).1 n e' rfl
     have e0 : mkR s d (some (n,e')) = some (ndV n,rdB s e' d):=rfl
     rw [e0]
     refine zp hbk (fun h=>by cases h) <| zB (zJ q) (zE (zC hb)) rfl <| zp (hwo _ hP) (fun h=>by cases h) <| zI (hrr _) <| zS rfl <| zS rfl ?_; refine zF (v:=rV r) (AV.cells (rV r)) zD rfl rfl rfl rfl <| zS rfl <| zG <| zB (zJ e) (zA tA (zC (zE (zE (zC hb))))) rfl <| zB (AV.str s) (zA tA (zC (zE (zE (zC hb))))) rfl ?_; refine zG <| zP tE <| zH <| zH <| zF (v:=zJ q) [AV.str s,zJ q,zJ d] (zA tA (zC (zE (zE (zC hb))))) rfl rfl rfl rfl <| zBp (hT _ hP) ?_
     refine zF (v:=ndV n) (AV.cells (ndV n)) (zA tA (zA tA (zA tA (zC (zA tA (zA tA zD)))))) rfl rfl rfl rfl ?_
     exact z8 (o:=0) (ndV n) (by first | rfl | assumption) rfl rfl (zL (zE (zA tA (zA tA (zA tA (zC (zA tA (zA tA zD)))))))) rfl rfl rfl (((((((((OldB.start hb).push _).setB _).setB _).push _).set tA _).setB _).setB _).set tA _) rfl
  case pos=>
   have hlt : e < s.length:=(zg h58).1
   rw [zMg h58]
   clear hT
   simp only
   have hwo2:=fun H' h=>hWo b s (e + 1) d H' h tO hl
   have hel2:=zHX (s:=s) (a:=e + 1) tO
   have htl2 : (sub s (e + 1) (zCJ s (e + 1))).length ≤ 1000:=by rw [zKC hel2]; omega
   generalize zCJ s (e + 1) = e2 at *
   have hrr2:=fun H'=>hR (sub s (e + 1) e2) H' htl2
   generalize sub s (e + 1) e2 = t2 at *
   have hf:=fun H' h=>hF b s e2 d (e + 1 : Nat) 2 H' h
   clear hB hF hWo hR
   refine zAE ?_
   cases hrt2 : zCu t2 with
   | none=>
    rw [hrt2] at hrr2
    have hrr2 : ∀ H',C zA6 [.str t2] H' (.tup [rV noRef,zFX 2]) H':=hrr2
    have e0 : mkR s d (Option.map (fun r2=>(boxN r r2,e2)) none) = none:=rfl
    rw [e0]
    refine zp hbk (fun h=>by cases h) <| zB (zJ q) (zE (zC hb)) rfl <| zp (hwo _ hP) (fun h=>by cases h) <| zI (hrr _) <| zS rfl <| zS rfl ?_; refine zF (v:=rV r) (AV.cells (rV r)) zD rfl rfl rfl rfl <| zS rfl <| zG <| zB (zJ e) (zA tA (zC (zE (zE (zC hb))))) rfl <| zB (AV.str s) (zA tA (zC (zE (zE (zC hb))))) rfl ?_; refine zG <| zO tN <| zB (AV.str s) (zA tA (zC (zE (zE (zC hb))))) rfl <| zB (zJ e) (zA tA (zC (zE (zE (zC hb))))) rfl <| zn rfl h58 ?_
    refine zG <| zO (zNA.2 (by rfl)) <| zB (zJ e) (zA tA (zC (zE (zE (zC hb))))) rfl <| zM (r:=e + 1) rfl tO <| zF (v:=.int .i64 ↑(e + 1)) [AV.str s,.int .i64 ↑(e + 1),zJ d] (zA tA (zC (zE (zE (zC hb))))) rfl rfl rfl rfl <| zB (.int .i64 ↑(e + 1)) (zE (zA tA (zC (zE (zE (zC hb)))))) rfl ?_; refine zp (hwo2 _ hP) (fun h=>by cases h) <| zI (hrr2 _) <| zS rfl <| zS rfl <| zF (v:=rV noRef) (AV.cells (rV noRef)) zD rfl rfl rfl rfl <| zS rfl ?_
    refine zH <| zAb (hf _ hP) ?_
    exact zB1 (by first | rfl | assumption) rfl rfl rfl (((((((((((OldB.start hb).push _).setB _).setB _).push _).set tA _).setB _).setB _).push _).set tA _).setB _) rfl (by first | exact WkL.refl _ | exact zGA _ _ _) (by first | exact Wk.refl _ | exact zB2 _ _)
   | some r2=>
    rw [hrt2] at hrr2
    have hrr2 : ∀ H',C zA6 [.str t2] H' (.tup [rV r2,.nili]) H':=hrr2
    have e0 : mkR s d (Option.map (fun r2=>(boxN r r2,e2)) (some r2)) = some (ndV (boxN r r2),rdB s e2 d):=rfl
    rw [e0]
    refine zp hbk (fun h=>by cases h) <| zB (zJ q) (zE (zC hb)) rfl <| zp (hwo _ hP) (fun h=>by cases h) <| zI (hrr _) <| zS rfl <| zS rfl ?_; refine zF (v:=rV r) (AV.cells (rV r)) zD rfl rfl rfl rfl <| zS rfl <| zG <| zB (zJ e) (zA tA (zC (zE (zE (zC hb))))) rfl <| zB (AV.str s) (zA tA (zC (zE (zE (zC hb))))) rfl ?_; refine zG <| zO tN <| zB (AV.str s) (zA tA (zC (zE (zE (zC hb))))) rfl <| zB (zJ e) (zA tA (zC (zE (zE (zC hb))))) rfl <| zn rfl h58 ?_
    refine zG <| zO (zNA.2 (by rfl)) <| zB (zJ e) (zA tA (zC (zE (zE (zC hb))))) rfl <| zM (r:=e + 1) rfl tO <| zF (v:=.int .i64 ↑(e + 1)) [AV.str s,.int .i64 ↑(e + 1),zJ d] (zA tA (zC (zE (zE (zC hb))))) rfl rfl rfl rfl <| zB (.int .i64 ↑(e + 1)) (zE (zA tA (zC (zE (zE (zC hb)))))) rfl ?_; refine zp (hwo2 _ hP) (fun h=>by cases h) <| zI (hrr2 _) <| zS rfl <| zS rfl <| zF (v:=rV r2) (AV.cells (rV r2)) zD rfl rfl rfl rfl <| zS rfl ?_
    refine zG <| zB (rV r) (zA tA (zC (zA tA (zA tA (zE zD))))) rfl <| zB (rV r2) (zE zD) rfl <| zS (v:=[.int .i64 6,.int .i64 0,AV.str [],.int .i64 r.col,.int .i64 r.row,AV.bool r.fc,AV.bool r.fr,.int .i64 r2.col,.int .i64 r2.row,AV.bool r2.fc,AV.bool r2.fr,AV.lst (some true) 0 []]) rfl <| zF (v:=AV.agg [.int .i64 6,.int .i64 0,AV.str [],.int .i64 r.col,.int .i64 r.row,AV.bool r.fc,AV.bool r.fr,.int .i64 r2.col,.int .i64 r2.row,AV.bool r2.fc,AV.bool r2.fr,AV.lst (some true) 0 []]) (AV.cells (AV.agg [.int .i64 6,.int .i64 0,AV.str [],.int .i64 r.col,.int .i64 r.row,AV.bool r.fc,AV.bool r.fr,.int .i64 r2.col,.int .i64 r2.row,AV.bool r2.fc,AV.bool r2.fr,AV.lst (some true) 0 []])) (zA tA (zC (zA tA (zA tA (zA tA (zC (zA tA (zA tA zD)))))))) rfl rfl rfl rfl ?_
    exact z8 (o:=0) (AV.agg [.int .i64 6,.int .i64 0,AV.str [],.int .i64 r.col,.int .i64 r.row,AV.bool r.fc,AV.bool r.fr,.int .i64 r2.col,.int .i64 r2.row,AV.bool r2.fc,AV.bool r2.fr,AV.lst (some true) 0 []]) (by first | rfl | assumption) rfl rfl (zL (zE (zA tA (zC (zA tA (zA tA (zA tA (zC (zA tA (zA tA zD)))))))))) rfl rfl rfl (((((((((((OldB.start hb).push _).setB _).setB _).push _).set tA _).setB _).setB _).push _).set tA _).set tA _) rfl
end
end Go.AM
set_option maxRecDepth 20000
namespace Go.AM
def zIc (c : UInt8) (d : Option UInt8) : Bs:=match d with
 | some d=>if (c = 60 ∧ d = 62) ∨ (c = 60 ∧ d = 61) ∨ (c = 62 ∧ d = 61) then [c,d] else [c]
 | none=>[c]
theorem opAt_is {s : Bs} {q : Nat} {c : UInt8} (h : s[q]? = some c) (h32 : c ≠ 32) (h34 : c ≠ 34) (h35 : c ≠ 35) (hw : z6 c = false) :
  zIg s q = if zBK (zIc c s[q + 1]?) = 0 then none else some (zBK (zIc c s[q + 1]?),q + (zIc c s[q + 1]?).length):=by
 unfold zIg
 rw [zKb (by rw [h]; exact fun e=>h32 (zM5 e))]
 unfold zCX
 rw [h]
 simp only [hw,zMm,zNB,h34,h35]
 unfold zIc
 cases s[q + 1]? with
 | none=>rfl
 | some d=>
  simp only
  by_cases hx : (c = 60 ∧ d = 62) ∨ (c = 60 ∧ d = 61) ∨ (c = 62 ∧ d = 61)
  ·simp only [zMg hx]; rfl
  ·simp only [zMe hx]; rfl
theorem opAt_some {s : Bs} {q op e : Nat} (hs : s[q]? ≠ some 32) (h : zIg s q = some (op,e)) : ∃ c,s[q]? = some c ∧ c ≠ 34 ∧ c ≠ 35 ∧ z6 c = false:=by
 unfold zIg at h
 rw [zKb hs] at h
 unfold zCX at h
 cases hc : s[q]? with
 | none=>rw [hc] at h; cases h
 | some c=>
  rw [hc] at h
  simp only at h
  refine ⟨c,rfl, ?_, ?_, ?_⟩
  ·rintro rfl
   have hw : z6 34 = false:=by decide
   simp only [hw,zMm,zNB,zND] at h
   cases hq : quo (s.drop (q + 1)) (q + 1) with
   | none=>rw [hq] at h; cases h
   | some x=>rw [hq] at h; cases h
  ·rintro rfl
   have hw : z6 35 = false:=by decide
   have h1 : ¬ ((35 : UInt8) = 34):=by decide
   simp only [hw,zMm,zNB,zND,h1] at h
   cases hq : zJ8 (s.drop q) wrongs 1 with
   | none=>rw [hq] at h; cases h
   | some x=>rw [hq] at h; cases h
  ·cases hw : z6 c with
   | false=>rfl
   | true=>rw [hw] at h; simp at h
def sgn : Nat → List Bs
 | 0=>[[60,62],[60,61],[62,61],[61],[60],[62]]
 | 1=>[[38]]
 | 2=>[[43],[45]]
 | 3=>[[42],[47]]
 | _=>[]
theorem zGc {s : Bs} {q : Nat} {c d : UInt8} : ([c,d] : Bs).isPrefixOf (s.drop q) = true ↔ s[q]? = some c ∧ s[q + 1]? = some d:=by
 cases hc : s[q]? with
 | none=>rw [zHW hc]; simp
 | some c'=>
  rw [zBD hc]
  cases hd : s[q + 1]? with
  | none=>rw [zHW hd]; simp [List.isPrefixOf]
  | some d'=>
   rw [zBD hd]
   simp only [List.isPrefixOf,zOE,zMd,zM6,zMc]
   exact ⟨fun h=>⟨h.1.symm,h.2.symm⟩,fun h=>⟨h.1.symm,h.2.symm⟩⟩
theorem zDw {s : Bs} {q : Nat} {c : UInt8} : ([c] : Bs).isPrefixOf (s.drop q) = true ↔ s[q]? = some c:=by
 cases hc : s[q]? with
 | none=>rw [zHW hc]; simp
 | some c'=>
  rw [zBD hc]
  simp only [List.isPrefixOf,zOE,zM6,zMc]
  exact ⟨fun h=>h.symm,fun h=>h.symm⟩
theorem op_two {s : Bs} {q : Nat} {c d : UInt8} (h1 : s[q]? = some c) (h2 : s[q + 1]? = some d) (hcd : (c = 60 ∧ d = 62) ∨ (c = 60 ∧ d = 61) ∨ (c = 62 ∧ d = 61)) : zIg s q = some (zBK [c,d],q + 2):=by
 have h3 : c ≠ 32 ∧ c ≠ 34 ∧ c ≠ 35 ∧ z6 c = false ∧ zBK [c,d] ≠ 0:=by rcases hcd with ⟨rfl,rfl⟩ | ⟨rfl,rfl⟩ | ⟨rfl,rfl⟩ <;> decide
 rw [opAt_is h1 h3.1 h3.2.1 h3.2.2.1 h3.2.2.2.1,h2]
 have e : zIc c (some d) = [c,d]:=zMg hcd
 rw [e,zMe h3.2.2.2.2]; rfl
theorem zKc {s : Bs} {q : Nat} {c : UInt8} (h1 : s[q]? = some c) (hc : c = 60 ∨ c = 62 ∨ c = 61 ∨ c = 38 ∨ c = 43 ∨ c = 45 ∨ c = 42 ∨ c = 47) (hn : ∀ d,s[q + 1]? = some d → ¬ ((c = 60 ∧ d = 62) ∨ (c = 60 ∧ d = 61) ∨ (c = 62 ∧ d = 61))) : zIg s q = some (zBK [c],q + 1):=by
 have h3 : c ≠ 32 ∧ c ≠ 34 ∧ c ≠ 35 ∧ z6 c = false ∧ zBK [c] ≠ 0:=by rcases hc with rfl | rfl | rfl | rfl | rfl | rfl | rfl | rfl <;> decide
 rw [opAt_is h1 h3.1 h3.2.1 h3.2.2.1 h3.2.2.2.1]
 have e : zIc c s[q + 1]? = [c]:=by
  unfold zIc
  cases hd : s[q + 1]? with
  | none=>rfl
  | some d=>simp only; rw [zMe (hn d hd)]
 rw [e,zMe h3.2.2.2.2]; rfl
theorem op_match {s : Bs} {q l i : Nat} {t : Bs} (ht : (sgn l)[i]? = some t) (hp : t.isPrefixOf (s.drop q) = true) (hno : ∀ j u,j < i → (sgn l)[j]? = some u → u.isPrefixOf (s.drop q) = false) :
  zIg s q = some (zBK t,q + t.length) ∧ tight (zBK t) = l + 1 ∧ zBK t ≠ 0:=by
 rcases l with _ | _ | _ | _ | l
 ·rcases i with _ | _ | _ | _ | _ | _ | i
  ·cases ht; have:=zGc.1 hp; exact ⟨op_two this.1 this.2 (by decide),by decide,by decide⟩
  ·cases ht; have:=zGc.1 hp; exact ⟨op_two this.1 this.2 (by decide),by decide,by decide⟩
  ·cases ht; have:=zGc.1 hp; exact ⟨op_two this.1 this.2 (by decide),by decide,by decide⟩
  ·cases ht; have:=zDw.1 hp; exact ⟨zKc this (by decide) (fun d _=>by rintro (⟨h,_⟩ | ⟨h,_⟩ | ⟨h,_⟩) <;> revert h <;> decide),by decide,by decide⟩
  ·cases ht
   have h1:=zDw.1 hp
   refine ⟨zKc h1 (by decide) (fun d hd=>?_),by decide,by decide⟩
   rintro (⟨_,rfl⟩ | ⟨_,rfl⟩ | ⟨h,_⟩)
   ·have:=hno 0 _ tO rfl; rw [zGc.2 ⟨h1,hd⟩] at this; cases this
   ·have:=hno 1 _ tO rfl; rw [zGc.2 ⟨h1,hd⟩] at this; cases this
   ·revert h; decide
  ·cases ht
   have h1:=zDw.1 hp
   refine ⟨zKc h1 (by decide) (fun d hd=>?_),by decide,by decide⟩
   rintro (⟨h,_⟩ | ⟨h,_⟩ | ⟨_,rfl⟩)
   ·revert h; decide
   ·revert h; decide
   ·have:=hno 2 _ tO rfl; rw [zGc.2 ⟨h1,hd⟩] at this; cases this
  ·simp [sgn] at ht
 ·rcases i with _ | i
  ·cases ht; have:=zDw.1 hp; exact ⟨zKc this (by decide) (fun d _=>by rintro (⟨h,_⟩ | ⟨h,_⟩ | ⟨h,_⟩) <;> revert h <;> decide),by decide,by decide⟩
  ·simp [sgn] at ht
 ·rcases i with _ | _ | i
  ·cases ht; have:=zDw.1 hp; exact ⟨zKc this (by decide) (fun d _=>by rintro (⟨h,_⟩ | ⟨h,_⟩ | ⟨h,_⟩) <;> revert h <;> decide),by decide,by decide⟩
  ·cases ht; have:=zDw.1 hp; exact ⟨zKc this (by decide) (fun d _=>by rintro (⟨h,_⟩ | ⟨h,_⟩ | ⟨h,_⟩) <;> revert h <;> decide),by decide,by decide⟩
  ·simp [sgn] at ht
 ·rcases i with _ | _ | i
  ·cases ht; have:=zDw.1 hp; exact ⟨zKc this (by decide) (fun d _=>by rintro (⟨h,_⟩ | ⟨h,_⟩ | ⟨h,_⟩) <;> revert h <;> decide),by decide,by decide⟩
  ·cases ht; have:=zDw.1 hp; exact ⟨zKc this (by decide) (fun d _=>by rintro (⟨h,_⟩ | ⟨h,_⟩ | ⟨h,_⟩) <;> revert h <;> decide),by decide,by decide⟩
  ·simp [sgn] at ht
 ·simp [sgn] at ht
theorem opNo_mem {t : Bs} {l : Nat} (hne : ¬ zBK t = 0) (ht : tight (zBK t) = l + 1) : t ∈ sgn l:=by
 by_cases h0 : t = [61]
 ·subst h0
  have e : tight (zBK [61]) = 1:=by decide
  have e2 : l = 0:=by omega
  subst e2; decide
 by_cases h1 : t = [60,62]
 ·subst h1
  have e : tight (zBK [60,62]) = 1:=by decide
  have e2 : l = 0:=by omega
  subst e2; decide
 by_cases h2 : t = [60]
 ·subst h2
  have e : tight (zBK [60]) = 1:=by decide
  have e2 : l = 0:=by omega
  subst e2; decide
 by_cases h3 : t = [60,61]
 ·subst h3
  have e : tight (zBK [60,61]) = 1:=by decide
  have e2 : l = 0:=by omega
  subst e2; decide
 by_cases h4 : t = [62]
 ·subst h4
  have e : tight (zBK [62]) = 1:=by decide
  have e2 : l = 0:=by omega
  subst e2; decide
 by_cases h5 : t = [62,61]
 ·subst h5
  have e : tight (zBK [62,61]) = 1:=by decide
  have e2 : l = 0:=by omega
  subst e2; decide
 by_cases h6 : t = [38]
 ·subst h6
  have e : tight (zBK [38]) = 2:=by decide
  have e2 : l = 1:=by omega
  subst e2; decide
 by_cases h7 : t = [43]
 ·subst h7
  have e : tight (zBK [43]) = 3:=by decide
  have e2 : l = 2:=by omega
  subst e2; decide
 by_cases h8 : t = [45]
 ·subst h8
  have e : tight (zBK [45]) = 3:=by decide
  have e2 : l = 2:=by omega
  subst e2; decide
 by_cases h9 : t = [42]
 ·subst h9
  have e : tight (zBK [42]) = 4:=by decide
  have e2 : l = 3:=by omega
  subst e2; decide
 by_cases h10 : t = [47]
 ·subst h10
  have e : tight (zBK [47]) = 4:=by decide
  have e2 : l = 3:=by omega
  subst e2; decide
 ·exact absurd (by unfold zBK; simp only [h0,h1,h2,h3,h4,h5,h6,h7,h8,h9,h10,zNB]) hne
theorem op_none {s : Bs} {q l : Nat} (hs : s[q]? ≠ some 32) (hno : ∀ t,t ∈ sgn l → t.isPrefixOf (s.drop q) = false) {op e : Nat} (h : zIg s q = some (op,e)) : tight op ≠ l + 1:=by
 obtain ⟨c,hc,h34,h35,hw⟩:=opAt_some hs h
 rw [opAt_is hc (fun x=>hs (by rw [hc,x])) h34 h35 hw] at h
 split at h
 ·cases h
 ·rename_i hne
  cases h
  intro ht
  have hpre : (zIc c s[q + 1]?).isPrefixOf (s.drop q) = true:=by
   unfold zIc
   cases hd : s[q + 1]? with
   | none=>exact zDw.2 hc
   | some d=>
    simp only
    split
    ·exact zGc.2 ⟨hc,hd⟩
    ·exact zDw.2 hc
  generalize zIc c s[q + 1]? = t at *
  have hmem : t ∈ sgn l:=opNo_mem hne ht
  rw [hno t hmem] at hpre
  cases hpre
theorem boxAt_skip (s : Bs) (a : Nat) : zEB s (skip s a) = zEB s a:=by unfold zEB; rw [zJX]
theorem args_skip {s : Bs} {a : Nat} (nm : Bs) (ks : List Nd) (d : Nat) (ha : a ≤ s.length) : (P s).args nm ks (skip s a) d = (P s).args nm ks a d:=by
 rw [zMQ nm ks d (zBo ha),zMQ nm ks d ha]
 unfold zF1 zEj
 rw [boxAt_skip,loose_skip 1 d ha]
theorem args_step {s : Bs} {a : Nat} (nm : Bs) (ks : List Nd) (d : Nat) (ha : a ≤ s.length) : (P s).args nm ks a d = (argS s a d).bind fun p=>if s[skip s p.2]? = some 44 then (P s).args nm (ks ++ [p.1]) (skip s p.2 + 1) d else if s[skip s p.2]? = some 41 then some (zEi nm (ks ++ [p.1]),skip s p.2 + 1) else none:=by
 rw [zMQ nm ks d ha]
 have key : ∀ p : Nd × Nat,(match tok s p.2 with
   | .sign e [44]=>(P s).args nm (ks ++ [p.1]) e d
   | .sign e [41]=>some (zEi nm (ks ++ [p.1]),e)
   | _=>none) = if s[skip s p.2]? = some 44 then (P s).args nm (ks ++ [p.1]) (skip s p.2 + 1) d else if s[skip s p.2]? = some 41 then some (zEi nm (ks ++ [p.1]),skip s p.2 + 1) else none:=fun p=>by
  by_cases h44 : s[skip s p.2]? = some 44
  ·rw [zF3 h44 (by decide),zMg h44]; rfl
  ·rw [zMe h44]
   by_cases h41 : s[skip s p.2]? = some 41
   ·rw [zF3 h41 (by decide),zMg h41]; rfl
   ·rw [zMe h41]
    split
    ·rename_i e hk; exact absurd (zGb hk).1 h44
    ·rename_i e hk; exact absurd (zGb hk).1 h41
    ·rfl
 unfold zF1 zEj argS
 cases zEB s a with
 | some r=>
  simp only
  refine zDF rfl fun p _=>?_
  exact key p
 | none=>
  simp only
  unfold bl
  cases (P s).loose 1 a d with
  | none=>rfl
  | some p=>
   simp only [zMv,zNb]
   rw [zEh]
   exact key p
theorem argS_ends {s : Bs} {a d : Nat} (ha : a ≤ s.length) {p : Nd × Nat} (h : argS s a d = some p) : a < p.2 ∧ p.2 ≤ s.length:=by
 unfold argS at h
 split at h
 ·rename_i r hb
  subst h
  exact boxAt_ends hb
 ·unfold bl at h
  rw [zMk] at h
  obtain ⟨q,h1,rfl⟩:=h
  have:=(zCE s).loose 1 a d q ha h1
  have h2:=zEg s q.2
  have h3:=zBo this.2
  exact ⟨by simp only; omega,h3⟩
theorem callS_is {s t : Bs} {e d : Nat} (he : e + 1 ≤ s.length) : zG3 s t e d = if s[skip s (e + 1)]? = some 41 then some (zEi t [],skip s (e + 1) + 1) else (P s).args t [] (skip s (e + 1)) d:=by
 rw [args_skip t [] d he]
 unfold zG3
 by_cases h41 : s[skip s (e + 1)]? = some 41
 ·rw [zF3 h41 (by decide),zMg h41]; rfl
 ·rw [zMe h41]
  split
  ·rename_i e2 hk; exact absurd (zGb hk).1 h41
  ·rfl
end Go.AM
set_option maxRecDepth 20000
namespace Go.AM
def zAN (name : Bs) (v : AV) : List AV:=[.int .i64 9,.int .i64 0,.str name,.int .i64 0,.int .i64 0,.bool false,.bool false,.int .i64 0,.int .i64 0,.bool false,.bool false,v]
theorem zJa (name : Bs) (ks : List Nd) : ndV (zEi name ks) = .agg (zAN name (zFi 12 (ks.map ndV))):=by
 cases ks with
 | nil=>rfl
 | cons k r=>
  show AV.agg (zAN name (.lst (some false) 12 (kidL (k :: r)))) = _
  rw [kidL_map]; rfl
theorem zJb {H0 H : Heap} {v : AV} {xs : List AV} {b : Nat} {B : ABlk} (name : Bs) (ho : Owns H0 H v 12 xs) {H1 : Heap} (hl : H1.length = H0.length) (hB : OldB H1 b B H) : ∃ H',zDR H1.length (.agg (zAN name v)) H = some (.agg (zAN name (zFi 12 xs)),H') ∧ OldB H1 b B H':=by
 rcases ho with ⟨rfl,rfl⟩ | ⟨nb,rfl,h1,h2,h3⟩
 ·exact ⟨H,rfl,hB⟩
 ·have hn : ¬ nb < H1.length:=by omega
  refine ⟨H.set nb (.frz 12 xs), ?_,hB.set tO _⟩
  simp only [zAN,zDR,zIi,hn,zNB,h2]
  cases xs with
  | nil=>exact absurd rfl h3
  | cons x r=>simp [frzQ,zFi]
theorem zF4 {name : Bs} {v : AV} (h : v.one = true) : (AV.agg (zAN name v)).cells.all AV.one = true:=by
 simp only [zAN,AV.cells,zOD,List.all_nil,h,zOE]; rfl
theorem zHZ (n : Nat) (name : Bs) (xs : List AV) : (AV.agg (zAN name (zFi 12 xs))).bel n = true:=by cases xs <;> rfl
theorem Owns.setBox {H0 H : Heap} {v : AV} {k c : Nat} {xs cs : List AV} (h : Owns H0 H v k xs) (hc : H[c]? = some (.box cs)) (y : ABlk) : Owns H0 (H.set c y) v k xs:=h.set (h.notBox hc) y
theorem zCr {b k o : Nat} {v : AV} {cs : List AV} (cs' : List AV) {H : Heap} {K : AV → Heap → Prop} (h : H[b]? = some (.box cs)) (hv : v.cells = [v] ∧ v.one = true) (ho : Nat.ble (o + 1) cs.length = true) (he : splice cs o [v] = cs')
  (q : K .undef (H.set b (.box cs'))) : actP (.store 1) [.ref b k 0 o,v] H K:=
 zF cs' h (by rw [hv.1]; rfl) (by rw [hv.1]; simp [hv.2]) ho (by rw [hv.1]; exact he) q
structure CSt where
 a : Nat
 v : AV
 ks : List Nd
section
variable {C : CSpec} {GT : Nat → Option AV}
theorem call_ev (hB : ∀ b s p d H,H[b]? = some (rdB s p d) → p ≤ s.length → s.length ≤ 200 → C za [pR b] H (.tup []) (H.set b (rdB s (skip s p) d)))
  (hWt : ∀ c b s p d H,H[b]? = some (rdB s p d) → p ≤ s.length → s.length ≤ 200 → (s[skip s p]? = some c → C zx [pR b,byV c] H (.tup []) (H.set b (rdB s (skip s p + 1) d))) ∧ (s[skip s p]? ≠ some c → C zx (.pan .undef :: [pR b,byV c]) H zFB (H.set b (.box (wkC s)))))
  (t : Bs) (b : Nat) (s : Bs) (p d : Nat) (H : Heap) (hb : H[b]? = some (rdB s p d)) (hp : p < s.length) (hl : s.length ≤ 200)
  (hA : ∀ a H',p < a → a ≤ s.length → H'[b]? = some (rdB s a d) → CR C zAu [pR b] H' b s d (argS s a d)) :
  zCA C GT zBU [pR b,.str t] H b (wkC s) zFB (mkR s d (zG3 s t p d)):=by
 have hbl : b < H.length:=(zg hb).1
 have hbk:=fun a H' h1 h2=>hB b s a d H' h1 h2 hl
 have hwt:=fun a H' h1 h2=>hWt 41 b s a d H' h1 h2 hl
 have hl5 : (H ++ [ABlk.box (ndC zY)]).length = H.length + 1:=by simp
 clear hB hWt
 rw [callS_is tO]
 have hpq:=zEg s (p + 1)
 have hql:=zBo (s:=s) (a:=p + 1) tO
 have hbk0:=hbk (p + 1)
 generalize skip s (p + 1) = q at *
 refine zAE ?_
 by_cases h41 : s[q]? = some 41
 ·have hlt : q < s.length:=(zg h41).1
  rw [zMg h41]
  have e0 : mkR s d (some (zEi t [],q + 1)) = some (ndV (zEi t []),rdB s (q + 1) d):=rfl
  rw [e0]
  clear hA hbk hwt
  refine zS (v:=[.int .i64 9,.int .i64 0,AV.str t,.int .i64 0,.int .i64 0,AV.bool false,AV.bool false,.int .i64 0,.int .i64 0,AV.bool false,AV.bool false,AV.lst (some true) 0 []]) rfl <| zF (v:=AV.agg [.int .i64 9,.int .i64 0,AV.str t,.int .i64 0,.int .i64 0,AV.bool false,AV.bool false,.int .i64 0,.int .i64 0,AV.bool false,AV.bool false,AV.lst (some true) 0 []]) (AV.cells (AV.agg [.int .i64 9,.int .i64 0,AV.str t,.int .i64 0,.int .i64 0,AV.bool false,AV.bool false,.int .i64 0,.int .i64 0,AV.bool false,AV.bool false,AV.lst (some true) 0 []])) zD rfl rfl rfl rfl <| zB (zJ p) (zA tA (zC (zC hb))) rfl <| zM (r:=p + 1) rfl tO <| zF (v:=.int .i64 ↑(p + 1)) [AV.str s,.int .i64 ↑(p + 1),zJ d] (zA tA (zC (zC hb))) rfl rfl rfl rfl <| zp (hbk0 _ hP tO) (fun h=>by cases h) ?_
  refine zB (zJ q) (zE (zE (zA tA (zC (zC hb))))) rfl <| zB (AV.str s) (zE (zE (zA tA (zC (zC hb))))) rfl <| zP tT <| zB (AV.str s) (zE (zE (zA tA (zC (zC hb))))) rfl <| zB (zJ q) (zE (zE (zA tA (zC (zC hb))))) rfl <| zn rfl h41 ?_; refine zH <| zP (tE (by rfl)) <| zB (zJ q) (zE (zE (zA tA (zC (zC hb))))) rfl <| zM (r:=q + 1) rfl tO <| zF (v:=.int .i64 ↑(q + 1)) [AV.str s,.int .i64 ↑(q + 1),zJ d] (zE (zE (zA tA (zC (zC hb))))) rfl rfl rfl rfl <| zB (AV.agg [.int .i64 9,.int .i64 0,AV.str t,.int .i64 0,.int .i64 0,AV.bool false,AV.bool false,.int .i64 0,.int .i64 0,AV.bool false,AV.bool false,AV.lst (some true) 0 []]) (zA tA (zA tA (zA tA (zE zD)))) rfl ?_
  refine zF (v:=AV.agg [.int .i64 9,.int .i64 0,AV.str t,.int .i64 0,.int .i64 0,AV.bool false,AV.bool false,.int .i64 0,.int .i64 0,AV.bool false,AV.bool false,AV.lst (some true) 0 []]) (AV.cells (AV.agg [.int .i64 9,.int .i64 0,AV.str t,.int .i64 0,.int .i64 0,AV.bool false,AV.bool false,.int .i64 0,.int .i64 0,AV.bool false,AV.bool false,AV.lst (some true) 0 []])) (zA tA (zA tA (zA tA (zA tA (zC zD))))) rfl rfl rfl rfl ?_
  exact z8 (o:=0) (AV.agg [.int .i64 9,.int .i64 0,AV.str t,.int .i64 0,.int .i64 0,AV.bool false,AV.bool false,.int .i64 0,.int .i64 0,AV.bool false,AV.bool false,AV.lst (some true) 0 []]) (by first | rfl | assumption) rfl rfl (zL (zE (zA tA (zA tA (zA tA (zA tA (zC zD))))))) rfl rfl rfl ((((((((OldB.start hb).push _).push _).set tA _).setB _).setB _).setB _).set tA _) rfl
 rw [zMe h41]
 obtain ⟨r,hr⟩ : ∃ r,(P s).args t [] q d = r:=⟨_,rfl⟩
 rw [hr]
 have hloop : ∀ HH,OldB H b (rdB s q d) HH → HH[b]? = some (rdB s q d) → HH[H.length]? = some (.box (ndC zY)) → HH[(H ++ [ABlk.box (ndC zY)]).length]? = some (.box (zAN t (.lst (some true) 0 []))) →
   loopP C GT [0,4,5] zDL (zKV 0 [4] (zH5 zBU H b (wkC s) zFB (mkR s d r))) [(0,pR b),(4,pR H.length),(5,pR (H ++ [ABlk.box (ndC zY)]).length)] HH:=fun HH g1 g2 g3 g4=>by
  refine zBB (fun x : CSt=>[(0,pR b),(4,pR H.length),(5,pR (H ++ [ABlk.box (ndC zY)]).length)])
   (fun x H'=>Owns H H' x.v 12 (x.ks.map ndV) ∧ OldB H b (rdB s x.a d) H' ∧ H'[b]? = some (rdB s x.a d) ∧ H'[H.length]? = some (.box (ndC zY)) ∧ H'[(H ++ [ABlk.box (ndC zY)]).length]? = some (.box (zAN t x.v)) ∧ p < x.a ∧ x.a ≤ s.length ∧ x.ks.length ≤ x.a ∧ (P s).args t x.ks x.a d = r)
   (fun x=>s.length - x.a) ⟨q,.lst (some true) 0 [],[]⟩ rfl
   ⟨.inl ⟨rfl,rfl⟩,g1,g2,g3,g4,by simp only; omega,hql,by simp,hr⟩ (fun ⟨a,v,ks⟩ H1 ⟨how,hob,hb1,h4,h5,hpa,hal,hkl,hq⟩=>?_)
  dsimp only at how hob hb1 h4 h5 hpa hal hkl hq ⊢
  have hlen1:=hob.old.1
  rw [zMs] at hlen1
  have h5l:=(zg h5).1
  have har:=hA a H1 hpa hal hb1
  rw [args_step t ks d hal] at hq
  clear hA hbk0 hr
  cases hra : argS s a d with
  | none=>
   rw [hra] at har hq
   have hq : none = r:=hq
   subst hq
   have e0 : mkR s d none = none:=rfl
   rw [e0]
   have har:=har.2 rfl
   clear hbk hwt
   refine zG7 ?_ ?_
   ·refine zB (v) h5 rfl <| zAb har ?_
    exact zB1 (by first | rfl | assumption) rfl rfl rfl (hob.setB _) rfl (by first | exact WkL.refl _ | exact zGA _ _ _) (by first | exact Wk.refl _ | exact zB2 _ _)
   ·refine zAb har ?_
    exact zB1 (by first | rfl | assumption) rfl rfl rfl (hob.setB _) rfl (by first | exact WkL.refl _ | exact zGA _ _ _) (by first | exact Wk.refl _ | exact zB2 _ _)
  | some x=>
   obtain ⟨n,e⟩:=x
   have hee:=argS_ends hal hra
   simp only at hee
   rw [hra] at har hq
   simp only [zNb] at hq
   have har:=har.1 n e rfl
   have hbk1:=hbk e
   have hqe:=zEg s e
   have hqle:=zBo hee.2
   have hwt1:=hwt (skip s e)
   rw [zEh] at hwt1
   clear hbk hwt
   generalize skip s e = q1 at *
   have hel : (ndV n).elem 12 = true:=rfl
   have how2:=how.set (how.notBox hb1) (rdB s e d)
   have hob2:=hob.setB (rdB s e d)
   have hlH : (H.set b (rdB s e d)).length = H.length:=zMs
   refine zG7 ?_ ?_
   ·refine zB (v) h5 rfl <| zBp har <| zAD (vs':=[ndV n]) rfl rfl ?_; refine zAV (H0:=H.set b (rdB s e d)) ((how2.base hlH).push _) (hob2.old.push _) zAB tO (by simp only [zMl,zMi,zMt]; omega) (by simp) fun v' H' ho' hH' hb' hf=>?_
    have hx1:=hf b _ (how2.notBox (zE hb1)) (zC (zE hb1))
    have hx4:=hf H.length _ (how2.notBox (zA tO h4)) (zC (zA tO h4))
    have hx5:=hf (H ++ [ABlk.box (ndC zY)]).length _ (how2.notBox (zA tO h5)) (zC (zA tO h5))
    have hlH':=hH'.1
    rw [zMs] at hlH'
    have hob3 : OldB H b (rdB s e d) H':=⟨hbl,hH'⟩
    have hx5l:=(zg hx5).1
    by_cases h44 : s[q1]? = some 44
    ·have hlt : q1 < s.length:=(zg h44).1
     rw [zMg h44] at hq
     clear hwt1
     refine zCr (zAN t v') hx5 ho'.one rfl rfl <| zp (hbk1 _ hP tO) (fun h=>by cases h) <| zB (zJ q1) (zE (zA tA hx1)) rfl <| zB (AV.str s) (zE (zA tA hx1)) rfl <| zP tT <| zB (AV.str s) (zE (zA tA hx1)) rfl ?_; refine zB (zJ q1) (zE (zA tA hx1)) rfl <| zn rfl h44 <| zH <| zP (tE (by rfl)) <| zB (zJ q1) (zE (zA tA hx1)) rfl <| zM (r:=q1 + 1) rfl tO ?_; refine zF (v:=.int .i64 ↑(q1 + 1)) [AV.str s,.int .i64 ↑(q1 + 1),zJ d] (zE (zA tA hx1)) rfl rfl rfl rfl ?_
     refine zAA (CSt.mk (q1 + 1) v' (ks ++ [n])) rfl ⟨?_,(((hob3.set tO _).setB _).setB _),hP,hP,hP,by simp only; omega,by simp only; omega,by simp only [zMn,zMi,zMt]; omega,hq⟩ (by simp only; omega)
     rw [zM2]
     exact (((ho'.setBox hx5 _).setBox hP _).setBox hP _).base hlH.symm
    rw [zMe h44] at hq
    by_cases h41' : s[q1]? = some 41
    ·have hlt : q1 < s.length:=(zg h41').1
     rw [zMg h41'] at hq
     subst hq
     have e0 : mkR s d (some (zEi t (ks ++ [n]),q1 + 1)) = some (.agg (zAN t (zFi 12 ((ks ++ [n]).map ndV))),rdB s (q1 + 1) d):=by rw [← zJa]; rfl
     rw [e0]
     refine zCr (zAN t v') hx5 ho'.one rfl rfl <| zp (hbk1 _ hP tO) (fun h=>by cases h) <| zB (zJ q1) (zE (zA tA hx1)) rfl <| zB (AV.str s) (zE (zA tA hx1)) rfl <| zP tT <| zB (AV.str s) (zE (zA tA hx1)) rfl ?_; refine zB (zJ q1) (zE (zA tA hx1)) rfl <| zn rfl h41' <| zH <| zO (tN (by decide)) <| zBp ((hwt1 _ hP tO).1 h41') <| zB (AV.agg [.int .i64 9,.int .i64 0,AV.str t,.int .i64 0,.int .i64 0,AV.bool false,AV.bool false,.int .i64 0,.int .i64 0,AV.bool false,AV.bool false,v']) (zA tA (zA tA (zE hx5))) rfl ?_
     refine zF (v:=.agg (zAN t v')) (zAN t v') hP rfl (zF4 ho'.one.2) rfl rfl ?_
     have hown : Owns H (((H'.set (H ++ [ABlk.box (ndC zY)]).length (.box (zAN t v'))).set b (rdB s q1 d)).set b (rdB s (q1 + 1) d) |>.set H.length (.box (zAN t v'))) v' 12 ((ks ++ [n]).map ndV):=by
      rw [zM2]
      exact ((((ho'.setBox hx5 _).setBox hP _).setBox hP _).setBox hP _).base hlH.symm
     obtain ⟨H2,hz,hob4⟩:=zJb t hown rfl ((((hob3.set tO _).setB _).setB _).set (zMh _) _)
     exact z8 (o:=0) (.agg (zAN t v')) rfl rfl rfl (zL hP) rfl hz (zHZ _ _ _) hob4 rfl
    ·rw [zMe h41'] at hq
     subst hq
     have e0 : mkR s d none = none:=rfl
     rw [e0]
     by_cases hlt : q1 < s.length
     ·obtain ⟨c,hc⟩ : ∃ c,s[q1]? = some c:=⟨_,zMf hlt⟩
      have hn : c.toNat ≠ 44:=fun x=>h44 (by rw [hc,show c = 44 from zM0.1 x])
      refine zCr (zAN t v') hx5 ho'.one rfl rfl <| zp (hbk1 _ hP tO) (fun h=>by cases h) <| zB (zJ q1) (zE (zA tA hx1)) rfl <| zB (AV.str s) (zE (zA tA hx1)) rfl <| zP tT <| zB (AV.str s) (zE (zA tA hx1)) rfl ?_; refine zB (zJ q1) (zE (zA tA hx1)) rfl <| zn rfl hc <| zH <| zO tN <| zAb ((hwt1 _ hP tO).2 h41') ?_
      exact zB1 (by first | rfl | assumption) rfl rfl rfl (((hob3.set tA _).setB _).setB _) rfl (by first | exact WkL.refl _ | exact zGA _ _ _) (by first | exact Wk.refl _ | exact zB2 _ _)
     ·refine zCr (zAN t v') hx5 ho'.one rfl rfl <| zp (hbk1 _ hP tO) (fun h=>by cases h) <| zB (zJ q1) (zE (zA tA hx1)) rfl <| zB (AV.str s) (zE (zA tA hx1)) rfl ?_; refine zO tF <| zG <| zG <| zAb ((hwt1 _ hP tO).2 h41') ?_
      exact zB1 (by first | rfl | assumption) rfl rfl rfl (((hob3.set tA _).setB _).setB _) rfl (by first | exact WkL.refl _ | exact zGA _ _ _) (by first | exact Wk.refl _ | exact zB2 _ _)
   ·refine zBp har ?_; refine zG7 ?_ ?_
    ·refine zB (v) (zA tA h5) rfl <| zAD (vs':=[ndV n]) rfl rfl ?_; refine zAV (H0:=H.set b (rdB s e d)) ((how2.base hlH).push _) (hob2.old.push _) zAB tO (by simp only [zMl,zMi,zMt]; omega) (by simp) fun v' H' ho' hH' hb' hf=>?_
     have hx1:=hf b _ (how2.notBox (zE hb1)) (zC (zE hb1))
     have hx4:=hf H.length _ (how2.notBox (zA tO h4)) (zC (zA tO h4))
     have hx5:=hf (H ++ [ABlk.box (ndC zY)]).length _ (how2.notBox (zA tO h5)) (zC (zA tO h5))
     have hlH':=hH'.1
     rw [zMs] at hlH'
     have hob3 : OldB H b (rdB s e d) H':=⟨hbl,hH'⟩
     have hx5l:=(zg hx5).1
     by_cases h44 : s[q1]? = some 44
     ·have hlt : q1 < s.length:=(zg h44).1
      rw [zMg h44] at hq
      clear hwt1
      refine zCr (zAN t v') hx5 ho'.one rfl rfl <| zp (hbk1 _ hP tO) (fun h=>by cases h) <| zB (zJ q1) (zE (zA tA hx1)) rfl <| zB (AV.str s) (zE (zA tA hx1)) rfl <| zP tT <| zB (AV.str s) (zE (zA tA hx1)) rfl ?_; refine zB (zJ q1) (zE (zA tA hx1)) rfl <| zn rfl h44 <| zH <| zP (tE (by rfl)) <| zB (zJ q1) (zE (zA tA hx1)) rfl <| zM (r:=q1 + 1) rfl tO ?_; refine zF (v:=.int .i64 ↑(q1 + 1)) [AV.str s,.int .i64 ↑(q1 + 1),zJ d] (zE (zA tA hx1)) rfl rfl rfl rfl ?_
      refine zAA (CSt.mk (q1 + 1) v' (ks ++ [n])) rfl ⟨?_,(((hob3.set tO _).setB _).setB _),hP,hP,hP,by simp only; omega,by simp only; omega,by simp only [zMn,zMi,zMt]; omega,hq⟩ (by simp only; omega)
      rw [zM2]
      exact (((ho'.setBox hx5 _).setBox hP _).setBox hP _).base hlH.symm
     rw [zMe h44] at hq
     by_cases h41' : s[q1]? = some 41
     ·have hlt : q1 < s.length:=(zg h41').1
      rw [zMg h41'] at hq
      subst hq
      have e0 : mkR s d (some (zEi t (ks ++ [n]),q1 + 1)) = some (.agg (zAN t (zFi 12 ((ks ++ [n]).map ndV))),rdB s (q1 + 1) d):=by rw [← zJa]; rfl
      rw [e0]
      refine zCr (zAN t v') hx5 ho'.one rfl rfl <| zp (hbk1 _ hP tO) (fun h=>by cases h) <| zB (zJ q1) (zE (zA tA hx1)) rfl <| zB (AV.str s) (zE (zA tA hx1)) rfl <| zP tT <| zB (AV.str s) (zE (zA tA hx1)) rfl ?_; refine zB (zJ q1) (zE (zA tA hx1)) rfl <| zn rfl h41' <| zH <| zO (tN (by decide)) <| zBp ((hwt1 _ hP tO).1 h41') <| zB (AV.agg [.int .i64 9,.int .i64 0,AV.str t,.int .i64 0,.int .i64 0,AV.bool false,AV.bool false,.int .i64 0,.int .i64 0,AV.bool false,AV.bool false,v']) (zA tA (zA tA (zE hx5))) rfl ?_
      refine zF (v:=.agg (zAN t v')) (zAN t v') hP rfl (zF4 ho'.one.2) rfl rfl ?_
      have hown : Owns H (((H'.set (H ++ [ABlk.box (ndC zY)]).length (.box (zAN t v'))).set b (rdB s q1 d)).set b (rdB s (q1 + 1) d) |>.set H.length (.box (zAN t v'))) v' 12 ((ks ++ [n]).map ndV):=by
       rw [zM2]
       exact ((((ho'.setBox hx5 _).setBox hP _).setBox hP _).setBox hP _).base hlH.symm
      obtain ⟨H2,hz,hob4⟩:=zJb t hown rfl ((((hob3.set tO _).setB _).setB _).set (zMh _) _)
      exact z8 (o:=0) (.agg (zAN t v')) rfl rfl rfl (zL hP) rfl hz (zHZ _ _ _) hob4 rfl
     ·rw [zMe h41'] at hq
      subst hq
      have e0 : mkR s d none = none:=rfl
      rw [e0]
      by_cases hlt : q1 < s.length
      ·obtain ⟨c,hc⟩ : ∃ c,s[q1]? = some c:=⟨_,zMf hlt⟩
       have hn : c.toNat ≠ 44:=fun x=>h44 (by rw [hc,show c = 44 from zM0.1 x])
       refine zCr (zAN t v') hx5 ho'.one rfl rfl <| zp (hbk1 _ hP tO) (fun h=>by cases h) <| zB (zJ q1) (zE (zA tA hx1)) rfl <| zB (AV.str s) (zE (zA tA hx1)) rfl <| zP tT <| zB (AV.str s) (zE (zA tA hx1)) rfl ?_; refine zB (zJ q1) (zE (zA tA hx1)) rfl <| zn rfl hc <| zH <| zO tN <| zAb ((hwt1 _ hP tO).2 h41') ?_
       exact zB1 (by first | rfl | assumption) rfl rfl rfl (((hob3.set tA _).setB _).setB _) rfl (by first | exact WkL.refl _ | exact zGA _ _ _) (by first | exact Wk.refl _ | exact zB2 _ _)
      ·refine zCr (zAN t v') hx5 ho'.one rfl rfl <| zp (hbk1 _ hP tO) (fun h=>by cases h) <| zB (zJ q1) (zE (zA tA hx1)) rfl <| zB (AV.str s) (zE (zA tA hx1)) rfl ?_; refine zO tF <| zG <| zG <| zAb ((hwt1 _ hP tO).2 h41') ?_
       exact zB1 (by first | rfl | assumption) rfl rfl rfl (((hob3.set tA _).setB _).setB _) rfl (by first | exact WkL.refl _ | exact zGA _ _ _) (by first | exact Wk.refl _ | exact zB2 _ _)
    ·refine zAD (vs':=[ndV n]) rfl rfl <| zB (v) (zC (zA tA h5)) rfl ?_; refine zAV (H0:=H.set b (rdB s e d)) ((how2.base hlH).push _) (hob2.old.push _) zAB tO (by simp only [zMl,zMi,zMt]; omega) (by simp) fun v' H' ho' hH' hb' hf=>?_
     have hx1:=hf b _ (how2.notBox (zE hb1)) (zC (zE hb1))
     have hx4:=hf H.length _ (how2.notBox (zA tO h4)) (zC (zA tO h4))
     have hx5:=hf (H ++ [ABlk.box (ndC zY)]).length _ (how2.notBox (zA tO h5)) (zC (zA tO h5))
     have hlH':=hH'.1
     rw [zMs] at hlH'
     have hob3 : OldB H b (rdB s e d) H':=⟨hbl,hH'⟩
     have hx5l:=(zg hx5).1
     by_cases h44 : s[q1]? = some 44
     ·have hlt : q1 < s.length:=(zg h44).1
      rw [zMg h44] at hq
      clear hwt1
      refine zCr (zAN t v') hx5 ho'.one rfl rfl <| zp (hbk1 _ hP tO) (fun h=>by cases h) <| zB (zJ q1) (zE (zA tA hx1)) rfl <| zB (AV.str s) (zE (zA tA hx1)) rfl <| zP tT <| zB (AV.str s) (zE (zA tA hx1)) rfl ?_; refine zB (zJ q1) (zE (zA tA hx1)) rfl <| zn rfl h44 <| zH <| zP (tE (by rfl)) <| zB (zJ q1) (zE (zA tA hx1)) rfl <| zM (r:=q1 + 1) rfl tO ?_; refine zF (v:=.int .i64 ↑(q1 + 1)) [AV.str s,.int .i64 ↑(q1 + 1),zJ d] (zE (zA tA hx1)) rfl rfl rfl rfl ?_
      refine zAA (CSt.mk (q1 + 1) v' (ks ++ [n])) rfl ⟨?_,(((hob3.set tO _).setB _).setB _),hP,hP,hP,by simp only; omega,by simp only; omega,by simp only [zMn,zMi,zMt]; omega,hq⟩ (by simp only; omega)
      rw [zM2]
      exact (((ho'.setBox hx5 _).setBox hP _).setBox hP _).base hlH.symm
     rw [zMe h44] at hq
     by_cases h41' : s[q1]? = some 41
     ·have hlt : q1 < s.length:=(zg h41').1
      rw [zMg h41'] at hq
      subst hq
      have e0 : mkR s d (some (zEi t (ks ++ [n]),q1 + 1)) = some (.agg (zAN t (zFi 12 ((ks ++ [n]).map ndV))),rdB s (q1 + 1) d):=by rw [← zJa]; rfl
      rw [e0]
      refine zCr (zAN t v') hx5 ho'.one rfl rfl <| zp (hbk1 _ hP tO) (fun h=>by cases h) <| zB (zJ q1) (zE (zA tA hx1)) rfl <| zB (AV.str s) (zE (zA tA hx1)) rfl <| zP tT <| zB (AV.str s) (zE (zA tA hx1)) rfl ?_; refine zB (zJ q1) (zE (zA tA hx1)) rfl <| zn rfl h41' <| zH <| zO (tN (by decide)) <| zBp ((hwt1 _ hP tO).1 h41') <| zB (AV.agg [.int .i64 9,.int .i64 0,AV.str t,.int .i64 0,.int .i64 0,AV.bool false,AV.bool false,.int .i64 0,.int .i64 0,AV.bool false,AV.bool false,v']) (zA tA (zA tA (zE hx5))) rfl ?_
      refine zF (v:=.agg (zAN t v')) (zAN t v') hP rfl (zF4 ho'.one.2) rfl rfl ?_
      have hown : Owns H (((H'.set (H ++ [ABlk.box (ndC zY)]).length (.box (zAN t v'))).set b (rdB s q1 d)).set b (rdB s (q1 + 1) d) |>.set H.length (.box (zAN t v'))) v' 12 ((ks ++ [n]).map ndV):=by
       rw [zM2]
       exact ((((ho'.setBox hx5 _).setBox hP _).setBox hP _).setBox hP _).base hlH.symm
      obtain ⟨H2,hz,hob4⟩:=zJb t hown rfl ((((hob3.set tO _).setB _).setB _).set (zMh _) _)
      exact z8 (o:=0) (.agg (zAN t v')) rfl rfl rfl (zL hP) rfl hz (zHZ _ _ _) hob4 rfl
     ·rw [zMe h41'] at hq
      subst hq
      have e0 : mkR s d none = none:=rfl
      rw [e0]
      by_cases hlt : q1 < s.length
      ·obtain ⟨c,hc⟩ : ∃ c,s[q1]? = some c:=⟨_,zMf hlt⟩
       have hn : c.toNat ≠ 44:=fun x=>h44 (by rw [hc,show c = 44 from zM0.1 x])
       refine zCr (zAN t v') hx5 ho'.one rfl rfl <| zp (hbk1 _ hP tO) (fun h=>by cases h) <| zB (zJ q1) (zE (zA tA hx1)) rfl <| zB (AV.str s) (zE (zA tA hx1)) rfl <| zP tT <| zB (AV.str s) (zE (zA tA hx1)) rfl ?_; refine zB (zJ q1) (zE (zA tA hx1)) rfl <| zn rfl hc <| zH <| zO tN <| zAb ((hwt1 _ hP tO).2 h41') ?_
       exact zB1 (by first | rfl | assumption) rfl rfl rfl (((hob3.set tA _).setB _).setB _) rfl (by first | exact WkL.refl _ | exact zGA _ _ _) (by first | exact Wk.refl _ | exact zB2 _ _)
      ·refine zCr (zAN t v') hx5 ho'.one rfl rfl <| zp (hbk1 _ hP tO) (fun h=>by cases h) <| zB (zJ q1) (zE (zA tA hx1)) rfl <| zB (AV.str s) (zE (zA tA hx1)) rfl ?_; refine zO tF <| zG <| zG <| zAb ((hwt1 _ hP tO).2 h41') ?_
       exact zB1 (by first | rfl | assumption) rfl rfl rfl (((hob3.set tA _).setB _).setB _) rfl (by first | exact WkL.refl _ | exact zGA _ _ _) (by first | exact Wk.refl _ | exact zB2 _ _)
 clear hA hbk hwt
 by_cases hlt : q < s.length
 ·obtain ⟨c,hc⟩ : ∃ c,s[q]? = some c:=⟨_,zMf hlt⟩
  have hn : c.toNat ≠ 41:=fun x=>h41 (by rw [hc,show c = 41 from zM0.1 x])
  refine zS (v:=[.int .i64 9,.int .i64 0,AV.str t,.int .i64 0,.int .i64 0,AV.bool false,AV.bool false,.int .i64 0,.int .i64 0,AV.bool false,AV.bool false,AV.lst (some true) 0 []]) rfl <| zF (v:=AV.agg [.int .i64 9,.int .i64 0,AV.str t,.int .i64 0,.int .i64 0,AV.bool false,AV.bool false,.int .i64 0,.int .i64 0,AV.bool false,AV.bool false,AV.lst (some true) 0 []]) (AV.cells (AV.agg [.int .i64 9,.int .i64 0,AV.str t,.int .i64 0,.int .i64 0,AV.bool false,AV.bool false,.int .i64 0,.int .i64 0,AV.bool false,AV.bool false,AV.lst (some true) 0 []])) zD rfl rfl rfl rfl <| zB (zJ p) (zA tA (zC (zC hb))) rfl <| zM (r:=p + 1) rfl tO <| zF (v:=.int .i64 ↑(p + 1)) [AV.str s,.int .i64 ↑(p + 1),zJ d] (zA tA (zC (zC hb))) rfl rfl rfl rfl <| zp (hbk0 _ hP tO) (fun h=>by cases h) ?_
  refine zB (zJ q) (zE (zE (zA tA (zC (zC hb))))) rfl <| zB (AV.str s) (zE (zE (zA tA (zC (zC hb))))) rfl <| zP tT <| zB (AV.str s) (zE (zE (zA tA (zC (zC hb))))) rfl <| zB (zJ q) (zE (zE (zA tA (zC (zC hb))))) rfl <| zn rfl hc ?_; refine zH <| zO tN ?_
  exact hloop _ ((((((OldB.start hb).push _).push _).set (by simp) _).setB _).setB _) hP hP hP
 ·refine zS (v:=[.int .i64 9,.int .i64 0,AV.str t,.int .i64 0,.int .i64 0,AV.bool false,AV.bool false,.int .i64 0,.int .i64 0,AV.bool false,AV.bool false,AV.lst (some true) 0 []]) rfl <| zF (v:=AV.agg [.int .i64 9,.int .i64 0,AV.str t,.int .i64 0,.int .i64 0,AV.bool false,AV.bool false,.int .i64 0,.int .i64 0,AV.bool false,AV.bool false,AV.lst (some true) 0 []]) (AV.cells (AV.agg [.int .i64 9,.int .i64 0,AV.str t,.int .i64 0,.int .i64 0,AV.bool false,AV.bool false,.int .i64 0,.int .i64 0,AV.bool false,AV.bool false,AV.lst (some true) 0 []])) zD rfl rfl rfl rfl <| zB (zJ p) (zA tA (zC (zC hb))) rfl <| zM (r:=p + 1) rfl tO <| zF (v:=.int .i64 ↑(p + 1)) [AV.str s,.int .i64 ↑(p + 1),zJ d] (zA tA (zC (zC hb))) rfl rfl rfl rfl <| zp (hbk0 _ hP tO) (fun h=>by cases h) ?_
  refine zB (zJ q) (zE (zE (zA tA (zC (zC hb))))) rfl <| zB (AV.str s) (zE (zE (zA tA (zC (zC hb))))) rfl <| zO tF <| zG <| zG ?_
  exact hloop _ ((((((OldB.start hb).push _).push _).set (by simp) _).setB _).setB _) hP hP hP
end
end Go.AM
set_option maxRecDepth 20000
namespace Go.AM
theorem tw_bind {s : Bs} {l e d : Nat} (hl : l ≤ 3) (he : e ≤ s.length) (g : Nd → Nd) : (((P s).loose (l + 2) e d).bind fun q=>bl s ((P s).ll (l + 1) (g q.1) q.2 d)) = (twS s (l + 1) e d).bind fun q=>bl s ((P s).ll (l + 1) (g q.1) q.2 d):=by
 unfold twS
 by_cases h3 : l = 3
 ·subst h3
  rw [zMg rfl,loose_top d he]
 ·rw [zMe tO]
  cases h : (P s).loose (l + 2) e d with
  | none=>rfl
  | some q=>
   have:=(zCE s).loose _ e d q he h
   show bl s ((P s).ll (l + 1) (g q.1) q.2 d) = bl s ((P s).ll (l + 1) (g q.1) (skip s q.2) d)
   rw [ll_skip _ _ _ this.2]
theorem tw_ends {s : Bs} {l e d : Nat} (hl : l ≤ 3) (he : e ≤ s.length) {q : Nd × Nat} (h : twS s (l + 1) e d = some q) : (e < q.2 ∧ q.2 ≤ s.length) ∧ ∀ op e',zIg s q.2 = some (op,e') → tight op < l + 2:=by
 unfold twS at h
 by_cases h3 : l = 3
 ·subst h3
  rw [zMg rfl] at h
  exact ⟨(zCE s).one e d q he h,fun op e' _=>by have:=(tight_le op).2; omega⟩
 ·rw [zMe tO] at h
  unfold bl at h
  rw [zMk] at h
  obtain ⟨q',h1,rfl⟩:=h
  have h2:=(zCE s).loose _ e d q' he h1
  have h4:=zEg s q'.2
  have h5:=zBo h2.2
  refine ⟨⟨by simp only; omega,h5⟩,fun op e' ho=>?_⟩
  simp only [zMR] at ho
  exact loose_exit _ d he h1 op e' ho
theorem tw_start {s : Bs} {l p d : Nat} (hl : l ≤ 3) (hp : p ≤ s.length) : twS s l p d = (twS s (l + 1) p d).bind fun q=>bl s ((P s).ll (l + 1) q.1 q.2 d):=by
 rw [← tw_bind hl hp (fun n=>n)]
 conv=>lhs; unfold twS
 rw [zMe tO,loose_split (l + 1) d hp]
 cases (P s).loose (l + 2) p d <;> rfl
theorem ll_done {s : Bs} {l d a : Nat} {n : Nd} (ha : a ≤ s.length) (hx : ∀ op e,zIg s a = some (op,e) → tight op < l + 2) (hno : ∀ t,t ∈ sgn l → t.isPrefixOf (s.drop (skip s a)) = false) : bl s ((P s).ll (l + 1) n a d) = some (n,skip s a):=by
 rw [P_ll _ n d ha]
 unfold psLl
 cases h : zIg s a with
 | none=>rfl
 | some x=>
  obtain ⟨op,e⟩:=x
  have h1:=hx op e h
  have h2:=op_none (skip_at s a) hno (by rw [zMR]; exact h)
  simp only
  rw [zMg tO]; rfl
theorem ll_more {s : Bs} {l d a i : Nat} {n : Nd} {t : Bs} (hl : l ≤ 3) (ha : a ≤ s.length) (ht : (sgn l)[i]? = some t) (hp : t.isPrefixOf (s.drop (skip s a)) = true) (hno : ∀ j u,j < i → (sgn l)[j]? = some u → u.isPrefixOf (s.drop (skip s a)) = false) :
  (skip s a + t.length ≤ s.length ∧ skip s a < skip s a + t.length) ∧ zBK t ≠ 0 ∧ bl s ((P s).ll (l + 1) n a d) = (twS s (l + 1) (skip s a + t.length) d).bind fun q=>bl s ((P s).ll (l + 1) (zHY (zBK t) n q.1) q.2 d):=by
 obtain ⟨h1,h2,h3⟩:=op_match ht hp hno
 have he:=zC2 h1
 refine ⟨⟨he.2,he.1⟩,h3, ?_⟩
 rw [← ll_skip _ _ _ ha,P_ll _ n d (zBo ha)]
 unfold psLl
 rw [h1]
 simp only
 rw [zMe tO,← tw_bind hl he.2 (fun m=>zHY (zBK t) n m),h2]
 cases (P s).loose (l + 1 + 1) (skip s a + t.length) d <;> rfl
def ndX (n : Nd) (x : AV) : List AV:=[.int .i64 n.kind,.int .i64 n.num,.str n.text,.int .i64 n.ref.col,.int .i64 n.ref.row,.bool n.ref.fc,.bool n.ref.fr,.int .i64 n.to.col,.int .i64 n.to.row,.bool n.to.fc,.bool n.to.fr,x]
def NdO (H0 H : Heap) (n : Nd) (x : AV) : Prop:=x = .lst (some n.kq) n.kk (kxs n) ∨ ∃ op a c nb,n = zHY op a c ∧ x = .sl (some false) nb 12 0 2 ∧ H[nb]? = some (.row 12 [ndV a,ndV c]) ∧ H0.length ≤ nb
theorem NdO.keep {H0 H H' : Heap} {n : Nd} {x : AV} (h : NdO H0 H n x) (hk : ∀ (nb : Nat) (ys : List AV),H[nb]? = some (ABlk.row 12 ys) → H'[nb]? = some (ABlk.row 12 ys)) : NdO H0 H' n x:=by
 rcases h with h | ⟨op,a,c,nb,h1,h2,h3,h4⟩
 ·exact .inl h
 ·exact .inr ⟨op,a,c,nb,h1,h2,hk _ _ h3,h4⟩
theorem NdO.set {H0 H : Heap} {n : Nd} {x : AV} {b : Nat} {cs : List AV} (h : NdO H0 H n x) (hb : H[b]? = some (.box cs)) (y : ABlk) : NdO H0 (H.set b y) n x:=
 h.keep fun nb ys h1=>zA (fun e=>by subst e; rw [hb] at h1; cases h1) h1
theorem NdO.push {H0 H : Heap} {n : Nd} {x : AV} (h : NdO H0 H n x) (y : ABlk) : NdO H0 (H ++ [y]) n x:=h.keep fun nb ys h1=>zC h1
theorem NdO.one {H0 H : Heap} {n : Nd} {x : AV} (h : NdO H0 H n x) : (AV.agg (ndX n x)).cells.all AV.one = true:=by
 rcases h with rfl | ⟨op,a,c,nb,rfl,rfl,h3,h4⟩ <;> rfl
theorem NdO.frz {H0 H : Heap} {n : Nd} {x : AV} (h : NdO H0 H n x) (k : Nat) (hk : k ≤ H0.length) : ∃ H',zDR k (.agg (ndX n x)) H = some (ndV n,H') ∧ H'.length = H.length ∧ (∀ (c : Nat) (cs : List AV),H[c]? = some (ABlk.box cs) → H'[c]? = some (ABlk.box cs)) ∧ ∀ {b B},b < H0.length → Old (H0.set b B) H → Old (H0.set b B) H':=by
 rcases h with rfl | ⟨op,a,c,nb,rfl,rfl,h3,h4⟩
 ·exact ⟨H,rfl,rfl,fun _ _ h=>h,fun _ h=>h⟩
 ·refine ⟨H.set nb (.frz 12 [ndV a,ndV c]), ?_,zMs,fun c' cs hc=>zA (fun e=>by subst e; rw [h3] at hc; cases hc) hc,fun hb ho=>?_⟩
  ·have : ¬ nb < k:=by omega
   simp only [ndX,zDR,zIi,this,zNB,h3]
   simp [frzQ,ndV,ndC,zHY,Nd.kind,Nd.num,Nd.text,Nd.ref,Nd.to,Nd.kq,Nd.kk,kxs,kidL]
  ·exact ho.set (by rw [zMs]; exact h4) _
theorem zHa (k : Nat) (n : Nd) : (ndV n).bel k = true:=rfl
def looseV : AV:=.agg ((List.range 4).map fun l=>.lst (some false) 1 ((sgn l).map AV.str))
theorem loose_part {l o : Nat} (hl : l ≤ 3) (ho : o = l) : part looseV.cells o 1 false = some (.lst (some false) 1 ((sgn l).map AV.str)):=by
 subst ho
 rcases o with _ | _ | _ | _ | o
 ·rfl
 ·rfl
 ·rfl
 ·rfl
 ·omega
theorem sgn_len (l : Nat) : (sgn l).length ≤ 6:=by rcases l with _ | _ | _ | _ | l <;> simp [sgn]
theorem sOffG {GT : Nat → Option AV} {fr : Fr} {g o : Nat} {x : AV} {K : AV → Prop} (h : GT g = some x) (q : K (.lref x (0 + o))) : offN o (evF GT fr (.glob g)) K:=by
 have e : evF GT fr (.glob g) = .lref x 0:=by simp only [evF,h]
 rw [e]; exact q
structure T2St where
 m : Nat
 a : Nat
 n : Nd
 x : AV
structure L2St where
 i : Nat
 m : Nat
def two_r : AC:=match zD1 with
 | .seq _ (.scope _ _ _ r)=>r
 | x=>x
def TwI (H : Heap) (b : Nat) (s : Bs) (d : Nat) (l : Nat) (r : Option (Nd × Nat)) (a : Nat) (n : Nd) (x : AV) (H1 : Heap) : Prop:=
 OldB H b (rdB s a d) H1 ∧ H1[b]? = some (rdB s a d) ∧ H1[H.length]? = some (.box (ndC zY)) ∧ H1[H.length + 1]? = some (.box (ndX n x)) ∧ NdO H H1 n x ∧ a ≤ s.length ∧ (∀ op e,zIg s a = some (op,e) → tight op < l + 2) ∧ bl s ((P s).ll (l + 1) n a d) = r
section
variable {C : CSpec} {GT : Nat → Option AV}
theorem two_ev (hB : ∀ b s p d H,H[b]? = some (rdB s p d) → p ≤ s.length → s.length ≤ 200 → C za [pR b] H (.tup []) (H.set b (rdB s (skip s p) d)))
  (hO : ∀ t H,zBK t ≠ 0 → C zCI [.str t] H (zJ (zBK t)) H)
  (hX : ∀ s p H,C zAT [.str s,.str p] H (.bool (p.isPrefixOf s)) H)
  (hG : GT zDe = some looseV)
  (l b : Nat) (s : Bs) (p d : Nat) (H : Heap) (hb : H[b]? = some (rdB s p d)) (hp : p ≤ s.length) (hl : s.length ≤ 200) (hl4 : l ≤ 4)
  (hN : ∀ H',l = 4 → H'[b]? = some (rdB s p d) → CR C zAK [pR b] H' b s d ((P s).one p d))
  (hT : ∀ a H',l ≤ 3 → p ≤ a → a ≤ s.length → (a = p ∨ p < a) → H'[b]? = some (rdB s a d) → CR C zl [pR b,zJ (l + 1)] H' b s d (twS s (l + 1) a d)) :
  zCA C GT zBg [pR b,zJ l] H b (wkC s) zFB (mkR s d (twS s l p d)):=by
 have hbl : b < H.length:=(zg hb).1
 have hbk:=fun a d H' h1 h2=>hB b s a d H' h1 h2 hl
 clear hB
 refine zAE ?_
 by_cases h4 : l = 4
 ·subst h4
  have e1 : twS s 4 p d = (P s).one p d:=zMg rfl
  rw [e1]
  generalize (P s).one p d = r at *
  have hn:=fun H'=>hN H' rfl
  clear hN hT hX hO hbk hG
  cases r with
  | none=>
   have hc:=fun H' h1=>(hn H' h1).2 rfl
   have e : mkR s d none = none:=rfl
   rw [e]
   clear hn
   refine zH <| zAb (hc _ hP) ?_
   exact zB1 (by first | rfl | assumption) rfl rfl rfl (((OldB.start hb).push _).setB _) rfl (by first | exact WkL.refl _ | exact zGA _ _ _) (by first | exact Wk.refl _ | exact zB2 _ _)
  | some q=>
   obtain ⟨n,e⟩:=q
   have hc:=fun H' h1=>(hn H' h1).1 n e rfl
   have e0 : mkR s d (some (n,e)) = some (ndV n,rdB s e d):=rfl
   rw [e0]
   clear hn
   refine zH <| zBp (hc _ hP) <| zF (v:=ndV n) (AV.cells (ndV n)) (zA tA zD) rfl rfl rfl rfl ?_
   exact z8 (o:=0) (ndV n) (by first | rfl | assumption) rfl rfl (zL (zE (zA tA zD))) rfl rfl rfl ((((OldB.start hb).push _).setB _).set tA _) rfl
 have hl3 : l ≤ 3:=by omega
 have hT:=fun a H' h1 h2 h3 h4=>hT a H' hl3 h1 h2 h3 h4
 clear hN
 rw [tw_start hl3 hp]
 have ht0:=fun H' h1=>hT p H' (zMh _) hp (.inl rfl) h1
 cases hr : twS s (l + 1) p d with
 | none=>
  rw [hr] at ht0
  have hc:=fun H' h1=>(ht0 H' h1).2 rfl
  have e : mkR s d (Option.bind none fun q : Nd × Nat=>bl s ((P s).ll (l + 1) q.1 q.2 d)) = none:=rfl
  rw [e]
  clear hbk hO hX hG hT ht0
  refine zO tN <| zM (r:=l + 1) rfl tO <| zAb (hc _ hP) ?_
  exact zB1 (by first | rfl | assumption) rfl rfl rfl (((OldB.start hb).push _).setB _) rfl (by first | exact WkL.refl _ | exact zGA _ _ _) (by first | exact Wk.refl _ | exact zB2 _ _)
 | some q0=>
 obtain ⟨n0,e0⟩:=q0
 have hq0:=tw_ends hl3 hp hr
 rw [hr] at ht0
 have hc0:=fun H' h1=>(ht0 H' h1).1 n0 e0 rfl
 clear ht0 hr
 obtain ⟨hq1,hq2⟩:=hq0
 simp only at hq1 hq2
 have e1 : (Option.bind (some (n0,e0)) fun q : Nd × Nat=>bl s ((P s).ll (l + 1) q.1 q.2 d)) = bl s ((P s).ll (l + 1) n0 e0 d):=rfl
 rw [e1]
 clear e1
 obtain ⟨r,hr⟩ : ∃ r,bl s ((P s).ll (l + 1) n0 e0 d) = r:=⟨_,rfl⟩
 rw [hr]
 have hZ : ∀ (X Y : ABlk),((H ++ [X]).set b Y).length = H.length + 1:=fun X Y=>by simp
 have hmk : ∀ st H1,st.m = H.length + 1 ∧ TwI H b s d l r st.a st.n st.x H1 → p < st.a →
   gotoP C GT [5,1,0,4] 0 two_r (zH5 zBg H b (wkC s) zFB (mkR s d r)) ((fun st : T2St=>[(5,pR st.m),(1,zJ l),(0,pR b),(4,pR H.length)]) st) H1:=by
  intro st0 H1 hst hpa0
  refine sGoto (fun st : T2St=>[(5,pR st.m),(1,zJ l),(0,pR b),(4,pR H.length)]) (fun st H1=>(st.m = H.length + 1 ∧ TwI H b s d l r st.a st.n st.x H1) ∧ p < st.a) (fun st=>s.length - st.a) st0 rfl ⟨hst,hpa0⟩ (fun ⟨m,a,n,x⟩ H1 ⟨⟨hm,hob,hb1,h4,h5,hnd,hal,hx,hq⟩,hpa⟩=>?_)
  clear hst hpa0 st0 hc0 hr hb
  dsimp only at hm hob hb1 h4 h5 hnd hal hx hq hpa ⊢
  subst hm
  have hA1:=zEg s a
  have hA2:=zBo hal
  have h5l:=(zg h5).1
  have hbk1:=hbk a d H1 hb1 hal
  refine zp hbk1 (fun h=>by cases h) <| zGE ⟨by omega,by omega⟩ <| sOffG hG <| zk (.lst (some false) 1 ((sgn l).map AV.str)) (loose_part hl3 (by simp)) <| sLenL ?_; refine zBB (fun st : L2St=>[(5,pR st.m),(1,zJ l),(0,pR b),(4,pR H.length),(22,zJ st.i),(20,.lst (some false) 1 ((sgn l).map AV.str)),(21,.int .i64 ((sgn l).map AV.str).length)])
   (fun st H'=>st.m = H.length + 1 ∧ (OldB H b (rdB s (skip s a) d) H' ∧ H'[b]? = some (rdB s (skip s a) d) ∧ H'[H.length]? = some (.box (ndC zY)) ∧ H'[H.length + 1]? = some (.box (ndX n x)) ∧ NdO H H' n x) ∧ st.i ≤ (sgn l).length ∧ ∀ j u,j < st.i → (sgn l)[j]? = some u → u.isPrefixOf (s.drop (skip s a)) = false)
   (fun st=>(sgn l).length - st.i) ⟨0,H.length + 1⟩ rfl ⟨rfl,⟨hob.setB _,hP,hP,hP,hnd.set hb1 _⟩,zNX _,fun j u h=>absurd h (zNh _)⟩ (fun ⟨i,m⟩ H2 ⟨hm,⟨hob2,hb2,h42,h52,hnd2⟩,hi,hno⟩=>?_)
  clear hob hb1 h4 h5 hnd h5l hbk1
  dsimp only at hm hi hno ⊢
  subst hm
  have h5l:=(zg h52).1
  have hlm : ((sgn l).map AV.str).length = (sgn l).length:=zMl _
  have hsg : (sgn l).length ≤ 6:=sgn_len l
  by_cases hlt : i < (sgn l).length
  ·obtain ⟨t,ht⟩ : ∃ t,(sgn l)[i]? = some t:=⟨_,zMf hlt⟩
   have htm : ((sgn l).map AV.str)[i]? = some (AV.str t):=by rw [zMq,ht]; rfl
   have hsl : zAy none (.str s) (some (zJ (skip s a))) none = some (.str (s.drop (skip s a))):=zC9 s _ hA2
   have hxx:=hX (s.drop (skip s a)) t H2
   cases hpre : t.isPrefixOf (s.drop (skip s a)) with
   | false=>
    rw [hpre] at hxx
    clear hT hbk hO hX
    refine zP tT <| sIdx rfl htm <| zk (AV.str t) rfl <| zB (AV.str s) hb2 rfl <| zB (zJ (skip s a)) hb2 rfl <| zS hsl ?_; refine zI (hxx) <| zG <| zM (r:=i + 1) rfl tO ?_; refine zAA (L2St.mk (i + 1) (H.length + 1)) rfl ⟨rfl,⟨hob2,hb2,h42,h52,hnd2⟩,by simp only; omega,fun j u hj hu=>?_⟩ (by simp only; omega)
    by_cases hji : j = i
    ·subst hji; rw [ht] at hu; cases hu; exact hpre
    ·exact hno j u (by simp only at hj; omega) hu
   | true=>
    rw [hpre] at hxx
    obtain ⟨⟨hm1,hm2⟩,hm3,hm4⟩:=ll_more (n:=n) (d:=d) hl3 hal ht hpre hno
    rw [hm4] at hq
    have hoo:=fun H'=>hO t H' hm3
    have htw:=fun H'=>hT (skip s a + t.length) H' tO hm1 (.inr tO)
    have hee:=fun q=>tw_ends (d:=d) (q:=q) hl3 hm1
    clear hT hbk hO hX hm4 hx
    have hpa2 : p < skip s a + t.length:=by omega
    generalize hA3 : skip s a + t.length = a2 at *
    generalize skip s a = a1 at *
    refine zP tT <| sIdx rfl htm <| zk (AV.str t) rfl <| zB (AV.str s) hb2 rfl <| zB (zJ a1) hb2 rfl <| zS hsl ?_; refine zI (hxx) <| zH <| zB (zJ a1) hb2 rfl <| zM (r:=a2) tO tO <| zF (v:=.int .i64 ↑a2) [AV.str s,.int .i64 ↑a2,zJ d] hb2 rfl rfl rfl rfl <| zI (hoo _) ?_; refine zM (r:=l + 1) rfl tO ?_
    cases hr2 : twS s (l + 1) a2 d with
    | none=>
     rw [hr2] at htw hq
     have hq : none = r:=hq
     subst hq
     have hc:=fun H' h1=>(htw H' h1).2 rfl
     clear htw hee
     have e0 : mkR s d none = none:=rfl
     rw [e0]
     refine zG7 ?_ ?_
     ·refine zB (.agg (ndX n x)) hP rfl <| zAb (hc _ hP) ?_
      exact zB1 (by first | rfl | assumption) rfl rfl rfl ((hob2.setB _).setB _) rfl (by first | exact WkL.refl _ | exact zGA _ _ _) (by first | exact Wk.refl _ | exact zB2 _ _)
     ·refine zAb (hc _ hP) ?_
      exact zB1 (by first | rfl | assumption) rfl rfl rfl ((hob2.setB _).setB _) rfl (by first | exact WkL.refl _ | exact zGA _ _ _) (by first | exact Wk.refl _ | exact zB2 _ _)
    | some q2=>
     obtain ⟨n2,e2⟩:=q2
     have hee2:=hee _ hr2
     rw [hr2] at htw hq
     have hq : bl s ((P s).ll (l + 1) (zHY (zBK t) n n2) e2 d) = r:=hq
     have hc:=fun H' h1=>(htw H' h1).1 n2 e2 rfl
     clear htw hee hr2
     obtain ⟨⟨hk1,hk2⟩,hk3⟩:=hee2
     simp only at hk1 hk2 hk3
     have hnd3:=(hnd2.set hb2 (rdB s a2 d)).set (b:=b) (cs:=[.str s,zJ a2,zJ d]) hP (rdB s e2 d)
     have hob3:=(hob2.setB (rdB s a2 d)).setB (rdB s e2 d)
     have hb3 : ((H2.set b (rdB s a2 d)).set b (rdB s e2 d))[b]? = some (rdB s e2 d):=hP
     have h43 : ((H2.set b (rdB s a2 d)).set b (rdB s e2 d))[H.length]? = some (.box (ndC zY)):=hP
     have h53 : ((H2.set b (rdB s a2 d)).set b (rdB s e2 d))[H.length + 1]? = some (.box (ndX n x)):=hP
     obtain ⟨H4,hz,hl4',hbx,hol⟩:=hnd3.frz 0 (zNX _)
     have hz2 : zIi 0 [.agg (ndX n x),ndV n2] ((H2.set b (rdB s a2 d)).set b (rdB s e2 d)) = some ([ndV n,ndV n2],H4):=zFh hz rfl
     have hob4 : OldB H b (rdB s e2 d) H4:=⟨hbl,hol hbl hob3.old⟩
     have hb4:=hbx _ _ hb3
     have h44:=hbx _ _ h43
     have h54:=hbx _ _ h53
     have h44l:=(zg h54).1
     clear hbx hol hz hnd3 hnd2 hob2
     refine zG7 ?_ ?_
     ·refine zB (.agg (ndX n x)) hP rfl <| zBp (hc _ hP) <| zE1 [ndV n,ndV n2] H4 hz2 rfl <| zS (v:=[.int .i64 8,zJ (zBK t),AV.str [],.int .i64 0,.int .i64 0,AV.bool false,AV.bool false,.int .i64 0,.int .i64 0,AV.bool false,AV.bool false,AV.sl (some false) (List.length H4) 12 0 [ndV n,ndV n2].length]) rfl <| zF (v:=.agg (ndX (zHY (zBK t) n n2) (.sl (some false) H4.length 12 0 2))) (ndX (zHY (zBK t) n n2) (.sl (some false) H4.length 12 0 2)) hP rfl rfl rfl rfl ?_
      refine ⟨rfl,zAA (T2St.mk (H.length + 1) e2 (zHY (zBK t) n n2) (.sl (some false) H4.length 12 0 2)) rfl ⟨⟨rfl,⟨(hob4.push _).set tO _,hP,hP,hP,.inr ⟨zBK t,n,n2,H4.length,rfl,rfl,hP,by omega⟩,hk2,hk3,hq⟩⟩,by simp only; omega⟩ (by simp only; omega)⟩
     ·refine zBp (hc _ hP) <| zB (.agg (ndX n x)) hP rfl <| zE1 [ndV n,ndV n2] H4 hz2 rfl <| zS (v:=[.int .i64 8,zJ (zBK t),AV.str [],.int .i64 0,.int .i64 0,AV.bool false,AV.bool false,.int .i64 0,.int .i64 0,AV.bool false,AV.bool false,AV.sl (some false) (List.length H4) 12 0 [ndV n,ndV n2].length]) rfl <| zF (v:=.agg (ndX (zHY (zBK t) n n2) (.sl (some false) H4.length 12 0 2))) (ndX (zHY (zBK t) n n2) (.sl (some false) H4.length 12 0 2)) hP rfl rfl rfl rfl ?_
      refine ⟨rfl,zAA (T2St.mk (H.length + 1) e2 (zHY (zBK t) n n2) (.sl (some false) H4.length 12 0 2)) rfl ⟨⟨rfl,⟨(hob4.push _).set tO _,hP,hP,hP,.inr ⟨zBK t,n,n2,H4.length,rfl,rfl,hP,by omega⟩,hk2,hk3,hq⟩⟩,by simp only; omega⟩ (by simp only; omega)⟩
  ·have hdone : bl s ((P s).ll (l + 1) n a d) = some (n,skip s a):=ll_done hal hx fun t ht=>by
    obtain ⟨j,hj⟩:=zNO ht
    exact hno j t (by have:=(zg hj).1; omega) hj
   rw [hdone] at hq
   subst hq
   have e0 : mkR s d (some (n,skip s a)) = some (ndV n,rdB s (skip s a) d):=rfl
   rw [e0]
   clear hT hbk hO hX hdone
   generalize skip s a = a1 at *
   refine zO tF <| zB (.agg (ndX n x)) hP rfl <| zF (v:=.agg (ndX n x)) (ndX n x) hP rfl hnd2.one rfl rfl ?_
   obtain ⟨H4,hz,hl4',hbx,hol⟩:=(hnd2.set h42 (.box (ndX n x))).frz H.length (zMh _)
   have hob3:=hob2.set (c:=H.length) (zMh _) (.box (ndX n x))
   exact z8 (o:=0) (.agg (ndX n x)) rfl rfl rfl (zL hP) rfl hz (zHa _ _) ⟨hbl,hol hbl hob3.old⟩ rfl
 generalize n0 = n at *
 generalize e0 = a at *
 have hal:=hq1.2
 have hx:=hq2
 have hq:=hr
 obtain ⟨x,hxe⟩ : ∃ x,x = AV.lst (some n.kq) n.kk (kxs n):=⟨_,rfl⟩
 have hA1:=zEg s a
 have hA2:=zBo hal
 refine zO tN <| zM (r:=l + 1) rfl tO <| zBp (hc0 _ hP) <| zF (v:=ndV n) (AV.cells (ndV n)) zD rfl rfl rfl rfl <| zp (hbk a d _ hP hal) (fun h=>by cases h) <| zGE ⟨by omega,by omega⟩ ?_; refine sOffG hG <| zk (.lst (some false) 1 ((sgn l).map AV.str)) (loose_part hl3 (by simp)) <| sLenL ?_; refine zBB (fun st : L2St=>[(5,pR st.m),(1,zJ l),(0,pR b),(4,pR H.length),(22,zJ st.i),(20,.lst (some false) 1 ((sgn l).map AV.str)),(21,.int .i64 ((sgn l).map AV.str).length)])
  (fun st H'=>st.m = H.length + 1 ∧ (OldB H b (rdB s (skip s a) d) H' ∧ H'[b]? = some (rdB s (skip s a) d) ∧ H'[H.length]? = some (.box (ndC zY)) ∧ H'[H.length + 1]? = some (.box (ndX n x)) ∧ NdO H H' n x) ∧ st.i ≤ (sgn l).length ∧ ∀ j u,j < st.i → (sgn l)[j]? = some u → u.isPrefixOf (s.drop (skip s a)) = false)
  (fun st=>(sgn l).length - st.i) ⟨0,_⟩ rfl ⟨hZ _ _,⟨((((((OldB.start hb).push _).setB _).push _).set (by simp) _).setB _),hP,hP,by rw [hxe,← hZ (.box (ndC zY)) (rdB s a d)]; exact hP,.inl hxe⟩,zNX _,fun j u h=>absurd h (zNh _)⟩ (fun ⟨i,m⟩ H2 ⟨hm,⟨hob2,hb2,h42,h52,hnd2⟩,hi,hno⟩=>?_)
 clear hb
 dsimp only at hm hi hno ⊢
 subst hm
 have h5l:=(zg h52).1
 have hlm : ((sgn l).map AV.str).length = (sgn l).length:=zMl _
 have hsg : (sgn l).length ≤ 6:=sgn_len l
 by_cases hlt : i < (sgn l).length
 ·obtain ⟨t,ht⟩ : ∃ t,(sgn l)[i]? = some t:=⟨_,zMf hlt⟩
  have htm : ((sgn l).map AV.str)[i]? = some (AV.str t):=by rw [zMq,ht]; rfl
  have hsl : zAy none (.str s) (some (zJ (skip s a))) none = some (.str (s.drop (skip s a))):=zC9 s _ hA2
  have hxx:=hX (s.drop (skip s a)) t H2
  cases hpre : t.isPrefixOf (s.drop (skip s a)) with
  | false=>
   rw [hpre] at hxx
   clear hT hbk hO hX hc0
   refine zP tT <| sIdx rfl htm <| zk (AV.str t) rfl <| zB (AV.str s) hb2 rfl <| zB (zJ (skip s a)) hb2 rfl <| zS hsl ?_; refine zI (hxx) <| zG <| zM (r:=i + 1) rfl tO ?_; refine zAA (L2St.mk (i + 1) (H.length + 1)) rfl ⟨rfl,⟨hob2,hb2,h42,h52,hnd2⟩,by simp only; omega,fun j u hj hu=>?_⟩ (by simp only; omega)
   by_cases hji : j = i
   ·subst hji; rw [ht] at hu; cases hu; exact hpre
   ·exact hno j u (by simp only at hj; omega) hu
  | true=>
   rw [hpre] at hxx
   obtain ⟨⟨hm1,hm2⟩,hm3,hm4⟩:=ll_more (n:=n) (d:=d) hl3 hal ht hpre hno
   rw [hm4] at hq
   have hoo:=fun H'=>hO t H' hm3
   have htw:=fun H'=>hT (skip s a + t.length) H' tO hm1 (.inr tO)
   have hee:=fun q=>tw_ends (d:=d) (q:=q) hl3 hm1
   clear hT hbk hO hX hm4 hx hc0
   have hpa2 : p < skip s a + t.length:=by omega
   generalize hA3 : skip s a + t.length = a2 at *
   generalize skip s a = a1 at *
   refine zP tT <| sIdx rfl htm <| zk (AV.str t) rfl <| zB (AV.str s) hb2 rfl <| zB (zJ a1) hb2 rfl <| zS hsl ?_; refine zI (hxx) <| zH <| zB (zJ a1) hb2 rfl <| zM (r:=a2) tO tO <| zF (v:=.int .i64 ↑a2) [AV.str s,.int .i64 ↑a2,zJ d] hb2 rfl rfl rfl rfl <| zI (hoo _) ?_; refine zM (r:=l + 1) rfl tO ?_
   cases hr2 : twS s (l + 1) a2 d with
   | none=>
    rw [hr2] at htw hq
    have hq : none = r:=hq
    subst hq
    have hc:=fun H' h1=>(htw H' h1).2 rfl
    clear htw hee
    have e0 : mkR s d none = none:=rfl
    rw [e0]
    refine zG7 ?_ ?_
    ·refine zB (.agg (ndX n x)) hP rfl <| zAb (hc _ hP) ?_
     exact zB1 (by first | rfl | assumption) rfl rfl rfl ((hob2.setB _).setB _) rfl (by first | exact WkL.refl _ | exact zGA _ _ _) (by first | exact Wk.refl _ | exact zB2 _ _)
    ·refine zAb (hc _ hP) ?_
     exact zB1 (by first | rfl | assumption) rfl rfl rfl ((hob2.setB _).setB _) rfl (by first | exact WkL.refl _ | exact zGA _ _ _) (by first | exact Wk.refl _ | exact zB2 _ _)
   | some q2=>
    obtain ⟨n2,e2⟩:=q2
    have hee2:=hee _ hr2
    rw [hr2] at htw hq
    have hq : bl s ((P s).ll (l + 1) (zHY (zBK t) n n2) e2 d) = r:=hq
    have hc:=fun H' h1=>(htw H' h1).1 n2 e2 rfl
    clear htw hee hr2
    obtain ⟨⟨hk1,hk2⟩,hk3⟩:=hee2
    simp only at hk1 hk2 hk3
    have hnd3:=(hnd2.set hb2 (rdB s a2 d)).set (b:=b) (cs:=[.str s,zJ a2,zJ d]) hP (rdB s e2 d)
    have hob3:=(hob2.setB (rdB s a2 d)).setB (rdB s e2 d)
    have hb3 : ((H2.set b (rdB s a2 d)).set b (rdB s e2 d))[b]? = some (rdB s e2 d):=hP
    have h43 : ((H2.set b (rdB s a2 d)).set b (rdB s e2 d))[H.length]? = some (.box (ndC zY)):=hP
    have h53 : ((H2.set b (rdB s a2 d)).set b (rdB s e2 d))[H.length + 1]? = some (.box (ndX n x)):=hP
    obtain ⟨H4,hz,hl4',hbx,hol⟩:=hnd3.frz 0 (zNX _)
    have hz2 : zIi 0 [.agg (ndX n x),ndV n2] ((H2.set b (rdB s a2 d)).set b (rdB s e2 d)) = some ([ndV n,ndV n2],H4):=zFh hz rfl
    have hob4 : OldB H b (rdB s e2 d) H4:=⟨hbl,hol hbl hob3.old⟩
    have hb4:=hbx _ _ hb3
    have h44:=hbx _ _ h43
    have h54:=hbx _ _ h53
    have h44l:=(zg h54).1
    clear hbx hol hz hnd3 hnd2 hob2
    refine zG7 ?_ ?_
    ·refine zB (.agg (ndX n x)) hP rfl <| zBp (hc _ hP) <| zE1 [ndV n,ndV n2] H4 hz2 rfl <| zS (v:=[.int .i64 8,zJ (zBK t),AV.str [],.int .i64 0,.int .i64 0,AV.bool false,AV.bool false,.int .i64 0,.int .i64 0,AV.bool false,AV.bool false,AV.sl (some false) (List.length H4) 12 0 [ndV n,ndV n2].length]) rfl <| zF (v:=.agg (ndX (zHY (zBK t) n n2) (.sl (some false) H4.length 12 0 2))) (ndX (zHY (zBK t) n n2) (.sl (some false) H4.length 12 0 2)) hP rfl rfl rfl rfl ?_
     exact ⟨rfl,hmk ⟨H.length + 1,e2,zHY (zBK t) n n2,.sl (some false) H4.length 12 0 2⟩ _ ⟨rfl,⟨(hob4.push _).set tO _,hP,hP,hP,.inr ⟨zBK t,n,n2,H4.length,rfl,rfl,hP,by omega⟩,hk2,hk3,hq⟩⟩ (by simp only; omega)⟩
    ·refine zBp (hc _ hP) <| zB (.agg (ndX n x)) hP rfl <| zE1 [ndV n,ndV n2] H4 hz2 rfl <| zS (v:=[.int .i64 8,zJ (zBK t),AV.str [],.int .i64 0,.int .i64 0,AV.bool false,AV.bool false,.int .i64 0,.int .i64 0,AV.bool false,AV.bool false,AV.sl (some false) (List.length H4) 12 0 [ndV n,ndV n2].length]) rfl <| zF (v:=.agg (ndX (zHY (zBK t) n n2) (.sl (some false) H4.length 12 0 2))) (ndX (zHY (zBK t) n n2) (.sl (some false) H4.length 12 0 2)) hP rfl rfl rfl rfl ?_
     exact ⟨rfl,hmk ⟨H.length + 1,e2,zHY (zBK t) n n2,.sl (some false) H4.length 12 0 2⟩ _ ⟨rfl,⟨(hob4.push _).set tO _,hP,hP,hP,.inr ⟨zBK t,n,n2,H4.length,rfl,rfl,hP,by omega⟩,hk2,hk3,hq⟩⟩ (by simp only; omega)⟩
 ·have hdone : bl s ((P s).ll (l + 1) n a d) = some (n,skip s a):=ll_done hal hx fun t ht=>by
   obtain ⟨j,hj⟩:=zNO ht
   exact hno j t (by have:=(zg hj).1; omega) hj
  rw [hdone] at hq
  subst hq
  have e0 : mkR s d (some (n,skip s a)) = some (ndV n,rdB s (skip s a) d):=rfl
  rw [e0]
  clear hT hbk hO hX hdone hc0
  generalize skip s a = a1 at *
  refine zO tF <| zB (.agg (ndX n x)) hP rfl <| zF (v:=.agg (ndX n x)) (ndX n x) hP rfl hnd2.one rfl rfl ?_
  obtain ⟨H4,hz,hl4',hbx,hol⟩:=(hnd2.set h42 (.box (ndX n x))).frz H.length (zMh _)
  have hob3:=hob2.set (c:=H.length) (zMh _) (.box (ndX n x))
  exact z8 (o:=0) (.agg (ndX n x)) rfl rfl rfl (zL hP) rfl hz (zHa _ _) ⟨hbl,hol hbl hob3.old⟩ rfl
end
end Go.AM
