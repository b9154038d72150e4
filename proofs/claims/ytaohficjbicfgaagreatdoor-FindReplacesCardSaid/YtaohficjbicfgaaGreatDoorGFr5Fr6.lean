/- Several texts of mine in one (Fr5, Fp4, Fr6). Own work. -/
import Derived.Test.YtaohficjbicfgaaGreatDoorGFr2Fr4
set_option linter.all false
set_option maxRecDepth 20000
namespace Go.AM
theorem psOne_skip (s : Bs) (q : Ps) (p d : Nat) : zBw s q (skip s p) d = zBw s q p d:=by unfold zBw; rw [zIf]
theorem one_minus {s : Bs} {p d : Nat} (h : s[p]? = some 45) : zBw s (P s) p d = if d = 30 then none else ((P s).one (p + 1) (d + 1)).map fun q=>(negN q.1,q.2):=by
 have hs : skip s p = p:=zDH (by rw [h]; simp)
 have ht:=zFT (s:=s) (p:=p) (c:=45) (by rw [hs]; exact h) (by decide)
 rw [hs] at ht
 unfold zBw
 rw [ht]
 rfl
def argS (s : Bs) (p d : Nat) : Option (Nd × Nat):=match zDj s p with
 | some r=>r
 | none=>bl s ((P s).loose 1 p d)
theorem sub_self (s : Bs) (a : Nat) : sub s a a = []:=by unfold sub; rw [Nat.sub_self]; rfl
theorem refP_nil : zCa [] = none:=rfl
theorem box_is (s : Bs) (p : Nat) : zDj s p = match zCa (sub s (skip s p) (zB1 s (skip s p))) with
  | some r=>if s[zB1 s (skip s p)]? = some 58 then some ((zCa (sub s (zB1 s (skip s p) + 1) (zB1 s (zB1 s (skip s p) + 1)))).map fun r2=>(boxN r r2,zB1 s (zB1 s (skip s p) + 1))) else none
  | none=>none:=by
 unfold zDj
 by_cases hw : ∃ c,s[skip s p]? = some c ∧ zu c = true
 ·obtain ⟨c,hc,hw⟩:=hw
  have ht : tok s p = .word (zB1 s (skip s p)) (sub s (skip s p) (zB1 s (skip s p))):=by rw [← zIf]; exact tok_word hc hw
  rw [ht]
  simp only
  cases zCa (sub s (skip s p) (zB1 s (skip s p))) with
  | none=>rfl
  | some r=>
   simp only
   generalize zB1 s (skip s p) = e
   by_cases h58 : s[e]? = some 58
   ·rw [if_pos h58,if_pos h58]
    by_cases hw2 : ∃ c,s[e + 1]? = some c ∧ zu c = true
    ·obtain ⟨c2,hc2,hw2⟩:=hw2
     have ht2 : zCF s (e + 1) = .word (zB1 s (e + 1)) (sub s (e + 1) (zB1 s (e + 1))):=by
      unfold zCF
      rw [hc2]
      simp only [hw2,if_true]
     rw [ht2]
    ·have hst : zB1 s (e + 1) = e + 1:=zFQ fun c h=>Bool.eq_false_iff.2 fun x=>hw2 ⟨c,h,x⟩
     rw [hst,sub_self,refP_nil]
     unfold zCF
     split
     ·rename_i heq
      split at heq
      ·cases heq
      ·rename_i c2 hc2
       rw [if_neg (fun x=>hw2 ⟨c2,hc2,x⟩)] at heq
       split at heq
       ·split at heq <;> cases heq
       ·split at heq
        ·split at heq <;> cases heq
        ·split at heq
         ·split at heq <;> cases heq
         ·cases heq
     ·rfl
   ·rw [if_neg h58,if_neg h58]
 ·have hst : zB1 s (skip s p) = skip s p:=zFQ fun c h=>Bool.eq_false_iff.2 fun x=>hw ⟨c,h,x⟩
  rw [hst,sub_self,refP_nil]
  simp only
  split
  ·rename_i e t heq
   exfalso
   unfold tok zCF at heq
   split at heq
   ·cases heq
   ·rename_i c2 hc2
    rw [if_neg (fun x=>hw ⟨c2,hc2,x⟩)] at heq
    split at heq
    ·split at heq <;> cases heq
    ·split at heq
     ·split at heq <;> cases heq
     ·split at heq
      ·split at heq <;> cases heq
      ·cases heq
  ·rfl
section
variable {C : CSpec} {GT : Nat → Option AV}
theorem neg_ev (hB : ∀ b s p d H,H[b]? = some (rdB s p d) → p ≤ s.length → s.length ≤ 200 → C za [pR b] H (.tup []) (H.set b (rdB s (skip s p) d)))
  (hWi : ∀ f caps a b s p d H r,H[b]? = some (rdB s p d) → d ≤ 1000 → (∀ H',H'[b]? = some (rdB s p (d + 1)) → Off H b H' → CR C f caps H' b s (d + 1) r) → CR C zn [pR b,.int .i64 a,.fn f [] caps] H b s d (if d = 30 then none else r))
  (b : Nat) (s : Bs) (p d : Nat) (H : Heap) (hb : H[b]? = some (rdB s p d)) (hp : p ≤ s.length) (hl : s.length ≤ 200) (hd : d ≤ 1000)
  (hNc : s[skip s p]? = some 45 → ∀ H' rb,H'[b]? = some (rdB s (skip s p) (d + 1)) → H'[rb]? = some (.box [pR b]) → CR C zAV [pR rb] H' b s (d + 1) (((P s).one (skip s p + 1) (d + 1)).map fun q=>(negN q.1,q.2)))
  (hPr : s[skip s p]? ≠ some 45 → ∀ H',H'[b]? = some (rdB s (skip s p) d) → CR C zAl [pR b] H' b s d (zBw s (P s) (skip s p) d)) :
  zBt C GT zCM [pR b] H b (wkC s) zEf (mkR s d ((P s).one p d)):=by
 have hbl : b < H.length:=(zg hb).1
 rw [P_one d hp,← psOne_skip]
 have hbk:=hB b s p d (H ++ [ABlk.box (pR b).cells] ++ [ABlk.box (ndC zY)]) (zD (zD hb)) hp hl
 have hql:=zBX hp
 generalize skip s p = q at *
 by_cases h45 : s[q]? = some 45
 ·have hlt : q < s.length:=(zg h45).1
  rw [one_minus h45]
  have hnc:=hNc h45
  have hw:=hWi zAV [pR H.length] q b s q d ((H ++ [ABlk.box (pR b).cells] ++ [ABlk.box (ndC zY)]).set b (rdB s q d)) (((P s).one (q + 1) (d + 1)).map fun q=>(negN q.1,q.2)) (zE (zD (zD hb))) hd (fun H' h1 ho=>hnc H' H.length h1 (ho _ _ (zA tO (zD zC)) tO))
  clear hB hWi hNc hPr hnc
  refine z7 ?_
  cases hr : (if d = 30 then none else ((P s).one (q + 1) (d + 1)).map fun q=>(negN q.1,q.2)) with
  | none=>
   rw [hr] at hw
   have hw:=hw.2 rfl
   have e : mkR s d none = none:=rfl
   rw [e]
   refine zDl (x:=pR b) rfl ?_; refine zB (pR b) (zD zC) rfl ?_; refine zm hbk (fun h=>by cases h) ?_; refine zB (pR b) (zA tA (zD zC)) rfl ?_; refine zB (zJ q) (zE (zD (zD hb))) rfl ?_; refine zB (pR b) (zA tA (zD zC)) rfl ?_; refine zB (AV.str s) (zE (zD (zD hb))) rfl ?_; refine zP tT ?_; refine zB (pR b) (zA tA (zD zC)) rfl ?_; refine zB (AV.str s) (zE (zD (zD hb))) rfl ?_; refine zB (pR b) (zA tA (zD zC)) rfl ?_
   refine zB (zJ q) (zE (zD (zD hb))) rfl ?_; refine zl rfl h45 ?_; refine zH <| zP (tE (by rfl)) ?_; refine zB (pR b) (zA tA (zD zC)) rfl ?_; refine zB (zJ q) (zE (zD (zD hb))) rfl ?_; refine zB (pR b) (zA tA (zD zC)) rfl ?_; refine zAS hw ?_
   exact zBm (by first | rfl | assumption) rfl rfl rfl (((((OldB.start hb).push _).push _).setB _).setB _) rfl (by first | exact WkL.refl _ | exact zFY _ _ _) (by first | exact Wk.refl _ | exact zBn _ _)
  | some x=>
   obtain ⟨n,e⟩:=x
   rw [hr] at hw
   have hw:=hw.1 n e rfl
   have e0 : mkR s d (some (n,e)) = some (ndV n,rdB s e d):=rfl
   rw [e0]
   refine zDl (x:=pR b) rfl ?_; refine zB (pR b) (zD zC) rfl ?_; refine zm hbk (fun h=>by cases h) ?_; refine zB (pR b) (zA tA (zD zC)) rfl ?_; refine zB (zJ q) (zE (zD (zD hb))) rfl ?_; refine zB (pR b) (zA tA (zD zC)) rfl ?_; refine zB (AV.str s) (zE (zD (zD hb))) rfl ?_; refine zP tT ?_; refine zB (pR b) (zA tA (zD zC)) rfl ?_; refine zB (AV.str s) (zE (zD (zD hb))) rfl ?_; refine zB (pR b) (zA tA (zD zC)) rfl ?_
   refine zB (zJ q) (zE (zD (zD hb))) rfl ?_; refine zl rfl h45 ?_; refine zH <| zP (tE (by rfl)) ?_; refine zB (pR b) (zA tA (zD zC)) rfl ?_; refine zB (zJ q) (zE (zD (zD hb))) rfl ?_; refine zB (pR b) (zA tA (zD zC)) rfl ?_; refine zBY hw ?_; refine zF (v:=ndV n) (AV.cells (ndV n)) (zA tA (zA tA zC)) rfl rfl rfl rfl ?_
   exact zy (o:=0) (ndV n) (by first | rfl | assumption) rfl rfl (zL (zE (zA tA (zA tA zC)))) rfl rfl rfl ((((((OldB.start hb).push _).push _).setB _).setB _).set tA _) rfl
 ·have hpr:=hPr h45 ((H ++ [ABlk.box (pR b).cells] ++ [ABlk.box (ndC zY)]).set b (rdB s q d)) (zE (zD (zD hb)))
  clear hB hWi hNc hPr
  generalize zBw s (P s) q d = r at *
  refine z7 ?_
  by_cases hlt : q < s.length
  ·obtain ⟨c,hc⟩ : ∃ c,s[q]? = some c:=⟨_,List.getElem?_eq_getElem hlt⟩
   have hn : c.toNat ≠ 45:=fun e=>h45 (by rw [hc,show c = 45 from UInt8.toNat_inj.1 e])
   cases r with
   | none=>
    have hpr:=hpr.2 rfl
    have e : mkR s d none = none:=rfl
    rw [e]
    refine zDl (x:=pR b) rfl ?_; refine zB (pR b) (zD zC) rfl ?_; refine zm hbk (fun h=>by cases h) ?_; refine zB (pR b) (zA tA (zD zC)) rfl ?_; refine zB (zJ q) (zE (zD (zD hb))) rfl ?_; refine zB (pR b) (zA tA (zD zC)) rfl ?_; refine zB (AV.str s) (zE (zD (zD hb))) rfl ?_; refine zP tT ?_; refine zB (pR b) (zA tA (zD zC)) rfl ?_; refine zB (AV.str s) (zE (zD (zD hb))) rfl ?_; refine zB (pR b) (zA tA (zD zC)) rfl ?_
    refine zB (zJ q) (zE (zD (zD hb))) rfl ?_; refine zl rfl hc ?_; refine zH <| zN tN ?_; refine zB (pR b) (zA tA (zD zC)) rfl ?_; refine zAS hpr ?_
    exact zBm (by first | rfl | assumption) rfl rfl rfl (((((OldB.start hb).push _).push _).setB _).setB _) rfl (by first | exact WkL.refl _ | exact zFY _ _ _) (by first | exact Wk.refl _ | exact zBn _ _)
   | some x=>
    obtain ⟨n,e⟩:=x
    have hpr:=hpr.1 n e rfl
    have e0 : mkR s d (some (n,e)) = some (ndV n,rdB s e d):=rfl
    rw [e0]
    refine zDl (x:=pR b) rfl ?_; refine zB (pR b) (zD zC) rfl ?_; refine zm hbk (fun h=>by cases h) ?_; refine zB (pR b) (zA tA (zD zC)) rfl ?_; refine zB (zJ q) (zE (zD (zD hb))) rfl ?_; refine zB (pR b) (zA tA (zD zC)) rfl ?_; refine zB (AV.str s) (zE (zD (zD hb))) rfl ?_; refine zP tT ?_; refine zB (pR b) (zA tA (zD zC)) rfl ?_; refine zB (AV.str s) (zE (zD (zD hb))) rfl ?_; refine zB (pR b) (zA tA (zD zC)) rfl ?_
    refine zB (zJ q) (zE (zD (zD hb))) rfl ?_; refine zl rfl hc ?_; refine zH <| zN tN ?_; refine zB (pR b) (zA tA (zD zC)) rfl ?_; refine zBY hpr ?_; refine zF (v:=ndV n) (AV.cells (ndV n)) (zA tA (zA tA zC)) rfl rfl rfl rfl ?_
    exact zy (o:=0) (ndV n) (by first | rfl | assumption) rfl rfl (zL (zE (zA tA (zA tA zC)))) rfl rfl rfl ((((((OldB.start hb).push _).push _).setB _).setB _).set tA _) rfl
  ·cases r with
   | none=>
    have hpr:=hpr.2 rfl
    have e : mkR s d none = none:=rfl
    rw [e]
    refine zDl (x:=pR b) rfl ?_; refine zB (pR b) (zD zC) rfl ?_; refine zm hbk (fun h=>by cases h) ?_; refine zB (pR b) (zA tA (zD zC)) rfl ?_; refine zB (zJ q) (zE (zD (zD hb))) rfl ?_; refine zB (pR b) (zA tA (zD zC)) rfl ?_; refine zB (AV.str s) (zE (zD (zD hb))) rfl ?_; refine zN tF <| zG <| zG ?_; refine zB (pR b) (zA tA (zD zC)) rfl ?_; refine zAS hpr ?_
    exact zBm (by first | rfl | assumption) rfl rfl rfl (((((OldB.start hb).push _).push _).setB _).setB _) rfl (by first | exact WkL.refl _ | exact zFY _ _ _) (by first | exact Wk.refl _ | exact zBn _ _)
   | some x=>
    obtain ⟨n,e⟩:=x
    have hpr:=hpr.1 n e rfl
    have e0 : mkR s d (some (n,e)) = some (ndV n,rdB s e d):=rfl
    rw [e0]
    refine zDl (x:=pR b) rfl ?_; refine zB (pR b) (zD zC) rfl ?_; refine zm hbk (fun h=>by cases h) ?_; refine zB (pR b) (zA tA (zD zC)) rfl ?_; refine zB (zJ q) (zE (zD (zD hb))) rfl ?_; refine zB (pR b) (zA tA (zD zC)) rfl ?_; refine zB (AV.str s) (zE (zD (zD hb))) rfl ?_; refine zN tF <| zG <| zG ?_; refine zB (pR b) (zA tA (zD zC)) rfl ?_; refine zBY hpr ?_; refine zF (v:=ndV n) (AV.cells (ndV n)) (zA tA (zA tA zC)) rfl rfl rfl rfl ?_
    exact zy (o:=0) (ndV n) (by first | rfl | assumption) rfl rfl (zL (zE (zA tA (zA tA zC)))) rfl rfl rfl ((((((OldB.start hb).push _).push _).setB _).setB _).set tA _) rfl
theorem arg_ev (hB : ∀ b s p d H,H[b]? = some (rdB s p d) → p ≤ s.length → s.length ≤ 200 → C za [pR b] H (.tup []) (H.set b (rdB s (skip s p) d)))
  (hF : ∀ b s p d a e H,H[b]? = some (rdB s p d) → C zX (.pan .undef :: [pR b,.int .i64 a,zF7 e]) H zEf (H.set b (.box (wkC s))))
  (hWo : ∀ b s p d H,H[b]? = some (rdB s p d) → p ≤ s.length → s.length ≤ 200 → C zq [pR b] H (.str (sub s p (zB1 s p))) (H.set b (rdB s (zB1 s p) d)))
  (hR : ∀ s H,s.length ≤ 1000 → C zAu [.str s] H (refV (zCa s)) H)
  (b : Nat) (s : Bs) (p d : Nat) (H : Heap) (hb : H[b]? = some (rdB s p d)) (hp : p ≤ s.length) (hl : s.length ≤ 200)
  (hT : ∀ H',H'[b]? = some (rdB s (skip s p) d) → CR C zi [pR b,zK 0] H' b s d (bl s ((P s).loose 1 p d))) :
  zBt C GT zBC [pR b] H b (wkC s) zEf (mkR s d (argS s p d)):=by
 have hbl : b < H.length:=(zg hb).1
 unfold argS
 rw [box_is]
 have hbk:=hB b s p d (H ++ [ABlk.box (ndC zY)]) (zD hb) hp hl
 have hql:=zBX hp
 generalize skip s p = q at *
 have hwo:=fun H' h=>hWo b s q d H' h hql hl
 have hel:=zGr hql
 have htl : (sub s q (zB1 s q)).length ≤ 1000:=by rw [zJK hel]; omega
 generalize zB1 s q = e at *
 have hrr:=fun H'=>hR (sub s q e) H' htl
 have hTT : ∃ r,bl s ((P s).loose 1 p d) = r:=⟨_,rfl⟩
 obtain ⟨r0,hr0⟩:=hTT
 rw [hr0] at hT
 rw [hr0]
 generalize sub s q e = t at *
 cases hrt : zCa t with
 | none=>
  rw [hrt] at hrr
  have hrr : ∀ H',C zAu [.str t] H' (.tup [rV noRef,zF7 2]) H':=hrr
  clear hB hF hWo hR
  simp only
  refine z7 ?_
  cases r0 with
  | none=>
   have hT:=fun H' h=>(hT H' h).2 rfl
   have e : mkR s d none = none:=rfl
   rw [e]
   refine zm hbk (fun h=>by cases h) ?_; refine zB (zJ q) (zE (zD hb)) rfl ?_; refine zm (hwo _ hP) (fun h=>by cases h) ?_; refine zI (hrr _) ?_; refine zU rfl ?_; refine zU rfl ?_; refine zF (v:=rV noRef) (AV.cells (rV noRef)) zC rfl rfl rfl rfl ?_; refine zU rfl ?_; refine zH <| zH <| zH <| zH <| zH ?_; refine zF (v:=zJ q) [AV.str s,zJ q,zJ d] (zA tA (zD (zE (zE (zD hb))))) rfl rfl rfl rfl ?_
   refine zAS (hT _ hP) ?_
   exact zBm (by first | rfl | assumption) rfl rfl rfl ((((((((OldB.start hb).push _).setB _).setB _).push _).set tA _).setB _).setB _) rfl (by first | exact WkL.refl _ | exact zFY _ _ _) (by first | exact Wk.refl _ | exact zBn _ _)
  | some x=>
   obtain ⟨n,e'⟩:=x
   have hT:=fun H' h=>(hT H' h).1 n e' rfl
   have e0 : mkR s d (some (n,e')) = some (ndV n,rdB s e' d):=rfl
   rw [e0]
   refine zm hbk (fun h=>by cases h) ?_; refine zB (zJ q) (zE (zD hb)) rfl ?_; refine zm (hwo _ hP) (fun h=>by cases h) ?_; refine zI (hrr _) ?_; refine zU rfl ?_; refine zU rfl ?_; refine zF (v:=rV noRef) (AV.cells (rV noRef)) zC rfl rfl rfl rfl ?_; refine zU rfl ?_; refine zH <| zH <| zH <| zH <| zH ?_; refine zF (v:=zJ q) [AV.str s,zJ q,zJ d] (zA tA (zD (zE (zE (zD hb))))) rfl rfl rfl rfl ?_
   refine zBY (hT _ hP) ?_; refine zF (v:=ndV n) (AV.cells (ndV n)) (zA tA (zA tA (zA tA (zD (zA tA (zA tA zC)))))) rfl rfl rfl rfl ?_
   exact zy (o:=0) (ndV n) (by first | rfl | assumption) rfl rfl (zL (zE (zA tA (zA tA (zA tA (zD (zA tA (zA tA zC)))))))) rfl rfl rfl (((((((((OldB.start hb).push _).setB _).setB _).push _).set tA _).setB _).setB _).set tA _) rfl
 | some r=>
  rw [hrt] at hrr
  have hrr : ∀ H',C zAu [.str t] H' (.tup [rV r,.nili]) H':=hrr
  simp only
  by_cases h58 : s[e]? = some 58
  case neg=>
   rw [if_neg h58]
   clear hB hF hWo hR
   simp only
   refine z7 ?_
   by_cases hlt : e < s.length
   ·obtain ⟨c,hc⟩ : ∃ c,s[e]? = some c:=⟨_,List.getElem?_eq_getElem hlt⟩
    have hn : c.toNat ≠ 58:=fun x=>h58 (by rw [hc,show c = 58 from UInt8.toNat_inj.1 x])
    cases r0 with
    | none=>
     have hT:=fun H' h=>(hT H' h).2 rfl
     have e : mkR s d none = none:=rfl
     rw [e]
     refine zm hbk (fun h=>by cases h) ?_; refine zB (zJ q) (zE (zD hb)) rfl ?_; refine zm (hwo _ hP) (fun h=>by cases h) ?_; refine zI (hrr _) ?_; refine zU rfl ?_; refine zU rfl ?_; refine zF (v:=rV r) (AV.cells (rV r)) zC rfl rfl rfl rfl ?_; refine zU rfl ?_; refine zG ?_; refine zB _ (zA tA (zD (zE (zE (zD hb))))) rfl ?_; refine zB (AV.str s) (zA tA (zD (zE (zE (zD hb))))) rfl ?_; refine zG <| zN tN ?_
     refine zB (AV.str s) (zA tA (zD (zE (zE (zD hb))))) rfl ?_; refine zB _ (zA tA (zD (zE (zE (zD hb))))) rfl ?_; refine zl rfl hc ?_; refine zG <| zP (bne_iff_ne.2 tO) ?_; refine zF (v:=zJ q) [AV.str s,zJ q,zJ d] (zA tA (zD (zE (zE (zD hb))))) rfl rfl rfl rfl ?_; refine zAS (hT _ hP) ?_
     exact zBm (by first | rfl | assumption) rfl rfl rfl ((((((((OldB.start hb).push _).setB _).setB _).push _).set tA _).setB _).setB _) rfl (by first | exact WkL.refl _ | exact zFY _ _ _) (by first | exact Wk.refl _ | exact zBn _ _)
    | some x=>
     obtain ⟨n,e'⟩:=x
     have hT:=fun H' h=>(hT H' h).1 n e' rfl
     have e0 : mkR s d (some (n,e')) = some (ndV n,rdB s e' d):=rfl
     rw [e0]
     refine zm hbk (fun h=>by cases h) ?_; refine zB (zJ q) (zE (zD hb)) rfl ?_; refine zm (hwo _ hP) (fun h=>by cases h) ?_; refine zI (hrr _) ?_; refine zU rfl ?_; refine zU rfl ?_; refine zF (v:=rV r) (AV.cells (rV r)) zC rfl rfl rfl rfl ?_; refine zU rfl ?_; refine zG ?_; refine zB (zJ e) (zA tA (zD (zE (zE (zD hb))))) rfl ?_; refine zB (AV.str s) (zA tA (zD (zE (zE (zD hb))))) rfl ?_; refine zG <| zN tN ?_
     refine zB (AV.str s) (zA tA (zD (zE (zE (zD hb))))) rfl ?_; refine zB (zJ e) (zA tA (zD (zE (zE (zD hb))))) rfl ?_; refine zl rfl hc ?_; refine zG <| zP (bne_iff_ne.2 tO) ?_; refine zF (v:=zJ q) [AV.str s,zJ q,zJ d] (zA tA (zD (zE (zE (zD hb))))) rfl rfl rfl rfl ?_; refine zBY (hT _ hP) ?_; refine zF (v:=ndV n) (AV.cells (ndV n)) (zA tA (zA tA (zA tA (zD (zA tA (zA tA zC)))))) rfl rfl rfl rfl ?_
     exact zy (o:=0) (ndV n) (by first | rfl | assumption) rfl rfl (zL (zE (zA tA (zA tA (zA tA (zD (zA tA (zA tA zC)))))))) rfl rfl rfl (((((((((OldB.start hb).push _).setB _).setB _).push _).set tA _).setB _).setB _).set tA _) rfl
   ·cases r0 with
    | none=>
     have hT:=fun H' h=>(hT H' h).2 rfl
     have e : mkR s d none = none:=rfl
     rw [e]
     refine zm hbk (fun h=>by cases h) ?_; refine zB (zJ q) (zE (zD hb)) rfl ?_; refine zm (hwo _ hP) (fun h=>by cases h) ?_; refine zI (hrr _) ?_; refine zU rfl ?_; refine zU rfl ?_; refine zF (v:=rV r) (AV.cells (rV r)) zC rfl rfl rfl rfl ?_; refine zU rfl ?_; refine zG ?_; refine zB _ (zA tA (zD (zE (zE (zD hb))))) rfl ?_; refine zB (AV.str s) (zA tA (zD (zE (zE (zD hb))))) rfl ?_; refine zG <| zP tE <| zH <| zH ?_
     refine zF (v:=zJ q) [AV.str s,zJ q,zJ d] (zA tA (zD (zE (zE (zD hb))))) rfl rfl rfl rfl ?_; refine zAS (hT _ hP) ?_
     exact zBm (by first | rfl | assumption) rfl rfl rfl ((((((((OldB.start hb).push _).setB _).setB _).push _).set tA _).setB _).setB _) rfl (by first | exact WkL.refl _ | exact zFY _ _ _) (by first | exact Wk.refl _ | exact zBn _ _)
    | some x=>
     obtain ⟨n,e'⟩:=x
     have hT:=fun H' h=>(hT H' h).1 n e' rfl
     have e0 : mkR s d (some (n,e')) = some (ndV n,rdB s e' d):=rfl
     rw [e0]
     refine zm hbk (fun h=>by cases h) ?_; refine zB (zJ q) (zE (zD hb)) rfl ?_; refine zm (hwo _ hP) (fun h=>by cases h) ?_; refine zI (hrr _) ?_; refine zU rfl ?_; refine zU rfl ?_; refine zF (v:=rV r) (AV.cells (rV r)) zC rfl rfl rfl rfl ?_; refine zU rfl ?_; refine zG ?_; refine zB (zJ e) (zA tA (zD (zE (zE (zD hb))))) rfl ?_; refine zB (AV.str s) (zA tA (zD (zE (zE (zD hb))))) rfl ?_; refine zG <| zP tE <| zH <| zH ?_
     refine zF (v:=zJ q) [AV.str s,zJ q,zJ d] (zA tA (zD (zE (zE (zD hb))))) rfl rfl rfl rfl ?_; refine zBY (hT _ hP) ?_; refine zF (v:=ndV n) (AV.cells (ndV n)) (zA tA (zA tA (zA tA (zD (zA tA (zA tA zC)))))) rfl rfl rfl rfl ?_
     exact zy (o:=0) (ndV n) (by first | rfl | assumption) rfl rfl (zL (zE (zA tA (zA tA (zA tA (zD (zA tA (zA tA zC)))))))) rfl rfl rfl (((((((((OldB.start hb).push _).setB _).setB _).push _).set tA _).setB _).setB _).set tA _) rfl
  case pos=>
   have hlt : e < s.length:=(zg h58).1
   rw [if_pos h58]
   clear hT
   simp only
   have hwo2:=fun H' h=>hWo b s (e + 1) d H' h tO hl
   have hel2:=zGr (s:=s) (a:=e + 1) tO
   have htl2 : (sub s (e + 1) (zB1 s (e + 1))).length ≤ 1000:=by rw [zJK hel2]; omega
   generalize zB1 s (e + 1) = e2 at *
   have hrr2:=fun H'=>hR (sub s (e + 1) e2) H' htl2
   generalize sub s (e + 1) e2 = t2 at *
   have hf:=fun H' h=>hF b s e2 d (e + 1 : Nat) 2 H' h
   clear hB hF hWo hR
   refine z7 ?_
   cases hrt2 : zCa t2 with
   | none=>
    rw [hrt2] at hrr2
    have hrr2 : ∀ H',C zAu [.str t2] H' (.tup [rV noRef,zF7 2]) H':=hrr2
    have e0 : mkR s d (Option.map (fun r2=>(boxN r r2,e2)) none) = none:=rfl
    rw [e0]
    refine zm hbk (fun h=>by cases h) ?_; refine zB (zJ q) (zE (zD hb)) rfl ?_; refine zm (hwo _ hP) (fun h=>by cases h) ?_; refine zI (hrr _) ?_; refine zU rfl ?_; refine zU rfl ?_; refine zF (v:=rV r) (AV.cells (rV r)) zC rfl rfl rfl rfl ?_; refine zU rfl ?_; refine zG ?_; refine zB (zJ e) (zA tA (zD (zE (zE (zD hb))))) rfl ?_; refine zB (AV.str s) (zA tA (zD (zE (zE (zD hb))))) rfl ?_; refine zG <| zN tN ?_
    refine zB (AV.str s) (zA tA (zD (zE (zE (zD hb))))) rfl ?_; refine zB (zJ e) (zA tA (zD (zE (zE (zD hb))))) rfl ?_; refine zl rfl h58 ?_; refine zG <| zN (bne_eq_false_iff_eq.2 (by rfl)) ?_; refine zB (zJ e) (zA tA (zD (zE (zE (zD hb))))) rfl ?_; refine zM (r:=e + 1) rfl tO ?_; refine zF (v:=.int .i64 ↑(e + 1)) [AV.str s,.int .i64 ↑(e + 1),zJ d] (zA tA (zD (zE (zE (zD hb))))) rfl rfl rfl rfl ?_
    refine zB (.int .i64 ↑(e + 1)) (zE (zA tA (zD (zE (zE (zD hb)))))) rfl ?_; refine zm (hwo2 _ hP) (fun h=>by cases h) ?_; refine zI (hrr2 _) ?_; refine zU rfl ?_; refine zU rfl ?_; refine zF (v:=rV noRef) (AV.cells (rV noRef)) zC rfl rfl rfl rfl ?_; refine zU rfl ?_; refine zH ?_; refine zAS (hf _ hP) ?_
    exact zBm (by first | rfl | assumption) rfl rfl rfl (((((((((((OldB.start hb).push _).setB _).setB _).push _).set tA _).setB _).setB _).push _).set tA _).setB _) rfl (by first | exact WkL.refl _ | exact zFY _ _ _) (by first | exact Wk.refl _ | exact zBn _ _)
   | some r2=>
    rw [hrt2] at hrr2
    have hrr2 : ∀ H',C zAu [.str t2] H' (.tup [rV r2,.nili]) H':=hrr2
    have e0 : mkR s d (Option.map (fun r2=>(boxN r r2,e2)) (some r2)) = some (ndV (boxN r r2),rdB s e2 d):=rfl
    rw [e0]
    refine zm hbk (fun h=>by cases h) ?_; refine zB (zJ q) (zE (zD hb)) rfl ?_; refine zm (hwo _ hP) (fun h=>by cases h) ?_; refine zI (hrr _) ?_; refine zU rfl ?_; refine zU rfl ?_; refine zF (v:=rV r) (AV.cells (rV r)) zC rfl rfl rfl rfl ?_; refine zU rfl ?_; refine zG ?_; refine zB (zJ e) (zA tA (zD (zE (zE (zD hb))))) rfl ?_; refine zB (AV.str s) (zA tA (zD (zE (zE (zD hb))))) rfl ?_; refine zG <| zN tN ?_
    refine zB (AV.str s) (zA tA (zD (zE (zE (zD hb))))) rfl ?_; refine zB (zJ e) (zA tA (zD (zE (zE (zD hb))))) rfl ?_; refine zl rfl h58 ?_; refine zG <| zN (bne_eq_false_iff_eq.2 (by rfl)) ?_; refine zB (zJ e) (zA tA (zD (zE (zE (zD hb))))) rfl ?_; refine zM (r:=e + 1) rfl tO ?_; refine zF (v:=.int .i64 ↑(e + 1)) [AV.str s,.int .i64 ↑(e + 1),zJ d] (zA tA (zD (zE (zE (zD hb))))) rfl rfl rfl rfl ?_
    refine zB (.int .i64 ↑(e + 1)) (zE (zA tA (zD (zE (zE (zD hb)))))) rfl ?_; refine zm (hwo2 _ hP) (fun h=>by cases h) ?_; refine zI (hrr2 _) ?_; refine zU rfl ?_; refine zU rfl ?_; refine zF (v:=rV r2) (AV.cells (rV r2)) zC rfl rfl rfl rfl ?_; refine zU rfl ?_; refine zG ?_; refine zB (rV r) (zA tA (zD (zA tA (zA tA (zE zC))))) rfl ?_; refine zB (rV r2) (zE zC) rfl ?_; refine zU (v:=[.int .i64 6,.int .i64 0,AV.str [],.int .i64 r.col,.int .i64 r.row,AV.bool r.fc,AV.bool r.fr,.int .i64 r2.col,.int .i64 r2.row,AV.bool r2.fc,AV.bool r2.fr,AV.lst (some true) 0 []]) rfl ?_
    refine zF (v:=AV.agg [.int .i64 6,.int .i64 0,AV.str [],.int .i64 r.col,.int .i64 r.row,AV.bool r.fc,AV.bool r.fr,.int .i64 r2.col,.int .i64 r2.row,AV.bool r2.fc,AV.bool r2.fr,AV.lst (some true) 0 []]) (AV.cells (AV.agg [.int .i64 6,.int .i64 0,AV.str [],.int .i64 r.col,.int .i64 r.row,AV.bool r.fc,AV.bool r.fr,.int .i64 r2.col,.int .i64 r2.row,AV.bool r2.fc,AV.bool r2.fr,AV.lst (some true) 0 []])) (zA tA (zD (zA tA (zA tA (zA tA (zD (zA tA (zA tA zC)))))))) rfl rfl rfl rfl ?_
    exact zy (o:=0) (AV.agg [.int .i64 6,.int .i64 0,AV.str [],.int .i64 r.col,.int .i64 r.row,AV.bool r.fc,AV.bool r.fr,.int .i64 r2.col,.int .i64 r2.row,AV.bool r2.fc,AV.bool r2.fr,AV.lst (some true) 0 []]) (by first | rfl | assumption) rfl rfl (zL (zE (zA tA (zD (zA tA (zA tA (zA tA (zD (zA tA (zA tA zC)))))))))) rfl rfl rfl (((((((((((OldB.start hb).push _).setB _).setB _).push _).set tA _).setB _).setB _).push _).set tA _).set tA _) rfl
end
end Go.AM
set_option maxRecDepth 20000
namespace Go.AM
def zHo (c : UInt8) (d : Option UInt8) : Bs:=match d with
 | some d=>if (c = 60 ∧ d = 62) ∨ (c = 60 ∧ d = 61) ∨ (c = 62 ∧ d = 61) then [c,d] else [c]
 | none=>[c]
theorem opAt_is {s : Bs} {q : Nat} {c : UInt8} (h : s[q]? = some c) (h32 : c ≠ 32) (h34 : c ≠ 34) (h35 : c ≠ 35) (hw : zu c = false) :
  zHs s q = if zA4 (zHo c s[q + 1]?) = 0 then none else some (zA4 (zHo c s[q + 1]?),q + (zHo c s[q + 1]?).length):=by
 unfold zHs
 rw [zJb (by rw [h]; exact fun e=>h32 (Option.some.inj e))]
 unfold zCF
 rw [h]
 simp only [hw,Bool.false_eq_true,if_false,h34,h35]
 unfold zHo
 cases s[q + 1]? with
 | none=>rfl
 | some d=>
  simp only
  by_cases hx : (c = 60 ∧ d = 62) ∨ (c = 60 ∧ d = 61) ∨ (c = 62 ∧ d = 61)
  ·simp only [if_pos hx]; rfl
  ·simp only [if_neg hx]; rfl
theorem opAt_some {s : Bs} {q op e : Nat} (hs : s[q]? ≠ some 32) (h : zHs s q = some (op,e)) : ∃ c,s[q]? = some c ∧ c ≠ 34 ∧ c ≠ 35 ∧ zu c = false:=by
 unfold zHs at h
 rw [zJb hs] at h
 unfold zCF at h
 cases hc : s[q]? with
 | none=>rw [hc] at h; cases h
 | some c=>
  rw [hc] at h
  simp only at h
  refine ⟨c,rfl, ?_, ?_, ?_⟩
  ·rintro rfl
   have hw : zu 34 = false:=by decide
   simp only [hw,Bool.false_eq_true,if_false,if_true] at h
   cases hq : quo (s.drop (q + 1)) (q + 1) with
   | none=>rw [hq] at h; cases h
   | some x=>rw [hq] at h; cases h
  ·rintro rfl
   have hw : zu 35 = false:=by decide
   have h1 : ¬ ((35 : UInt8) = 34):=by decide
   simp only [hw,Bool.false_eq_true,if_false,if_true,h1] at h
   cases hq : zJG (s.drop q) wrongs 1 with
   | none=>rw [hq] at h; cases h
   | some x=>rw [hq] at h; cases h
  ·cases hw : zu c with
   | false=>rfl
   | true=>rw [hw] at h; simp at h
def sgn : Nat → List Bs
 | 0=>[[60,62],[60,61],[62,61],[61],[60],[62]]
 | 1=>[[38]]
 | 2=>[[43],[45]]
 | 3=>[[42],[47]]
 | _=>[]
theorem zFz {s : Bs} {q : Nat} {c d : UInt8} : ([c,d] : Bs).isPrefixOf (s.drop q) = true ↔ s[q]? = some c ∧ s[q + 1]? = some d:=by
 cases hc : s[q]? with
 | none=>rw [zGq hc]; simp
 | some c'=>
  rw [zAw hc]
  cases hd : s[q + 1]? with
  | none=>rw [zGq hd]; simp [List.isPrefixOf]
  | some d'=>
   rw [zAw hd]
   simp only [List.isPrefixOf,Bool.and_true,Bool.and_eq_true,beq_iff_eq,Option.some.injEq]
   exact ⟨fun h=>⟨h.1.symm,h.2.symm⟩,fun h=>⟨h.1.symm,h.2.symm⟩⟩
theorem zDW {s : Bs} {q : Nat} {c : UInt8} : ([c] : Bs).isPrefixOf (s.drop q) = true ↔ s[q]? = some c:=by
 cases hc : s[q]? with
 | none=>rw [zGq hc]; simp
 | some c'=>
  rw [zAw hc]
  simp only [List.isPrefixOf,Bool.and_true,beq_iff_eq,Option.some.injEq]
  exact ⟨fun h=>h.symm,fun h=>h.symm⟩
theorem op_two {s : Bs} {q : Nat} {c d : UInt8} (h1 : s[q]? = some c) (h2 : s[q + 1]? = some d) (hcd : (c = 60 ∧ d = 62) ∨ (c = 60 ∧ d = 61) ∨ (c = 62 ∧ d = 61)) : zHs s q = some (zA4 [c,d],q + 2):=by
 have h3 : c ≠ 32 ∧ c ≠ 34 ∧ c ≠ 35 ∧ zu c = false ∧ zA4 [c,d] ≠ 0:=by rcases hcd with ⟨rfl,rfl⟩ | ⟨rfl,rfl⟩ | ⟨rfl,rfl⟩ <;> decide
 rw [opAt_is h1 h3.1 h3.2.1 h3.2.2.1 h3.2.2.2.1,h2]
 have e : zHo c (some d) = [c,d]:=if_pos hcd
 rw [e,if_neg h3.2.2.2.2]; rfl
theorem zJc {s : Bs} {q : Nat} {c : UInt8} (h1 : s[q]? = some c) (hc : c = 60 ∨ c = 62 ∨ c = 61 ∨ c = 38 ∨ c = 43 ∨ c = 45 ∨ c = 42 ∨ c = 47) (hn : ∀ d,s[q + 1]? = some d → ¬ ((c = 60 ∧ d = 62) ∨ (c = 60 ∧ d = 61) ∨ (c = 62 ∧ d = 61))) : zHs s q = some (zA4 [c],q + 1):=by
 have h3 : c ≠ 32 ∧ c ≠ 34 ∧ c ≠ 35 ∧ zu c = false ∧ zA4 [c] ≠ 0:=by rcases hc with rfl | rfl | rfl | rfl | rfl | rfl | rfl | rfl <;> decide
 rw [opAt_is h1 h3.1 h3.2.1 h3.2.2.1 h3.2.2.2.1]
 have e : zHo c s[q + 1]? = [c]:=by
  unfold zHo
  cases hd : s[q + 1]? with
  | none=>rfl
  | some d=>simp only; rw [if_neg (hn d hd)]
 rw [e,if_neg h3.2.2.2.2]; rfl
theorem op_match {s : Bs} {q l i : Nat} {t : Bs} (ht : (sgn l)[i]? = some t) (hp : t.isPrefixOf (s.drop q) = true) (hno : ∀ j u,j < i → (sgn l)[j]? = some u → u.isPrefixOf (s.drop q) = false) :
  zHs s q = some (zA4 t,q + t.length) ∧ tight (zA4 t) = l + 1 ∧ zA4 t ≠ 0:=by
 rcases l with _ | _ | _ | _ | l
 ·rcases i with _ | _ | _ | _ | _ | _ | i
  ·cases ht; have:=zFz.1 hp; exact ⟨op_two this.1 this.2 (by decide),by decide,by decide⟩
  ·cases ht; have:=zFz.1 hp; exact ⟨op_two this.1 this.2 (by decide),by decide,by decide⟩
  ·cases ht; have:=zFz.1 hp; exact ⟨op_two this.1 this.2 (by decide),by decide,by decide⟩
  ·cases ht; have:=zDW.1 hp; exact ⟨zJc this (by decide) (fun d _=>by rintro (⟨h,_⟩ | ⟨h,_⟩ | ⟨h,_⟩) <;> revert h <;> decide),by decide,by decide⟩
  ·cases ht
   have h1:=zDW.1 hp
   refine ⟨zJc h1 (by decide) (fun d hd=>?_),by decide,by decide⟩
   rintro (⟨_,rfl⟩ | ⟨_,rfl⟩ | ⟨h,_⟩)
   ·have:=hno 0 _ tO rfl; rw [zFz.2 ⟨h1,hd⟩] at this; cases this
   ·have:=hno 1 _ tO rfl; rw [zFz.2 ⟨h1,hd⟩] at this; cases this
   ·revert h; decide
  ·cases ht
   have h1:=zDW.1 hp
   refine ⟨zJc h1 (by decide) (fun d hd=>?_),by decide,by decide⟩
   rintro (⟨h,_⟩ | ⟨h,_⟩ | ⟨_,rfl⟩)
   ·revert h; decide
   ·revert h; decide
   ·have:=hno 2 _ tO rfl; rw [zFz.2 ⟨h1,hd⟩] at this; cases this
  ·simp [sgn] at ht
 ·rcases i with _ | i
  ·cases ht; have:=zDW.1 hp; exact ⟨zJc this (by decide) (fun d _=>by rintro (⟨h,_⟩ | ⟨h,_⟩ | ⟨h,_⟩) <;> revert h <;> decide),by decide,by decide⟩
  ·simp [sgn] at ht
 ·rcases i with _ | _ | i
  ·cases ht; have:=zDW.1 hp; exact ⟨zJc this (by decide) (fun d _=>by rintro (⟨h,_⟩ | ⟨h,_⟩ | ⟨h,_⟩) <;> revert h <;> decide),by decide,by decide⟩
  ·cases ht; have:=zDW.1 hp; exact ⟨zJc this (by decide) (fun d _=>by rintro (⟨h,_⟩ | ⟨h,_⟩ | ⟨h,_⟩) <;> revert h <;> decide),by decide,by decide⟩
  ·simp [sgn] at ht
 ·rcases i with _ | _ | i
  ·cases ht; have:=zDW.1 hp; exact ⟨zJc this (by decide) (fun d _=>by rintro (⟨h,_⟩ | ⟨h,_⟩ | ⟨h,_⟩) <;> revert h <;> decide),by decide,by decide⟩
  ·cases ht; have:=zDW.1 hp; exact ⟨zJc this (by decide) (fun d _=>by rintro (⟨h,_⟩ | ⟨h,_⟩ | ⟨h,_⟩) <;> revert h <;> decide),by decide,by decide⟩
  ·simp [sgn] at ht
 ·simp [sgn] at ht
theorem opNo_mem {t : Bs} {l : Nat} (hne : ¬ zA4 t = 0) (ht : tight (zA4 t) = l + 1) : t ∈ sgn l:=by
 by_cases h0 : t = [61]
 ·subst h0
  have e : tight (zA4 [61]) = 1:=by decide
  have e2 : l = 0:=by omega
  subst e2; decide
 by_cases h1 : t = [60,62]
 ·subst h1
  have e : tight (zA4 [60,62]) = 1:=by decide
  have e2 : l = 0:=by omega
  subst e2; decide
 by_cases h2 : t = [60]
 ·subst h2
  have e : tight (zA4 [60]) = 1:=by decide
  have e2 : l = 0:=by omega
  subst e2; decide
 by_cases h3 : t = [60,61]
 ·subst h3
  have e : tight (zA4 [60,61]) = 1:=by decide
  have e2 : l = 0:=by omega
  subst e2; decide
 by_cases h4 : t = [62]
 ·subst h4
  have e : tight (zA4 [62]) = 1:=by decide
  have e2 : l = 0:=by omega
  subst e2; decide
 by_cases h5 : t = [62,61]
 ·subst h5
  have e : tight (zA4 [62,61]) = 1:=by decide
  have e2 : l = 0:=by omega
  subst e2; decide
 by_cases h6 : t = [38]
 ·subst h6
  have e : tight (zA4 [38]) = 2:=by decide
  have e2 : l = 1:=by omega
  subst e2; decide
 by_cases h7 : t = [43]
 ·subst h7
  have e : tight (zA4 [43]) = 3:=by decide
  have e2 : l = 2:=by omega
  subst e2; decide
 by_cases h8 : t = [45]
 ·subst h8
  have e : tight (zA4 [45]) = 3:=by decide
  have e2 : l = 2:=by omega
  subst e2; decide
 by_cases h9 : t = [42]
 ·subst h9
  have e : tight (zA4 [42]) = 4:=by decide
  have e2 : l = 3:=by omega
  subst e2; decide
 by_cases h10 : t = [47]
 ·subst h10
  have e : tight (zA4 [47]) = 4:=by decide
  have e2 : l = 3:=by omega
  subst e2; decide
 ·exact absurd (by unfold zA4; simp only [h0,h1,h2,h3,h4,h5,h6,h7,h8,h9,h10,if_false]) hne
theorem op_none {s : Bs} {q l : Nat} (hs : s[q]? ≠ some 32) (hno : ∀ t,t ∈ sgn l → t.isPrefixOf (s.drop q) = false) {op e : Nat} (h : zHs s q = some (op,e)) : tight op ≠ l + 1:=by
 obtain ⟨c,hc,h34,h35,hw⟩:=opAt_some hs h
 rw [opAt_is hc (fun x=>hs (by rw [hc,x])) h34 h35 hw] at h
 split at h
 ·cases h
 ·rename_i hne
  cases h
  intro ht
  have hpre : (zHo c s[q + 1]?).isPrefixOf (s.drop q) = true:=by
   unfold zHo
   cases hd : s[q + 1]? with
   | none=>exact zDW.2 hc
   | some d=>
    simp only
    split
    ·exact zFz.2 ⟨hc,hd⟩
    ·exact zDW.2 hc
  generalize zHo c s[q + 1]? = t at *
  have hmem : t ∈ sgn l:=opNo_mem hne ht
  rw [hno t hmem] at hpre
  cases hpre
theorem boxAt_skip (s : Bs) (a : Nat) : zDj s (skip s a) = zDj s a:=by unfold zDj; rw [zIf]
theorem args_skip {s : Bs} {a : Nat} (nm : Bs) (ks : List Nd) (d : Nat) (ha : a ≤ s.length) : (P s).args nm ks (skip s a) d = (P s).args nm ks a d:=by
 rw [zK6 nm ks d (zBX ha),zK6 nm ks d ha]
 unfold zFR zEF
 rw [boxAt_skip,loose_skip 1 d ha]
theorem args_step {s : Bs} {a : Nat} (nm : Bs) (ks : List Nd) (d : Nat) (ha : a ≤ s.length) : (P s).args nm ks a d = (argS s a d).bind fun p=>if s[skip s p.2]? = some 44 then (P s).args nm (ks ++ [p.1]) (skip s p.2 + 1) d else if s[skip s p.2]? = some 41 then some (zEE nm (ks ++ [p.1]),skip s p.2 + 1) else none:=by
 rw [zK6 nm ks d ha]
 have key : ∀ p : Nd × Nat,(match tok s p.2 with
   | .sign e [44]=>(P s).args nm (ks ++ [p.1]) e d
   | .sign e [41]=>some (zEE nm (ks ++ [p.1]),e)
   | _=>none) = if s[skip s p.2]? = some 44 then (P s).args nm (ks ++ [p.1]) (skip s p.2 + 1) d else if s[skip s p.2]? = some 41 then some (zEE nm (ks ++ [p.1]),skip s p.2 + 1) else none:=fun p=>by
  by_cases h44 : s[skip s p.2]? = some 44
  ·rw [zFT h44 (by decide),if_pos h44]; rfl
  ·rw [if_neg h44]
   by_cases h41 : s[skip s p.2]? = some 41
   ·rw [zFT h41 (by decide),if_pos h41]; rfl
   ·rw [if_neg h41]
    split
    ·rename_i e hk; exact absurd (zFy hk).1 h44
    ·rename_i e hk; exact absurd (zFy hk).1 h41
    ·rfl
 unfold zFR zEF argS
 cases zDj s a with
 | some r=>
  simp only
  refine zCq rfl fun p _=>?_
  exact key p
 | none=>
  simp only
  unfold bl
  cases (P s).loose 1 a d with
  | none=>rfl
  | some p=>
   simp only [Option.map_some,Option.bind_some]
   rw [zED]
   exact key p
theorem argS_ends {s : Bs} {a d : Nat} (ha : a ≤ s.length) {p : Nd × Nat} (h : argS s a d = some p) : a < p.2 ∧ p.2 ≤ s.length:=by
 unfold argS at h
 split at h
 ·rename_i r hb
  subst h
  exact boxAt_ends hb
 ·unfold bl at h
  rw [Option.map_eq_some_iff] at h
  obtain ⟨q,h1,rfl⟩:=h
  have:=(zBx s).loose 1 a d q ha h1
  have h2:=zEC s q.2
  have h3:=zBX this.2
  exact ⟨by simp only; omega,h3⟩
theorem callS_is {s t : Bs} {e d : Nat} (he : e + 1 ≤ s.length) : zGQ s t e d = if s[skip s (e + 1)]? = some 41 then some (zEE t [],skip s (e + 1) + 1) else (P s).args t [] (skip s (e + 1)) d:=by
 rw [args_skip t [] d he]
 unfold zGQ
 by_cases h41 : s[skip s (e + 1)]? = some 41
 ·rw [zFT h41 (by decide),if_pos h41]; rfl
 ·rw [if_neg h41]
  split
  ·rename_i e2 hk; exact absurd (zFy hk).1 h41
  ·rfl
end Go.AM
set_option maxRecDepth 20000
namespace Go.AM
def zAH (name : Bs) (v : AV) : List AV:=[.int .i64 9,.int .i64 0,.str name,.int .i64 0,.int .i64 0,.bool false,.bool false,.int .i64 0,.int .i64 0,.bool false,.bool false,v]
theorem zIi (name : Bs) (ks : List Nd) : ndV (zEE name ks) = .agg (zAH name (lstF 12 (ks.map ndV))):=by
 cases ks with
 | nil=>rfl
 | cons k r=>
  show AV.agg (zAH name (.lst (some false) 12 (kidL (k :: r)))) = _
  rw [kidL_map]; rfl
theorem zIj {H0 H : Heap} {v : AV} {xs : List AV} {b : Nat} {B : ABlk} (name : Bs) (ho : Owns H0 H v 12 xs) {H1 : Heap} (hl : H1.length = H0.length) (hB : OldB H1 b B H) : ∃ H',zDo H1.length (.agg (zAH name v)) H = some (.agg (zAH name (lstF 12 xs)),H') ∧ OldB H1 b B H':=by
 rcases ho with ⟨rfl,rfl⟩ | ⟨nb,rfl,h1,h2,h3⟩
 ·exact ⟨H,rfl,hB⟩
 ·have hn : ¬ nb < H1.length:=by omega
  refine ⟨H.set nb (.frz 12 xs), ?_,hB.set tO _⟩
  simp only [zAH,zDo,zIp,hn,if_false,h2]
  cases xs with
  | nil=>exact absurd rfl h3
  | cons x r=>simp [frzQ,lstF]
theorem zFU {name : Bs} {v : AV} (h : v.one = true) : (AV.agg (zAH name v)).cells.all AV.one = true:=by
 simp only [zAH,AV.cells,List.all_cons,List.all_nil,h,Bool.and_true]; rfl
theorem zGt (n : Nat) (name : Bs) (xs : List AV) : (AV.agg (zAH name (lstF 12 xs))).bel n = true:=by cases xs <;> rfl
theorem Owns.setBox {H0 H : Heap} {v : AV} {k c : Nat} {xs cs : List AV} (h : Owns H0 H v k xs) (hc : H[c]? = some (.box cs)) (y : ABlk) : Owns H0 (H.set c y) v k xs:=h.set (h.notBox hc) y
theorem zCY {b k o : Nat} {v : AV} {cs : List AV} (cs' : List AV) {H : Heap} {K : AV → Heap → Prop} (h : H[b]? = some (.box cs)) (hv : v.cells = [v] ∧ v.one = true) (ho : Nat.ble (o + 1) cs.length = true) (he : splice cs o [v] = cs')
  (q : K .undef (H.set b (.box cs'))) : actP (.store 1) [.ref b k 0 o,v] H K:=
 zF cs' h (by rw [hv.1]; rfl) (by rw [hv.1]; simp [hv.2]) ho (by rw [hv.1]; exact he) q
structure CSt where
 a : Nat
 v : AV
 ks : List Nd
section
variable {C : CSpec} {GT : Nat → Option AV}
theorem call_ev (hB : ∀ b s p d H,H[b]? = some (rdB s p d) → p ≤ s.length → s.length ≤ 200 → C za [pR b] H (.tup []) (H.set b (rdB s (skip s p) d)))
  (hWt : ∀ c b s p d H,H[b]? = some (rdB s p d) → p ≤ s.length → s.length ≤ 200 → (s[skip s p]? = some c → C zr [pR b,byV c] H (.tup []) (H.set b (rdB s (skip s p + 1) d))) ∧ (s[skip s p]? ≠ some c → C zr (.pan .undef :: [pR b,byV c]) H zEf (H.set b (.box (wkC s)))))
  (t : Bs) (b : Nat) (s : Bs) (p d : Nat) (H : Heap) (hb : H[b]? = some (rdB s p d)) (hp : p < s.length) (hl : s.length ≤ 200)
  (hA : ∀ a H',p < a → a ≤ s.length → H'[b]? = some (rdB s a d) → CR C zAk [pR b] H' b s d (argS s a d)) :
  zBt C GT zBB [pR b,.str t] H b (wkC s) zEf (mkR s d (zGQ s t p d)):=by
 have hbl : b < H.length:=(zg hb).1
 have hbk:=fun a H' h1 h2=>hB b s a d H' h1 h2 hl
 have hwt:=fun a H' h1 h2=>hWt 41 b s a d H' h1 h2 hl
 have hl5 : (H ++ [ABlk.box (ndC zY)]).length = H.length + 1:=by simp
 clear hB hWt
 rw [callS_is tO]
 have hpq:=zEC s (p + 1)
 have hql:=zBX (s:=s) (a:=p + 1) tO
 have hbk0:=hbk (p + 1)
 generalize skip s (p + 1) = q at *
 refine z7 ?_
 by_cases h41 : s[q]? = some 41
 ·have hlt : q < s.length:=(zg h41).1
  rw [if_pos h41]
  have e0 : mkR s d (some (zEE t [],q + 1)) = some (ndV (zEE t []),rdB s (q + 1) d):=rfl
  rw [e0]
  clear hA hbk hwt
  refine zU (v:=[.int .i64 9,.int .i64 0,AV.str t,.int .i64 0,.int .i64 0,AV.bool false,AV.bool false,.int .i64 0,.int .i64 0,AV.bool false,AV.bool false,AV.lst (some true) 0 []]) rfl ?_; refine zF (v:=AV.agg [.int .i64 9,.int .i64 0,AV.str t,.int .i64 0,.int .i64 0,AV.bool false,AV.bool false,.int .i64 0,.int .i64 0,AV.bool false,AV.bool false,AV.lst (some true) 0 []]) (AV.cells (AV.agg [.int .i64 9,.int .i64 0,AV.str t,.int .i64 0,.int .i64 0,AV.bool false,AV.bool false,.int .i64 0,.int .i64 0,AV.bool false,AV.bool false,AV.lst (some true) 0 []])) zC rfl rfl rfl rfl ?_
  refine zB (zJ p) (zA tA (zD (zD hb))) rfl ?_; refine zM (r:=p + 1) rfl tO ?_; refine zF (v:=.int .i64 ↑(p + 1)) [AV.str s,.int .i64 ↑(p + 1),zJ d] (zA tA (zD (zD hb))) rfl rfl rfl rfl ?_; refine zm (hbk0 _ hP tO) (fun h=>by cases h) ?_; refine zB (zJ q) (zE (zE (zA tA (zD (zD hb))))) rfl ?_; refine zB (AV.str s) (zE (zE (zA tA (zD (zD hb))))) rfl ?_; refine zP tT ?_; refine zB (AV.str s) (zE (zE (zA tA (zD (zD hb))))) rfl ?_
  refine zB (zJ q) (zE (zE (zA tA (zD (zD hb))))) rfl ?_; refine zl rfl h41 ?_; refine zH <| zP (tE (by rfl)) ?_; refine zB (zJ q) (zE (zE (zA tA (zD (zD hb))))) rfl ?_; refine zM (r:=q + 1) rfl tO ?_; refine zF (v:=.int .i64 ↑(q + 1)) [AV.str s,.int .i64 ↑(q + 1),zJ d] (zE (zE (zA tA (zD (zD hb))))) rfl rfl rfl rfl ?_; refine zB (AV.agg [.int .i64 9,.int .i64 0,AV.str t,.int .i64 0,.int .i64 0,AV.bool false,AV.bool false,.int .i64 0,.int .i64 0,AV.bool false,AV.bool false,AV.lst (some true) 0 []]) (zA tA (zA tA (zA tA (zE zC)))) rfl ?_
  refine zF (v:=AV.agg [.int .i64 9,.int .i64 0,AV.str t,.int .i64 0,.int .i64 0,AV.bool false,AV.bool false,.int .i64 0,.int .i64 0,AV.bool false,AV.bool false,AV.lst (some true) 0 []]) (AV.cells (AV.agg [.int .i64 9,.int .i64 0,AV.str t,.int .i64 0,.int .i64 0,AV.bool false,AV.bool false,.int .i64 0,.int .i64 0,AV.bool false,AV.bool false,AV.lst (some true) 0 []])) (zA tA (zA tA (zA tA (zA tA (zD zC))))) rfl rfl rfl rfl ?_
  exact zy (o:=0) (AV.agg [.int .i64 9,.int .i64 0,AV.str t,.int .i64 0,.int .i64 0,AV.bool false,AV.bool false,.int .i64 0,.int .i64 0,AV.bool false,AV.bool false,AV.lst (some true) 0 []]) (by first | rfl | assumption) rfl rfl (zL (zE (zA tA (zA tA (zA tA (zA tA (zD zC))))))) rfl rfl rfl ((((((((OldB.start hb).push _).push _).set tA _).setB _).setB _).setB _).set tA _) rfl
 rw [if_neg h41]
 obtain ⟨r,hr⟩ : ∃ r,(P s).args t [] q d = r:=⟨_,rfl⟩
 rw [hr]
 have hloop : ∀ HH,OldB H b (rdB s q d) HH → HH[b]? = some (rdB s q d) → HH[H.length]? = some (.box (ndC zY)) → HH[(H ++ [ABlk.box (ndC zY)]).length]? = some (.box (zAH t (.lst (some true) 0 []))) →
   loopP C GT [0,4,5] zCv (zJV 0 [4] (zHI zBB H b (wkC s) zEf (mkR s d r))) [(0,pR b),(4,pR H.length),(5,pR (H ++ [ABlk.box (ndC zY)]).length)] HH:=fun HH g1 g2 g3 g4=>by
  refine zBu (fun x : CSt=>[(0,pR b),(4,pR H.length),(5,pR (H ++ [ABlk.box (ndC zY)]).length)])
   (fun x H'=>Owns H H' x.v 12 (x.ks.map ndV) ∧ OldB H b (rdB s x.a d) H' ∧ H'[b]? = some (rdB s x.a d) ∧ H'[H.length]? = some (.box (ndC zY)) ∧ H'[(H ++ [ABlk.box (ndC zY)]).length]? = some (.box (zAH t x.v)) ∧ p < x.a ∧ x.a ≤ s.length ∧ x.ks.length ≤ x.a ∧ (P s).args t x.ks x.a d = r)
   (fun x=>s.length - x.a) ⟨q,.lst (some true) 0 [],[]⟩ rfl
   ⟨.inl ⟨rfl,rfl⟩,g1,g2,g3,g4,by simp only; omega,hql,by simp,hr⟩ (fun ⟨a,v,ks⟩ H1 ⟨how,hob,hb1,h4,h5,hpa,hal,hkl,hq⟩=>?_)
  dsimp only at how hob hb1 h4 h5 hpa hal hkl hq ⊢
  have hlen1:=hob.old.1
  rw [List.length_set] at hlen1
  have h5l:=(zg h5).1
  have har:=hA a H1 hpa hal hb1
  rw [args_step t ks d hal] at hq
  clear hA hbk0 hr
  cases hra : argS s a d with
  | none=>
   rw [hra] at har hq
   have hq : none = r:=hq
   subst hq
   have e0 : mkR s d none = none:=rfl
   rw [e0]
   have har:=har.2 rfl
   clear hbk hwt
   refine zGU ?_ ?_
   ·refine zB (v) h5 rfl ?_; refine zAS har ?_
    exact zBm (by first | rfl | assumption) rfl rfl rfl (hob.setB _) rfl (by first | exact WkL.refl _ | exact zFY _ _ _) (by first | exact Wk.refl _ | exact zBn _ _)
   ·refine zAS har ?_
    exact zBm (by first | rfl | assumption) rfl rfl rfl (hob.setB _) rfl (by first | exact WkL.refl _ | exact zFY _ _ _) (by first | exact Wk.refl _ | exact zBn _ _)
  | some x=>
   obtain ⟨n,e⟩:=x
   have hee:=argS_ends hal hra
   simp only at hee
   rw [hra] at har hq
   simp only [Option.bind_some] at hq
   have har:=har.1 n e rfl
   have hbk1:=hbk e
   have hqe:=zEC s e
   have hqle:=zBX hee.2
   have hwt1:=hwt (skip s e)
   rw [zED] at hwt1
   clear hbk hwt
   generalize skip s e = q1 at *
   have hel : (ndV n).elem 12 = true:=rfl
   have how2:=how.set (how.notBox hb1) (rdB s e d)
   have hob2:=hob.setB (rdB s e d)
   have hlH : (H.set b (rdB s e d)).length = H.length:=List.length_set
   refine zGU ?_ ?_
   ·refine zB (v) h5 rfl ?_; refine zBY har ?_; refine zAi (vs':=[ndV n]) rfl rfl ?_; refine zBT (H0:=H.set b (rdB s e d)) ((how2.base hlH).push _) (hob2.old.push _) zAp tO (by simp only [List.length_map,List.length_cons,List.length_nil]; omega) (by simp) fun v' H' ho' hH' hb' hf=>?_
    have hx1:=hf b _ (how2.notBox (zE hb1)) (zD (zE hb1))
    have hx4:=hf H.length _ (how2.notBox (zA tO h4)) (zD (zA tO h4))
    have hx5:=hf (H ++ [ABlk.box (ndC zY)]).length _ (how2.notBox (zA tO h5)) (zD (zA tO h5))
    have hlH':=hH'.1
    rw [List.length_set] at hlH'
    have hob3 : OldB H b (rdB s e d) H':=⟨hbl,hH'⟩
    have hx5l:=(zg hx5).1
    by_cases h44 : s[q1]? = some 44
    ·have hlt : q1 < s.length:=(zg h44).1
     rw [if_pos h44] at hq
     clear hwt1
     refine zCY (zAH t v') hx5 ho'.one rfl rfl ?_; refine zm (hbk1 _ hP tO) (fun h=>by cases h) ?_; refine zB (zJ q1) (zE (zA tA hx1)) rfl ?_; refine zB (AV.str s) (zE (zA tA hx1)) rfl ?_; refine zP tT ?_; refine zB (AV.str s) (zE (zA tA hx1)) rfl ?_; refine zB (zJ q1) (zE (zA tA hx1)) rfl ?_; refine zl rfl h44 ?_; refine zH <| zP (tE (by rfl)) ?_; refine zB (zJ q1) (zE (zA tA hx1)) rfl ?_; refine zM (r:=q1 + 1) rfl tO ?_
     refine zF (v:=.int .i64 ↑(q1 + 1)) [AV.str s,.int .i64 ↑(q1 + 1),zJ d] (zE (zA tA hx1)) rfl rfl rfl rfl ?_; refine zAM (CSt.mk (q1 + 1) v' (ks ++ [n])) rfl ⟨?_,(((hob3.set tO _).setB _).setB _),hP,hP,hP,by simp only; omega,by simp only; omega,by simp only [List.length_append,List.length_cons,List.length_nil]; omega,hq⟩ (by simp only; omega)
     rw [List.map_append]
     exact (((ho'.setBox hx5 _).setBox hP _).setBox hP _).base hlH.symm
    rw [if_neg h44] at hq
    by_cases h41' : s[q1]? = some 41
    ·have hlt : q1 < s.length:=(zg h41').1
     rw [if_pos h41'] at hq
     subst hq
     have e0 : mkR s d (some (zEE t (ks ++ [n]),q1 + 1)) = some (.agg (zAH t (lstF 12 ((ks ++ [n]).map ndV))),rdB s (q1 + 1) d):=by rw [← zIi]; rfl
     rw [e0]
     refine zCY (zAH t v') hx5 ho'.one rfl rfl ?_; refine zm (hbk1 _ hP tO) (fun h=>by cases h) ?_; refine zB (zJ q1) (zE (zA tA hx1)) rfl ?_; refine zB (AV.str s) (zE (zA tA hx1)) rfl ?_; refine zP tT ?_; refine zB (AV.str s) (zE (zA tA hx1)) rfl ?_; refine zB (zJ q1) (zE (zA tA hx1)) rfl ?_; refine zl rfl h41' ?_; refine zH <| zN (tN (by decide)) ?_; refine zBY ((hwt1 _ hP tO).1 h41') ?_; refine zB (AV.agg [.int .i64 9,.int .i64 0,AV.str t,.int .i64 0,.int .i64 0,AV.bool false,AV.bool false,.int .i64 0,.int .i64 0,AV.bool false,AV.bool false,v']) (zA tA (zA tA (zE hx5))) rfl ?_
     refine zF (v:=.agg (zAH t v')) (zAH t v') hP rfl (zFU ho'.one.2) rfl rfl ?_
     have hown : Owns H (((H'.set (H ++ [ABlk.box (ndC zY)]).length (.box (zAH t v'))).set b (rdB s q1 d)).set b (rdB s (q1 + 1) d) |>.set H.length (.box (zAH t v'))) v' 12 ((ks ++ [n]).map ndV):=by
      rw [List.map_append]
      exact ((((ho'.setBox hx5 _).setBox hP _).setBox hP _).setBox hP _).base hlH.symm
     obtain ⟨H2,hz,hob4⟩:=zIj t hown rfl ((((hob3.set tO _).setB _).setB _).set (Nat.le_refl _) _)
     exact zy (o:=0) (.agg (zAH t v')) rfl rfl rfl (zL hP) rfl hz (zGt _ _ _) hob4 rfl
    ·rw [if_neg h41'] at hq
     subst hq
     have e0 : mkR s d none = none:=rfl
     rw [e0]
     by_cases hlt : q1 < s.length
     ·obtain ⟨c,hc⟩ : ∃ c,s[q1]? = some c:=⟨_,List.getElem?_eq_getElem hlt⟩
      have hn : c.toNat ≠ 44:=fun x=>h44 (by rw [hc,show c = 44 from UInt8.toNat_inj.1 x])
      refine zCY (zAH t v') hx5 ho'.one rfl rfl ?_; refine zm (hbk1 _ hP tO) (fun h=>by cases h) ?_; refine zB (zJ q1) (zE (zA tA hx1)) rfl ?_; refine zB (AV.str s) (zE (zA tA hx1)) rfl ?_; refine zP tT ?_; refine zB (AV.str s) (zE (zA tA hx1)) rfl ?_; refine zB (zJ q1) (zE (zA tA hx1)) rfl ?_; refine zl rfl hc ?_; refine zH <| zN tN ?_; refine zAS ((hwt1 _ hP tO).2 h41') ?_
      exact zBm (by first | rfl | assumption) rfl rfl rfl (((hob3.set tA _).setB _).setB _) rfl (by first | exact WkL.refl _ | exact zFY _ _ _) (by first | exact Wk.refl _ | exact zBn _ _)
     ·refine zCY (zAH t v') hx5 ho'.one rfl rfl ?_; refine zm (hbk1 _ hP tO) (fun h=>by cases h) ?_; refine zB (zJ q1) (zE (zA tA hx1)) rfl ?_; refine zB (AV.str s) (zE (zA tA hx1)) rfl ?_; refine zN tF <| zG <| zG ?_; refine zAS ((hwt1 _ hP tO).2 h41') ?_
      exact zBm (by first | rfl | assumption) rfl rfl rfl (((hob3.set tA _).setB _).setB _) rfl (by first | exact WkL.refl _ | exact zFY _ _ _) (by first | exact Wk.refl _ | exact zBn _ _)
   ·refine zBY har ?_; refine zGU ?_ ?_
    ·refine zB (v) (zA tA h5) rfl ?_; refine zAi (vs':=[ndV n]) rfl rfl ?_; refine zBT (H0:=H.set b (rdB s e d)) ((how2.base hlH).push _) (hob2.old.push _) zAp tO (by simp only [List.length_map,List.length_cons,List.length_nil]; omega) (by simp) fun v' H' ho' hH' hb' hf=>?_
     have hx1:=hf b _ (how2.notBox (zE hb1)) (zD (zE hb1))
     have hx4:=hf H.length _ (how2.notBox (zA tO h4)) (zD (zA tO h4))
     have hx5:=hf (H ++ [ABlk.box (ndC zY)]).length _ (how2.notBox (zA tO h5)) (zD (zA tO h5))
     have hlH':=hH'.1
     rw [List.length_set] at hlH'
     have hob3 : OldB H b (rdB s e d) H':=⟨hbl,hH'⟩
     have hx5l:=(zg hx5).1
     by_cases h44 : s[q1]? = some 44
     ·have hlt : q1 < s.length:=(zg h44).1
      rw [if_pos h44] at hq
      clear hwt1
      refine zCY (zAH t v') hx5 ho'.one rfl rfl ?_; refine zm (hbk1 _ hP tO) (fun h=>by cases h) ?_; refine zB (zJ q1) (zE (zA tA hx1)) rfl ?_; refine zB (AV.str s) (zE (zA tA hx1)) rfl ?_; refine zP tT ?_; refine zB (AV.str s) (zE (zA tA hx1)) rfl ?_; refine zB (zJ q1) (zE (zA tA hx1)) rfl ?_; refine zl rfl h44 ?_; refine zH <| zP (tE (by rfl)) ?_; refine zB (zJ q1) (zE (zA tA hx1)) rfl ?_; refine zM (r:=q1 + 1) rfl tO ?_
      refine zF (v:=.int .i64 ↑(q1 + 1)) [AV.str s,.int .i64 ↑(q1 + 1),zJ d] (zE (zA tA hx1)) rfl rfl rfl rfl ?_; refine zAM (CSt.mk (q1 + 1) v' (ks ++ [n])) rfl ⟨?_,(((hob3.set tO _).setB _).setB _),hP,hP,hP,by simp only; omega,by simp only; omega,by simp only [List.length_append,List.length_cons,List.length_nil]; omega,hq⟩ (by simp only; omega)
      rw [List.map_append]
      exact (((ho'.setBox hx5 _).setBox hP _).setBox hP _).base hlH.symm
     rw [if_neg h44] at hq
     by_cases h41' : s[q1]? = some 41
     ·have hlt : q1 < s.length:=(zg h41').1
      rw [if_pos h41'] at hq
      subst hq
      have e0 : mkR s d (some (zEE t (ks ++ [n]),q1 + 1)) = some (.agg (zAH t (lstF 12 ((ks ++ [n]).map ndV))),rdB s (q1 + 1) d):=by rw [← zIi]; rfl
      rw [e0]
      refine zCY (zAH t v') hx5 ho'.one rfl rfl ?_; refine zm (hbk1 _ hP tO) (fun h=>by cases h) ?_; refine zB (zJ q1) (zE (zA tA hx1)) rfl ?_; refine zB (AV.str s) (zE (zA tA hx1)) rfl ?_; refine zP tT ?_; refine zB (AV.str s) (zE (zA tA hx1)) rfl ?_; refine zB (zJ q1) (zE (zA tA hx1)) rfl ?_; refine zl rfl h41' ?_; refine zH <| zN (tN (by decide)) ?_; refine zBY ((hwt1 _ hP tO).1 h41') ?_; refine zB (AV.agg [.int .i64 9,.int .i64 0,AV.str t,.int .i64 0,.int .i64 0,AV.bool false,AV.bool false,.int .i64 0,.int .i64 0,AV.bool false,AV.bool false,v']) (zA tA (zA tA (zE hx5))) rfl ?_
      refine zF (v:=.agg (zAH t v')) (zAH t v') hP rfl (zFU ho'.one.2) rfl rfl ?_
      have hown : Owns H (((H'.set (H ++ [ABlk.box (ndC zY)]).length (.box (zAH t v'))).set b (rdB s q1 d)).set b (rdB s (q1 + 1) d) |>.set H.length (.box (zAH t v'))) v' 12 ((ks ++ [n]).map ndV):=by
       rw [List.map_append]
       exact ((((ho'.setBox hx5 _).setBox hP _).setBox hP _).setBox hP _).base hlH.symm
      obtain ⟨H2,hz,hob4⟩:=zIj t hown rfl ((((hob3.set tO _).setB _).setB _).set (Nat.le_refl _) _)
      exact zy (o:=0) (.agg (zAH t v')) rfl rfl rfl (zL hP) rfl hz (zGt _ _ _) hob4 rfl
     ·rw [if_neg h41'] at hq
      subst hq
      have e0 : mkR s d none = none:=rfl
      rw [e0]
      by_cases hlt : q1 < s.length
      ·obtain ⟨c,hc⟩ : ∃ c,s[q1]? = some c:=⟨_,List.getElem?_eq_getElem hlt⟩
       have hn : c.toNat ≠ 44:=fun x=>h44 (by rw [hc,show c = 44 from UInt8.toNat_inj.1 x])
       refine zCY (zAH t v') hx5 ho'.one rfl rfl ?_; refine zm (hbk1 _ hP tO) (fun h=>by cases h) ?_; refine zB (zJ q1) (zE (zA tA hx1)) rfl ?_; refine zB (AV.str s) (zE (zA tA hx1)) rfl ?_; refine zP tT ?_; refine zB (AV.str s) (zE (zA tA hx1)) rfl ?_; refine zB (zJ q1) (zE (zA tA hx1)) rfl ?_; refine zl rfl hc ?_; refine zH <| zN tN ?_; refine zAS ((hwt1 _ hP tO).2 h41') ?_
       exact zBm (by first | rfl | assumption) rfl rfl rfl (((hob3.set tA _).setB _).setB _) rfl (by first | exact WkL.refl _ | exact zFY _ _ _) (by first | exact Wk.refl _ | exact zBn _ _)
      ·refine zCY (zAH t v') hx5 ho'.one rfl rfl ?_; refine zm (hbk1 _ hP tO) (fun h=>by cases h) ?_; refine zB (zJ q1) (zE (zA tA hx1)) rfl ?_; refine zB (AV.str s) (zE (zA tA hx1)) rfl ?_; refine zN tF <| zG <| zG ?_; refine zAS ((hwt1 _ hP tO).2 h41') ?_
       exact zBm (by first | rfl | assumption) rfl rfl rfl (((hob3.set tA _).setB _).setB _) rfl (by first | exact WkL.refl _ | exact zFY _ _ _) (by first | exact Wk.refl _ | exact zBn _ _)
    ·refine zAi (vs':=[ndV n]) rfl rfl ?_; refine zB (v) (zD (zA tA h5)) rfl ?_; refine zBT (H0:=H.set b (rdB s e d)) ((how2.base hlH).push _) (hob2.old.push _) zAp tO (by simp only [List.length_map,List.length_cons,List.length_nil]; omega) (by simp) fun v' H' ho' hH' hb' hf=>?_
     have hx1:=hf b _ (how2.notBox (zE hb1)) (zD (zE hb1))
     have hx4:=hf H.length _ (how2.notBox (zA tO h4)) (zD (zA tO h4))
     have hx5:=hf (H ++ [ABlk.box (ndC zY)]).length _ (how2.notBox (zA tO h5)) (zD (zA tO h5))
     have hlH':=hH'.1
     rw [List.length_set] at hlH'
     have hob3 : OldB H b (rdB s e d) H':=⟨hbl,hH'⟩
     have hx5l:=(zg hx5).1
     by_cases h44 : s[q1]? = some 44
     ·have hlt : q1 < s.length:=(zg h44).1
      rw [if_pos h44] at hq
      clear hwt1
      refine zCY (zAH t v') hx5 ho'.one rfl rfl ?_; refine zm (hbk1 _ hP tO) (fun h=>by cases h) ?_; refine zB (zJ q1) (zE (zA tA hx1)) rfl ?_; refine zB (AV.str s) (zE (zA tA hx1)) rfl ?_; refine zP tT ?_; refine zB (AV.str s) (zE (zA tA hx1)) rfl ?_; refine zB (zJ q1) (zE (zA tA hx1)) rfl ?_; refine zl rfl h44 ?_; refine zH <| zP (tE (by rfl)) ?_; refine zB (zJ q1) (zE (zA tA hx1)) rfl ?_; refine zM (r:=q1 + 1) rfl tO ?_
      refine zF (v:=.int .i64 ↑(q1 + 1)) [AV.str s,.int .i64 ↑(q1 + 1),zJ d] (zE (zA tA hx1)) rfl rfl rfl rfl ?_; refine zAM (CSt.mk (q1 + 1) v' (ks ++ [n])) rfl ⟨?_,(((hob3.set tO _).setB _).setB _),hP,hP,hP,by simp only; omega,by simp only; omega,by simp only [List.length_append,List.length_cons,List.length_nil]; omega,hq⟩ (by simp only; omega)
      rw [List.map_append]
      exact (((ho'.setBox hx5 _).setBox hP _).setBox hP _).base hlH.symm
     rw [if_neg h44] at hq
     by_cases h41' : s[q1]? = some 41
     ·have hlt : q1 < s.length:=(zg h41').1
      rw [if_pos h41'] at hq
      subst hq
      have e0 : mkR s d (some (zEE t (ks ++ [n]),q1 + 1)) = some (.agg (zAH t (lstF 12 ((ks ++ [n]).map ndV))),rdB s (q1 + 1) d):=by rw [← zIi]; rfl
      rw [e0]
      refine zCY (zAH t v') hx5 ho'.one rfl rfl ?_; refine zm (hbk1 _ hP tO) (fun h=>by cases h) ?_; refine zB (zJ q1) (zE (zA tA hx1)) rfl ?_; refine zB (AV.str s) (zE (zA tA hx1)) rfl ?_; refine zP tT ?_; refine zB (AV.str s) (zE (zA tA hx1)) rfl ?_; refine zB (zJ q1) (zE (zA tA hx1)) rfl ?_; refine zl rfl h41' ?_; refine zH <| zN (tN (by decide)) ?_; refine zBY ((hwt1 _ hP tO).1 h41') ?_; refine zB (AV.agg [.int .i64 9,.int .i64 0,AV.str t,.int .i64 0,.int .i64 0,AV.bool false,AV.bool false,.int .i64 0,.int .i64 0,AV.bool false,AV.bool false,v']) (zA tA (zA tA (zE hx5))) rfl ?_
      refine zF (v:=.agg (zAH t v')) (zAH t v') hP rfl (zFU ho'.one.2) rfl rfl ?_
      have hown : Owns H (((H'.set (H ++ [ABlk.box (ndC zY)]).length (.box (zAH t v'))).set b (rdB s q1 d)).set b (rdB s (q1 + 1) d) |>.set H.length (.box (zAH t v'))) v' 12 ((ks ++ [n]).map ndV):=by
       rw [List.map_append]
       exact ((((ho'.setBox hx5 _).setBox hP _).setBox hP _).setBox hP _).base hlH.symm
      obtain ⟨H2,hz,hob4⟩:=zIj t hown rfl ((((hob3.set tO _).setB _).setB _).set (Nat.le_refl _) _)
      exact zy (o:=0) (.agg (zAH t v')) rfl rfl rfl (zL hP) rfl hz (zGt _ _ _) hob4 rfl
     ·rw [if_neg h41'] at hq
      subst hq
      have e0 : mkR s d none = none:=rfl
      rw [e0]
      by_cases hlt : q1 < s.length
      ·obtain ⟨c,hc⟩ : ∃ c,s[q1]? = some c:=⟨_,List.getElem?_eq_getElem hlt⟩
       have hn : c.toNat ≠ 44:=fun x=>h44 (by rw [hc,show c = 44 from UInt8.toNat_inj.1 x])
       refine zCY (zAH t v') hx5 ho'.one rfl rfl ?_; refine zm (hbk1 _ hP tO) (fun h=>by cases h) ?_; refine zB (zJ q1) (zE (zA tA hx1)) rfl ?_; refine zB (AV.str s) (zE (zA tA hx1)) rfl ?_; refine zP tT ?_; refine zB (AV.str s) (zE (zA tA hx1)) rfl ?_; refine zB (zJ q1) (zE (zA tA hx1)) rfl ?_; refine zl rfl hc ?_; refine zH <| zN tN ?_; refine zAS ((hwt1 _ hP tO).2 h41') ?_
       exact zBm (by first | rfl | assumption) rfl rfl rfl (((hob3.set tA _).setB _).setB _) rfl (by first | exact WkL.refl _ | exact zFY _ _ _) (by first | exact Wk.refl _ | exact zBn _ _)
      ·refine zCY (zAH t v') hx5 ho'.one rfl rfl ?_; refine zm (hbk1 _ hP tO) (fun h=>by cases h) ?_; refine zB (zJ q1) (zE (zA tA hx1)) rfl ?_; refine zB (AV.str s) (zE (zA tA hx1)) rfl ?_; refine zN tF <| zG <| zG ?_; refine zAS ((hwt1 _ hP tO).2 h41') ?_
       exact zBm (by first | rfl | assumption) rfl rfl rfl (((hob3.set tA _).setB _).setB _) rfl (by first | exact WkL.refl _ | exact zFY _ _ _) (by first | exact Wk.refl _ | exact zBn _ _)
 clear hA hbk hwt
 by_cases hlt : q < s.length
 ·obtain ⟨c,hc⟩ : ∃ c,s[q]? = some c:=⟨_,List.getElem?_eq_getElem hlt⟩
  have hn : c.toNat ≠ 41:=fun x=>h41 (by rw [hc,show c = 41 from UInt8.toNat_inj.1 x])
  refine zU (v:=[.int .i64 9,.int .i64 0,AV.str t,.int .i64 0,.int .i64 0,AV.bool false,AV.bool false,.int .i64 0,.int .i64 0,AV.bool false,AV.bool false,AV.lst (some true) 0 []]) rfl ?_; refine zF (v:=AV.agg [.int .i64 9,.int .i64 0,AV.str t,.int .i64 0,.int .i64 0,AV.bool false,AV.bool false,.int .i64 0,.int .i64 0,AV.bool false,AV.bool false,AV.lst (some true) 0 []]) (AV.cells (AV.agg [.int .i64 9,.int .i64 0,AV.str t,.int .i64 0,.int .i64 0,AV.bool false,AV.bool false,.int .i64 0,.int .i64 0,AV.bool false,AV.bool false,AV.lst (some true) 0 []])) zC rfl rfl rfl rfl ?_
  refine zB (zJ p) (zA tA (zD (zD hb))) rfl ?_; refine zM (r:=p + 1) rfl tO ?_; refine zF (v:=.int .i64 ↑(p + 1)) [AV.str s,.int .i64 ↑(p + 1),zJ d] (zA tA (zD (zD hb))) rfl rfl rfl rfl ?_; refine zm (hbk0 _ hP tO) (fun h=>by cases h) ?_; refine zB (zJ q) (zE (zE (zA tA (zD (zD hb))))) rfl ?_; refine zB (AV.str s) (zE (zE (zA tA (zD (zD hb))))) rfl ?_; refine zP tT ?_; refine zB (AV.str s) (zE (zE (zA tA (zD (zD hb))))) rfl ?_
  refine zB (zJ q) (zE (zE (zA tA (zD (zD hb))))) rfl ?_; refine zl rfl hc ?_; refine zH <| zN tN ?_
  exact hloop _ ((((((OldB.start hb).push _).push _).set (by simp) _).setB _).setB _) hP hP hP
 ·refine zU (v:=[.int .i64 9,.int .i64 0,AV.str t,.int .i64 0,.int .i64 0,AV.bool false,AV.bool false,.int .i64 0,.int .i64 0,AV.bool false,AV.bool false,AV.lst (some true) 0 []]) rfl ?_; refine zF (v:=AV.agg [.int .i64 9,.int .i64 0,AV.str t,.int .i64 0,.int .i64 0,AV.bool false,AV.bool false,.int .i64 0,.int .i64 0,AV.bool false,AV.bool false,AV.lst (some true) 0 []]) (AV.cells (AV.agg [.int .i64 9,.int .i64 0,AV.str t,.int .i64 0,.int .i64 0,AV.bool false,AV.bool false,.int .i64 0,.int .i64 0,AV.bool false,AV.bool false,AV.lst (some true) 0 []])) zC rfl rfl rfl rfl ?_
  refine zB (zJ p) (zA tA (zD (zD hb))) rfl ?_; refine zM (r:=p + 1) rfl tO ?_; refine zF (v:=.int .i64 ↑(p + 1)) [AV.str s,.int .i64 ↑(p + 1),zJ d] (zA tA (zD (zD hb))) rfl rfl rfl rfl ?_; refine zm (hbk0 _ hP tO) (fun h=>by cases h) ?_; refine zB (zJ q) (zE (zE (zA tA (zD (zD hb))))) rfl ?_; refine zB (AV.str s) (zE (zE (zA tA (zD (zD hb))))) rfl ?_; refine zN tF <| zG <| zG ?_
  exact hloop _ ((((((OldB.start hb).push _).push _).set (by simp) _).setB _).setB _) hP hP hP
end
end Go.AM
