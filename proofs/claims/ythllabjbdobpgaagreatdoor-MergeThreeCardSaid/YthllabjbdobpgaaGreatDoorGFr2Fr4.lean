/- Several texts of mine in one (Fr2, Fr3, Fp3, Fr4). Own work. -/
import Derived.Test.YthllabjbdobpgaaGreatDoorGPreFr1
set_option linter.all false
set_option maxRecDepth 20000
namespace Go.AM
def zG3 (s t : Bs) (e d : Nat) : Option (Nd × Nat):=match tok s (e + 1) with
 | .sign e2 [41]=>some (zEi t [],e2)
 | _=>(P s).args t [] (e + 1) d
def parS (s : Bs) (p d : Nat) : Option (Nd × Nat):=((P s).loose 1 (p + 1) d).bind fun q=>match tok s q.2 with
 | .sign e2 [41]=>some (q.1,e2)
 | _=>none
def twS (s : Bs) (l p d : Nat) : Option (Nd × Nat):=if l = 4 then (P s).one p d else bl s ((P s).loose (l + 1) p d)
theorem Owns.notBox {H0 H : Heap} {v : AV} {k c : Nat} {xs cs : List AV} (h : Owns H0 H v k xs) (hc : H[c]? = some (.box cs)) : v.blk ≠ some c:=by
 rcases h with ⟨rfl,_⟩ | ⟨b',rfl,h1,h2,h3⟩
 ·intro e; cases e
 ·intro e
  simp only [AV.blk,zMc] at e
  subst e
  rw [h2] at hc; cases hc
theorem Owns.base {H0 H0' H : Heap} {v : AV} {k : Nat} {xs : List AV} (h : Owns H0 H v k xs) (e : H0'.length = H0.length) : Owns H0' H v k xs:=by
 rcases h with h | ⟨b',h0,h1,h2⟩
 ·exact .inl h
 ·exact .inr ⟨b',h0,by rw [e]; exact h1,h2⟩
theorem quo_end {r : Bs} {i : Nat} (h : r.head? ≠ some 34) : quo (34 :: r) i = some ([],i + 1):=by
 cases r with
 | nil=>simp [quo]
 | cons d r=>
  simp only [quo,zND]
  rw [zMe (fun e=>h (by rw [e]; rfl))]
theorem quo_dbl {r : Bs} {i : Nat} : quo (34 :: 34 :: r) i = (quo r (i + 2)).map fun p=>(34 :: p.1,p.2):=by simp only [quo,zND]
theorem quo_chr {c : UInt8} {r : Bs} {i : Nat} (h : c ≠ 34) : quo (c :: r) i = (quo r (i + 1)).map fun p=>(c :: p.1,p.2):=by
 cases r with
 | nil=>simp [quo,h]
 | cons d r=>simp only [quo]; rw [zMe h]
structure TSt where
 k : Nat
 v : AV
 acc : Bs
def paren (s : Bs) (q : Nat) : Option Nat:=if s[skip s q]? = some 41 then some (skip s q + 1) else none
theorem wordly_par {c : UInt8} (h : c.toNat = 41 ∨ c.toNat = 44 ∨ c.toNat = 40 ∨ c.toNat = 45) : z6 c = false:=by
 have e : ∀ n : Fin 256,(n.val = 41 ∨ n.val = 44 ∨ n.val = 40 ∨ n.val = 45) → z6 (UInt8.ofNat n.val) = false:=by decide +kernel
 have:=e ⟨c.toNat,zNu c⟩ h
 simpa using this
theorem zF3 {s : Bs} {p : Nat} {c : UInt8} (h : s[skip s p]? = some c) (hc : c.toNat = 41 ∨ c.toNat = 44 ∨ c.toNat = 40 ∨ c.toNat = 45) : tok s p = .sign (skip s p + 1) [c]:=by
 have hw:=wordly_par hc
 have n1 : c ≠ 34:=fun e=>by subst e; revert hc; decide
 have n2 : c ≠ 35:=fun e=>by subst e; revert hc; decide
 have n3 : c ≠ 60:=fun e=>by subst e; revert hc; decide
 have n4 : c ≠ 62:=fun e=>by subst e; revert hc; decide
 unfold tok zCX
 rw [h]
 simp only [hw,zMm,zNB,n1,n2]
 split
 ·rw [zMe (by rintro (⟨e,_⟩ | ⟨e,_⟩ | ⟨e,_⟩); exact n3 e; exact n3 e; exact n4 e)]
 ·rfl
theorem zGb {s : Bs} {p e : Nat} {c : UInt8} (h : tok s p = .sign e [c]) : s[skip s p]? = some c ∧ e = skip s p + 1:=by
 unfold tok zCX at h
 split at h
 ·cases h
 ·rename_i x hx
  split at h
  ·cases h
  ·split at h
   ·split at h <;> cases h
   ·split at h
    ·split at h <;> cases h
    ·split at h
     ·split at h
      ·cases h
      ·cases h; exact ⟨hx,rfl⟩
     ·cases h; exact ⟨hx,rfl⟩
theorem parS_is (s : Bs) (p d : Nat) : parS s p d = ((P s).loose 1 (p + 1) d).bind fun q=>(paren s q.2).map fun e=>(q.1,e):=by
 unfold parS
 refine zDF rfl fun q _=>?_
 unfold paren
 by_cases h : s[skip s q.2]? = some 41
 ·rw [zF3 h (.inl rfl),zMg h]; rfl
 ·rw [zMe h]
  split
  ·rename_i e2 hk
   exact absurd (zGb hk).1 h
  ·rfl
section
variable {C : CSpec} {GT : Nat → Option AV}
theorem text_ev (hF : ∀ b s p d a e H,H[b]? = some (rdB s p d) → C zX (.pan .undef :: [pR b,.int .i64 a,zFX e]) H zFB (H.set b (.box (wkC s))))
  (b : Nat) (s : Bs) (p d : Nat) (H : Heap) (hb : H[b]? = some (rdB s p d)) (hp : p < s.length) (hl : s.length ≤ 200) :
  zCA C GT zCM [pR b] H b (wkC s) zFB (mkR s d ((quo (s.drop (p + 1)) (p + 1)).map fun q=>(txtN q.1,q.2))):=by
 have hbl : b < H.length:=(zg hb).1
 obtain ⟨r,hr⟩ : ∃ r,quo (s.drop (p + 1)) (p + 1) = r:=⟨_,rfl⟩
 rw [hr]
 refine zAE ?_; refine zB (zJ p) (zC hb) rfl <| zB (zJ p) (zC hb) rfl <| zM (r:=p + 1) rfl tO <| zF (v:=.int .i64 ↑(p + 1)) [AV.str s,.int .i64 ↑(p + 1),zJ d] (zC hb) rfl rfl rfl rfl ?_; refine zBB (fun t : TSt=>[(2,pR H.length),(4,t.v),(0,pR b),(3,zJ p)])
  (fun t H'=>Owns (H.set b (rdB s t.k d)) H' t.v 1 (t.acc.map zBs) ∧ OldB H b (rdB s t.k d) H' ∧ H'[b]? = some (rdB s t.k d) ∧ H'[H.length]? = some (.box (ndC zY)) ∧ t.k ≤ s.length ∧ t.acc.length ≤ t.k ∧ (quo (s.drop t.k) t.k).map (fun q=>(t.acc ++ q.1,q.2)) = r)
  (fun t=>s.length - t.k) ⟨p + 1,.lst (some true) 0 [],[]⟩ rfl ⟨.inl ⟨rfl,rfl⟩,(OldB.start hb).push _ |>.setB _,zE (zC hb),zA tO zD,by simp only; omega,by simp,by simp only [zN1]; rw [hr]; cases r <;> rfl⟩ (fun ⟨k,v,acc⟩ H1 ⟨how,hob,hb1,h2,hk,hal,hq⟩=>?_)
 dsimp only at how hob hb1 h2 hk hal hq ⊢
 have hlen1:=hob.old.1
 rw [zMs] at hlen1
 by_cases hlt : k < s.length
 case neg=>
  have e : r = none:=by rw [← hq,zNx tO]; rfl
  subst e
  have e0 : mkR s d (Option.map (fun q : Bs × Nat=>(txtN q.1,q.2)) none) = none:=rfl
  rw [e0]
  have hf:=hF b s k d p 2 H1 hb1
  clear hF
  refine zB (zJ k) hb1 rfl <| zB (AV.str s) hb1 rfl <| zO tF <| zAb hf ?_
  exact zB1 (by first | rfl | assumption) rfl rfl rfl (hob.setB _) rfl (by first | exact WkL.refl _ | exact zGA _ _ _) (by first | exact Wk.refl _ | exact zB2 _ _)
 obtain ⟨c,hc⟩ : ∃ c,s[k]? = some c:=⟨_,zMf hlt⟩
 rw [zBD hc] at hq
 by_cases h34 : c = 34
 ·subst h34
  by_cases hend : k + 1 < s.length ∧ s[k + 1]? = some 34
  ·obtain ⟨hlt2,hc2⟩:=hend
   rw [zBD hc2,quo_dbl,zPV] at hq
   refine zB (zJ k) hb1 rfl <| zB (AV.str s) hb1 rfl <| zP tT <| zB (AV.str s) hb1 rfl <| zB (zJ k) hb1 rfl <| zn rfl hc ?_; refine zP (tE (by rfl)) <| zB (zJ k) hb1 rfl <| zM (r:=k + 1) rfl tO <| zF (v:=.int .i64 ↑(k + 1)) [AV.str s,.int .i64 ↑(k + 1),zJ d] hb1 rfl rfl rfl rfl <| zB (.int .i64 ↑(k + 1)) (zE hb1) rfl <| zB (AV.str s) (zE hb1) rfl ?_; refine zO tN <| zB (AV.str s) (zE hb1) rfl <| zB (.int .i64 ↑(k + 1)) (zE hb1) rfl <| zn rfl hc2 <| zG <| zO (zNA.2 (by rfl)) ?_
   refine zB (AV.str s) (zE hb1) rfl <| zB (.int .i64 ↑(k + 1)) (zE hb1) rfl <| zn rfl hc2 <| zAD (vs':=[zBs 34]) rfl rfl ?_
   have hob2:=hob.setB (rdB s (k + 1) d)
   refine zAV (H0:=H.set b (rdB s (k + 1) d)) (((how.set (how.notBox hb1) _).base (by simp)).push _) (hob2.old.push _) zAB tO (by simp only [zMl,zMi,zMt]; omega) (by simp) fun v' H' ho' hH' hb' hf=>?_
   have hx1:=hf b _ (how.notBox hb1) (zC (zE hb1))
   have hx2:=hf H.length _ (how.notBox h2) (zC (zA tO h2))
   refine zB (.int .i64 ↑(k + 1)) hx1 rfl <| zM (r:=k + 2) tO tO <| zF (v:=.int .i64 ↑(k + 2)) [AV.str s,.int .i64 ↑(k + 2),zJ d] hx1 rfl rfl rfl rfl ?_; refine zAA (TSt.mk (k + 2) v' (acc ++ [34])) rfl ⟨(((by rw [zM2]; exact ho' : Owns _ _ _ _ _).set (ho'.notBox hx1) _).base (by simp)),(OldB.mk hbl hH').setB _,zE hx1,zA tO hx2,by simp only; omega,by simp only [zMn,zMi,zMt]; omega, ?_⟩ (by simp only; omega)
   rw [← hq]
   simp only [zNc,zOX]
   rfl
  ·rw [quo_end (by
    intro e
    have hlt2 : k + 1 < s.length:=by
     rcases zOB (k + 1) s.length with h | h
     ·exact h
     ·rw [zNx h] at e; cases e
    refine hend ⟨hlt2, ?_⟩
    rw [List.head?_drop] at e
    exact e)] at hq
   subst hq
   have e0 : mkR s d (Option.map (fun q : Bs × Nat=>(txtN q.1,q.2)) (Option.map (fun q : Bs × Nat=>(acc ++ q.1,q.2)) (some ([],k + 1)))) = some (ndV (txtN acc),rdB s (k + 1) d):=by simp [mkR]
   rw [e0]
   by_cases hlt2 : k + 1 < s.length
   ·obtain ⟨c2,hc2⟩ : ∃ c,s[k + 1]? = some c:=⟨_,zMf hlt2⟩
    have hn : c2.toNat ≠ 34:=fun e=>hend ⟨hlt2,by rw [hc2,show c2 = 34 from zM0.1 e]⟩
    refine zB (zJ k) hb1 rfl <| zB (AV.str s) hb1 rfl <| zP tT <| zB (AV.str s) hb1 rfl <| zB (zJ k) hb1 rfl <| zn rfl hc ?_; refine zP (tE (by rfl)) <| zB (zJ k) hb1 rfl <| zM (r:=k + 1) rfl tO <| zF (v:=.int .i64 ↑(k + 1)) [AV.str s,.int .i64 ↑(k + 1),zJ d] hb1 rfl rfl rfl rfl <| zB (.int .i64 ↑(k + 1)) (zE hb1) rfl <| zB (AV.str s) (zE hb1) rfl ?_; refine zO tN <| zB (AV.str s) (zE hb1) rfl <| zB (.int .i64 ↑(k + 1)) (zE hb1) rfl <| zn rfl hc2 <| zG <| zP (zNP.2 tO) ?_
    refine zI2 (how.set (how.notBox hb1) _) <| zS (v:=[.int .i64 2,.int .i64 0,AV.str acc,.int .i64 0,.int .i64 0,AV.bool false,AV.bool false,.int .i64 0,.int .i64 0,AV.bool false,AV.bool false,AV.lst (some true) 0 []]) rfl <| zF (v:=AV.agg [.int .i64 2,.int .i64 0,AV.str acc,.int .i64 0,.int .i64 0,AV.bool false,AV.bool false,.int .i64 0,.int .i64 0,AV.bool false,AV.bool false,AV.lst (some true) 0 []]) (AV.cells (AV.agg [.int .i64 2,.int .i64 0,AV.str acc,.int .i64 0,.int .i64 0,AV.bool false,AV.bool false,.int .i64 0,.int .i64 0,AV.bool false,AV.bool false,AV.lst (some true) 0 []])) (zA tA h2) rfl rfl rfl rfl ?_
    exact z8 (o:=0) (ndV (txtN acc)) rfl rfl rfl (zL (zE (zA tO h2))) rfl rfl rfl ((hob.setB _).set (zMh _) _) rfl
   ·refine zB (zJ k) hb1 rfl <| zB (AV.str s) hb1 rfl <| zP tT <| zB (AV.str s) hb1 rfl <| zB (zJ k) hb1 rfl <| zn rfl hc ?_; refine zP (tE (by rfl)) <| zB (zJ k) hb1 rfl <| zM (r:=k + 1) rfl tO <| zF (v:=.int .i64 ↑(k + 1)) [AV.str s,.int .i64 ↑(k + 1),zJ d] hb1 rfl rfl rfl rfl <| zB (.int .i64 ↑(k + 1)) (zE hb1) rfl <| zB (AV.str s) (zE hb1) rfl ?_; refine zP tT <| zH <| zH <| zI2 (how.set (how.notBox hb1) _) <| zS (v:=[.int .i64 2,.int .i64 0,AV.str acc,.int .i64 0,.int .i64 0,AV.bool false,AV.bool false,.int .i64 0,.int .i64 0,AV.bool false,AV.bool false,AV.lst (some true) 0 []]) rfl <| zF (v:=AV.agg [.int .i64 2,.int .i64 0,AV.str acc,.int .i64 0,.int .i64 0,AV.bool false,AV.bool false,.int .i64 0,.int .i64 0,AV.bool false,AV.bool false,AV.lst (some true) 0 []]) (AV.cells (AV.agg [.int .i64 2,.int .i64 0,AV.str acc,.int .i64 0,.int .i64 0,AV.bool false,AV.bool false,.int .i64 0,.int .i64 0,AV.bool false,AV.bool false,AV.lst (some true) 0 []])) (zA tA h2) rfl rfl rfl rfl ?_
    exact z8 (o:=0) (ndV (txtN acc)) rfl rfl rfl (zL (zE (zA tO h2))) rfl rfl rfl ((hob.setB _).set (zMh _) _) rfl
 ·have hn : c.toNat ≠ 34:=fun e=>h34 (zM0.1 e)
  rw [quo_chr h34,zPV] at hq
  refine zB (zJ k) hb1 rfl <| zB (AV.str s) hb1 rfl <| zP tT <| zB (AV.str s) hb1 rfl <| zB (zJ k) hb1 rfl <| zn rfl hc ?_; refine zO tN <| zB (AV.str s) hb1 rfl <| zB (zJ k) hb1 rfl <| zn rfl hc <| zAD (vs':=[zBs c]) rfl rfl ?_; refine zAV (H0:=H.set b (rdB s k d)) (how.push _) (hob.old.push _) zAB tO (by simp only [zMl,zMi,zMt]; omega) (by simp) fun v' H' ho' hH' hb' hf=>?_
  have hx1:=hf b _ (how.notBox hb1) (zC hb1)
  have hx2:=hf H.length _ (how.notBox h2) (zC h2)
  refine zB (zJ k) hx1 rfl <| zM (r:=k + 1) tO tO <| zF (v:=.int .i64 ↑(k + 1)) [AV.str s,.int .i64 ↑(k + 1),zJ d] hx1 rfl rfl rfl rfl ?_; refine zAA (TSt.mk (k + 1) v' (acc ++ [c])) rfl ⟨(((by rw [zM2]; exact ho' : Owns _ _ _ _ _).set (ho'.notBox hx1) _).base (by simp)),(OldB.mk hbl hH').setB _,zE hx1,zA tO hx2,by simp only; omega,by simp only [zMn,zMi,zMt]; omega, ?_⟩ (by simp only; omega)
  rw [← hq]
  simp only [zNc,zOX]
  rfl
end
end Go.AM
set_option maxRecDepth 20000
namespace Go.AM
theorem litP_word {t : Bs} (h : t.head? ≠ some 35) : litP t = if t = trueW then some (3,1) else if t = zKZ then some (3,0) else none:=by
 unfold litP
 by_cases h1 : t = trueW
 ·rw [zMg h1,zMg h1]
 ·rw [zMe h1,zMe h1]
  by_cases h2 : t = zKZ
  ·rw [zMg h2,zMg h2]
  ·rw [zMe h2,zMe h2]
   rw [zMe (fun e=>h (by rw [e]; rfl)),zMe (fun e=>h (by rw [e]; rfl)),zMe (fun e=>h (by rw [e]; rfl)),zMe (fun e=>h (by rw [e]; rfl)),zMe (fun e=>h (by rw [e]; rfl)),zMe (fun e=>h (by rw [e]; rfl))]
section
variable {C : CSpec} {GT : Nat → Option AV}
theorem plain_ev (hW : ∀ s H,s.length ≤ 1000 → ∃ n0,C zB7 [.str s] H (wholeV (wholeS s) n0) H) (hL : ∀ s H,C zAM [.str s] H (litV (litP s)) H) (hR : ∀ s H,s.length ≤ 1000 → C zA6 [.str s] H (refV (zCu s)) H)
  (t : Bs) (H : Heap) (hl : t.length ≤ 1000) (h45 : t.head? ≠ some 45) (h35 : t.head? ≠ some 35) : EFun C GT zEc [.str t] H (zJZ (zMO t)) H:=by
 have hw:=hW t (H ++ [ABlk.box (ndC zY)]) hl
 have hlit:=hL t (H ++ [ABlk.box (ndC zY)])
 have hr:=fun H=>hR t H hl
 clear hW hL hR
 rw [wholeS_of h45] at hw
 rw [litP_word h35] at hlit
 refine zc ?_
 unfold zMO
 cases hwp : zBE t with
 | some n=>
  rw [hwp] at hw
  obtain ⟨n0,hw⟩:=hw
  have hw : C zB7 [.str t] (H ++ [ABlk.box (ndC zY)]) (.tup [zK n,.bool true]) (H ++ [ABlk.box (ndC zY)]):=hw
  have e : zJZ (some (numN n)) = .tup [ndV (numN n),.bool true]:=rfl
  simp only
  rw [e]
  refine zI (hw) <| zS rfl <| zS rfl <| zH <| zS (v:=[.int .i64 1,zK n,AV.str [],.int .i64 0,.int .i64 0,AV.bool false,AV.bool false,.int .i64 0,.int .i64 0,AV.bool false,AV.bool false,AV.lst (some true) 0 []]) rfl <| zF (v:=AV.agg [.int .i64 1,zK n,AV.str [],.int .i64 0,.int .i64 0,AV.bool false,AV.bool false,.int .i64 0,.int .i64 0,AV.bool false,AV.bool false,AV.lst (some true) 0 []]) (AV.cells (AV.agg [.int .i64 1,zK n,AV.str [],.int .i64 0,.int .i64 0,AV.bool false,AV.bool false,.int .i64 0,.int .i64 0,AV.bool false,AV.bool false,AV.lst (some true) 0 []])) zD rfl rfl rfl rfl ?_
  exact zR (o:=0) rfl rfl (zL (zE zD)) rfl rfl rfl rfl (((Old.refl _).push _).set tA _)
 | none=>
  rw [hwp] at hw
  obtain ⟨n0,hw⟩:=hw
  have hw : C zB7 [.str t] (H ++ [ABlk.box (ndC zY)]) (.tup [zK n0,.bool false]) (H ++ [ABlk.box (ndC zY)]):=hw
  simp only
  by_cases h1 : t = trueW
  ·rw [zMg h1] at hlit ⊢
   have hlit : C zAM [.str t] (H ++ [ABlk.box (ndC zY)]) (.tup [v3 3 1,.bool true]) (H ++ [ABlk.box (ndC zY)]):=hlit
   have e : zJZ (some (truN true)) = .tup [ndV (truN true),.bool true]:=rfl
   rw [e]
   clear hr
   refine zI (hw) <| zS rfl <| zS rfl <| zG <| zI (hlit) <| zS rfl ?_; refine zS rfl <| zF (v:=v3 3 1) (AV.cells (v3 3 1)) zD rfl rfl rfl rfl <| zH <| zB (.int .i64 1) (zE zD) rfl <| zS (v:=zV2) rfl <| zF (v:=AV.agg zV2) (AV.cells (AV.agg zV2)) (zA tA (zC zD)) rfl rfl rfl rfl ?_
   exact zR (o:=0) rfl rfl (zL (zE (zA tA (zC zD)))) rfl rfl rfl rfl (((((Old.refl _).push _).push _).set tA _).set tA _)
  rw [zMe h1] at hlit ⊢
  by_cases h2 : t = zKZ
  ·rw [zMg h2] at hlit ⊢
   have hlit : C zAM [.str t] (H ++ [ABlk.box (ndC zY)]) (.tup [v3 3 0,.bool true]) (H ++ [ABlk.box (ndC zY)]):=hlit
   have e : zJZ (some (truN false)) = .tup [ndV (truN false),.bool true]:=rfl
   rw [e]
   clear hr
   refine zI (hw) <| zS rfl <| zS rfl <| zG <| zI (hlit) <| zS rfl ?_; refine zS rfl <| zF (v:=v3 3 0) (AV.cells (v3 3 0)) zD rfl rfl rfl rfl <| zH <| zB (.int .i64 0) (zE zD) rfl <| zS (v:=zV3) rfl <| zF (v:=AV.agg zV3) (AV.cells (AV.agg zV3)) (zA tA (zC zD)) rfl rfl rfl rfl ?_
   exact zR (o:=0) rfl rfl (zL (zE (zA tA (zC zD)))) rfl rfl rfl rfl (((((Old.refl _).push _).push _).set tA _).set tA _)
  rw [zMe h2] at hlit ⊢
  have hlit : C zAM [.str t] (H ++ [ABlk.box (ndC zY)]) (.tup [v3 0 0,.bool false]) (H ++ [ABlk.box (ndC zY)]):=hlit
  cases hrp : zCu t with
  | some r=>
   rw [hrp] at hr
   have hr : ∀ H,C zA6 [.str t] H (.tup [rV r,.nili]) H:=hr
   have e : zJZ (Option.map refN (some r)) = .tup [ndV (refN r),.bool true]:=rfl
   rw [e]
   refine zI (hw) <| zS rfl <| zS rfl <| zG <| zI (hlit) <| zS rfl ?_; refine zS rfl <| zF (v:=v3 0 0) (AV.cells (v3 0 0)) zD rfl rfl rfl rfl <| zG <| zI (hr _) <| zS rfl <| zS rfl ?_; refine zF (v:=rV r) (AV.cells (rV r)) zD rfl rfl rfl rfl <| zS rfl <| zH <| zB (rV r) (zE zD) rfl <| zS (v:=[.int .i64 5,.int .i64 0,AV.str [],.int .i64 r.col,.int .i64 r.row,AV.bool r.fc,AV.bool r.fr,.int .i64 0,.int .i64 0,AV.bool false,AV.bool false,AV.lst (some true) 0 []]) rfl <| zF (v:=AV.agg [.int .i64 5,.int .i64 0,AV.str [],.int .i64 r.col,.int .i64 r.row,AV.bool r.fc,AV.bool r.fr,.int .i64 0,.int .i64 0,AV.bool false,AV.bool false,AV.lst (some true) 0 []]) (AV.cells (AV.agg [.int .i64 5,.int .i64 0,AV.str [],.int .i64 r.col,.int .i64 r.row,AV.bool r.fc,AV.bool r.fr,.int .i64 0,.int .i64 0,AV.bool false,AV.bool false,AV.lst (some true) 0 []])) (zA tA (zC (zA tA (zC zD)))) rfl rfl rfl rfl ?_
   exact zR (o:=0) rfl rfl (zL (zE (zA tA (zC (zA tA (zC zD)))))) rfl rfl rfl rfl (((((((Old.refl _).push _).push _).set tA _).push _).set tA _).set tA _)
  | none=>
   rw [hrp] at hr
   have hr : ∀ H,C zA6 [.str t] H (.tup [rV noRef,zFX 2]) H:=hr
   have e : zJZ (Option.map refN none) = .tup [ndV zY,.bool false]:=rfl
   rw [e]
   refine zI (hw) <| zS rfl <| zS rfl <| zG <| zI (hlit) <| zS rfl ?_; refine zS rfl <| zF (v:=v3 0 0) (AV.cells (v3 0 0)) zD rfl rfl rfl rfl <| zG <| zI (hr _) <| zS rfl <| zS rfl ?_; refine zF (v:=rV noRef) (AV.cells (rV noRef)) zD rfl rfl rfl rfl <| zS rfl <| zG <| zS (v:=zV0) rfl <| zF (v:=AV.agg zV0) (AV.cells (AV.agg zV0)) (zA tA (zC (zA tA (zC zD)))) rfl rfl rfl rfl ?_
   exact zR (o:=0) rfl rfl (zL (zE (zA tA (zC (zA tA (zC zD)))))) rfl rfl rfl rfl (((((((Old.refl _).push _).push _).set tA _).push _).set tA _).set tA _)
theorem par_ev (hWt : ∀ c b s p d H,H[b]? = some (rdB s p d) → p ≤ s.length → s.length ≤ 200 → (s[skip s p]? = some c → C zx [pR b,byV c] H (.tup []) (H.set b (rdB s (skip s p + 1) d))) ∧ (s[skip s p]? ≠ some c → C zx (.pan .undef :: [pR b,byV c]) H zFB (H.set b (.box (wkC s)))))
  (b rb : Nat) (s : Bs) (p d : Nat) (H : Heap) (hb : H[b]? = some (rdB s p d)) (hr : H[rb]? = some (.box [pR b])) (hp : p < s.length) (hl : s.length ≤ 200)
  (hT : ∀ H',H'[b]? = some (rdB s (p + 1) d) → CR C zl [pR b,zK 0] H' b s d (bl s ((P s).loose 1 (p + 1) d))) :
  zCA C GT zBm [pR rb] H b (wkC s) zFB (mkR s d (parS s p d)):=by
 have hbl : b < H.length:=(zg hb).1
 have hne : rb ≠ b:=fun e=>by rw [e,hb] at hr; cases hr
 have hrl : rb < H.length:=(zg hr).1
 rw [parS_is]
 have hends : ∀ q,(P s).loose 1 (p + 1) d = some q → q.2 ≤ s.length:=fun q hq=>((zCE s).loose 1 (p + 1) d q tO hq).2
 generalize (P s).loose 1 (p + 1) d = r at *
 refine zAE ?_
 cases r with
 | none=>
  have hc:=fun H' h1=>(hT H' h1).2 rfl
  clear hT hWt
  have e : mkR s d (Option.bind none fun q : Nd × Nat=>(paren s q.2).map fun e=>(q.1,e)) = none:=rfl
  rw [e]
  refine zB (pR b) (zC hr) rfl <| zB (zJ p) (zC hb) rfl <| zM (r:=p + 1) rfl tO <| zF (v:=.int .i64 ↑(p + 1)) [AV.str s,.int .i64 ↑(p + 1),zJ d] (zC hb) rfl rfl rfl rfl <| zB (pR b) (zA tA (zC hr)) rfl <| zAb (hc _ (zE (zC hb))) ?_
  exact zB1 (by first | rfl | assumption) rfl rfl rfl ((((OldB.start hb).push _).setB _).setB _) rfl (by first | exact WkL.refl _ | exact zGA _ _ _) (by first | exact Wk.refl _ | exact zB2 _ _)
 | some p'=>
  obtain ⟨n,e⟩:=p'
  have hel:=zBo (hends _ rfl)
  have hc:=fun H' h1=>(hT H' h1).1 n (skip s e) rfl
  have hww:=fun H' h=>hWt 41 b s (skip s e) d H' h hel hl
  rw [zEh] at hww
  clear hT hWt
  have e0 : (Option.bind (some (n,e)) fun q : Nd × Nat=>(paren s q.2).map fun e=>(q.1,e)) = (paren s e).map fun e=>(n,e):=rfl
  rw [e0]
  unfold paren
  by_cases h41 : s[skip s e]? = some 41
  ·have hwn:=fun H' h=>(hww H' h).1 h41
   clear hww
   rw [zMg h41]
   have e1 : mkR s d (Option.map (fun e=>(n,e)) (some (skip s e + 1))) = some (ndV n,rdB s (skip s e + 1) d):=rfl
   rw [e1]
   refine zB (pR b) (zC hr) rfl <| zB (zJ p) (zC hb) rfl <| zM (r:=p + 1) rfl tO <| zF (v:=.int .i64 ↑(p + 1)) [AV.str s,.int .i64 ↑(p + 1),zJ d] (zC hb) rfl rfl rfl rfl <| zB (pR b) (zA tA (zC hr)) rfl <| zBp (hc _ (zE (zC hb))) ?_; refine zF (v:=ndV n) (AV.cells (ndV n)) zD rfl rfl rfl rfl <| zB (pR b) (zA tA (zC (zA tA (zA tA (zC hr))))) rfl <| zBp (hwn _ hP) <| zB (ndV n) (zA tA (zE zD)) rfl <| zF (v:=ndV n) (AV.cells (ndV n)) (zA tA (zA tA (zC (zA tA (zA tA zD))))) rfl rfl rfl rfl ?_
   exact z8 (o:=0) (ndV n) (by first | rfl | assumption) rfl rfl (zL (zE (zA tA (zA tA (zC (zA tA (zA tA zD))))))) rfl rfl rfl ((((((((OldB.start hb).push _).setB _).setB _).push _).set tA _).setB _).set tA _) rfl
  ·have hwn:=fun H' h=>(hww H' h).2 h41
   clear hww
   rw [zMe h41]
   have e1 : mkR s d (Option.map (fun e=>(n,e)) none) = none:=rfl
   rw [e1]
   refine zB (pR b) (zC hr) rfl <| zB (zJ p) (zC hb) rfl <| zM (r:=p + 1) rfl tO <| zF (v:=.int .i64 ↑(p + 1)) [AV.str s,.int .i64 ↑(p + 1),zJ d] (zC hb) rfl rfl rfl rfl <| zB (pR b) (zA tA (zC hr)) rfl <| zBp (hc _ (zE (zC hb))) ?_; refine zF (v:=ndV n) (AV.cells (ndV n)) zD rfl rfl rfl rfl <| zB (pR b) (zA tA (zC (zA tA (zA tA (zC hr))))) rfl <| zAb (hwn _ hP) ?_
   exact zB1 (by first | rfl | assumption) rfl rfl rfl (((((((OldB.start hb).push _).setB _).setB _).push _).set tA _).setB _) rfl (by first | exact WkL.refl _ | exact zGA _ _ _) (by first | exact Wk.refl _ | exact zB2 _ _)
theorem callc_ev (b rb sb : Nat) (s t : Bs) (p d : Nat) (H : Heap) (hb : H[b]? = some (rdB s p d)) (hr : H[rb]? = some (.box [pR b])) (hs : H[sb]? = some (.box [.str t])) (r : Option (Nd × Nat))
  (hT : ∀ H',H'[b]? = some (rdB s p d) → CR C zBT [pR b,.str t] H' b s d r) :
  zCA C GT zBn [pR rb,pR sb] H b (wkC s) zFB (mkR s d r):=by
 have hbl : b < H.length:=(zg hb).1
 refine zAE ?_
 cases r with
 | none=>
  have hc:=fun H' h1=>(hT H' h1).2 rfl
  clear hT
  have e : mkR s d none = none:=rfl
  rw [e]
  refine zB (pR b) (zC hr) rfl <| zB (AV.str t) (zC hs) rfl <| zAb (hc _ (zC hb)) ?_
  exact zB1 (by first | rfl | assumption) rfl rfl rfl (((OldB.start hb).push _).setB _) rfl (by first | exact WkL.refl _ | exact zGA _ _ _) (by first | exact Wk.refl _ | exact zB2 _ _)
 | some p'=>
  obtain ⟨n,e⟩:=p'
  have hc:=fun H' h1=>(hT H' h1).1 n e rfl
  clear hT
  have e0 : mkR s d (some (n,e)) = some (ndV n,rdB s e d):=rfl
  rw [e0]
  refine zB (pR b) (zC hr) rfl <| zB (AV.str t) (zC hs) rfl <| zBp (hc _ (zC hb)) <| zF (v:=ndV n) (AV.cells (ndV n)) (zA tA zD) rfl rfl rfl rfl ?_
  exact z8 (o:=0) (ndV n) (by first | rfl | assumption) rfl rfl (zL (zE (zA tA zD))) rfl rfl rfl ((((OldB.start hb).push _).setB _).set tA _) rfl
end
end Go.AM
set_option maxRecDepth 20000
namespace Go.AM
theorem zKb {s : Bs} {p : Nat} (h : s[p]? ≠ some 32) : tok s p = zCX s p:=by unfold tok; rw [zDl h]
theorem one_par {s : Bs} {p d : Nat} (h : s[p]? = some 40) : zCD s (P s) p d = if d = 30 then none else parS s p (d + 1):=by
 have hs : skip s p = p:=zDl (by rw [h]; simp)
 have ht:=zF3 (s:=s) (p:=p) (c:=40) (by rw [hs]; exact h) (by decide)
 rw [hs] at ht
 unfold zCD parS
 rw [ht]
 rfl
theorem one_txt {s : Bs} {p d : Nat} (h : s[p]? = some 34) : zCD s (P s) p d = (quo (s.drop (p + 1)) (p + 1)).map fun q=>(txtN q.1,q.2):=by
 have ht : tok s p = zCX s p:=zKb (by rw [h]; simp)
 unfold zCD
 rw [ht]
 unfold zCX
 rw [h]
 have hw : z6 34 = false:=by decide
 simp only [hw,zMm,zNB,zND]
 cases quo (s.drop (p + 1)) (p + 1) with
 | none=>rfl
 | some q=>rfl
theorem one_bad {s : Bs} {p d : Nat} (h : s[p]? = some 35) : zCD s (P s) p d = (zJ8 (s.drop p) wrongs 1).map fun q=>(badN q.1,p + q.2):=by
 have ht : tok s p = zCX s p:=zKb (by rw [h]; simp)
 unfold zCD
 rw [ht]
 unfold zCX
 rw [h]
 have hw : z6 35 = false:=by decide
 have h1 : ¬ ((35 : UInt8) = 34):=by decide
 simp only [hw,zMm,zNB,zND,h1]
 cases zJ8 (s.drop p) wrongs 1 with
 | none=>rfl
 | some q=>rfl
theorem zHm {c : UInt8} (h : z6 c = true) : c ≠ 32 ∧ c ≠ 45 ∧ c ≠ 35 ∧ c ≠ 34 ∧ c ≠ 40:=by
 refine ⟨?_, ?_, ?_, ?_, ?_⟩ <;> (rintro rfl; revert h; decide)
theorem tok_word {s : Bs} {p : Nat} {c : UInt8} (h : s[p]? = some c) (hw : z6 c = true) : tok s p = .word (zCJ s p) (sub s p (zCJ s p)):=by
 rw [zKb (by rw [h]; exact fun e=>(zHm hw).1 (zM5 e))]
 unfold zCX
 rw [h]
 simp only [hw,zND]
theorem one_word {s : Bs} {p d : Nat} {c : UInt8} (h : s[p]? = some c) (hw : z6 c = true) :
  zCD s (P s) p d = if zBX (sub s p (zCJ s p)) = true ∧ s[zCJ s p]? = some 40 then (if d = 30 then none else zG3 s (sub s p (zCJ s p)) (zCJ s p) (d + 1)) else (zMO (sub s p (zCJ s p))).map fun n=>(n,zCJ s p):=by
 unfold zCD
 rw [tok_word h hw]
 rfl
theorem one_fin {s : Bs} {p d : Nat} (h : s[p]? = none) : zCD s (P s) p d = none:=by
 unfold zCD
 rw [zKb (by rw [h]; simp)]
 unfold zCX
 rw [h]
theorem one_else {s : Bs} {p d : Nat} {c : UInt8} (h : s[p]? = some c) (h0 : c ≠ 32) (h1 : c ≠ 45) (h2 : c ≠ 40) (h3 : c ≠ 34) (h4 : c ≠ 35) (hw : z6 c = false) : zCD s (P s) p d = none:=by
 unfold zCD
 rw [zKb (by rw [h]; exact fun e=>h0 (zM5 e))]
 unfold zCX
 rw [h]
 simp only [hw,zMm,zNB,h3,h4]
 split
 ·rename_i heq
  split at heq
  ·split at heq <;> cases heq
  ·cases heq
 ·rename_i heq
  split at heq
  ·split at heq <;> cases heq
  ·cases heq
 ·rename_i heq
  split at heq
  ·split at heq <;> cases heq
  ·cases heq
 ·rename_i heq
  split at heq
  ·split at heq
   ·cases heq
   ·simp only [Tok.sign.injEq,zNv,zOY] at heq
    exact absurd heq.2 h1
  ·simp only [Tok.sign.injEq,zNv,zOY] at heq
   exact absurd heq.2 h1
 ·rename_i heq
  split at heq
  ·split at heq
   ·cases heq
   ·simp only [Tok.sign.injEq,zNv,zOY] at heq
    exact absurd heq.2 h2
  ·simp only [Tok.sign.injEq,zNv,zOY] at heq
   exact absurd heq.2 h2
 ·rfl
theorem zLK {s : Bs} {p e : Nat} {c : UInt8} (h : s[p]? = some c) (he : p < e) : (sub s p e).head? = some c:=by
 unfold sub
 rw [zBD h]
 obtain ⟨k,hk⟩ : ∃ k,e - p = k + 1:=⟨e - p - 1,by omega⟩
 rw [hk]; rfl
theorem zKC {s : Bs} {p e : Nat} (he : e ≤ s.length) : (sub s p e).length = e - p:=by
 unfold sub; rw [zMy,zNQ]; omega
theorem zHn {l w : Bs} {n : Nat} (h : l.take n = w) : l = w ++ l.drop n:=by rw [← h,zOt]
theorem lit_bad {s : Bs} {p e : Nat} (h : s[p]? = some 35) (hpe : p < e) (he : e ≤ s.length) : litP (sub s p e) = match zJ8 (s.drop p) wrongs 1 with
  | some (k,n)=>if n = e - p then some (4,(k : Int)) else none
  | none=>none:=by
 have hh:=zLK h hpe
 have hl:=zKC (p:=p) he
 have hsub : sub s p e = (s.drop p).take (e - p):=rfl
 rw [hsub] at hh hl ⊢
 clear hsub
 generalize s.drop p = l at *
 generalize e - p = m at *
 unfold litP
 rw [zMe (fun x=>by rw [x] at hh; revert hh; decide),zMe (fun x=>by rw [x] at hh; revert hh; decide)]
 by_cases a1 : l.take m = [35,68,73,86,33]
 ·rw [zMg a1]
  have hm : m = 5:=by rw [a1] at hl; exact hl.symm
  rw [zHn a1]; subst hm; simp [zJ8,wrongs]
 by_cases a2 : l.take m = [35,86,65,76,85,69,33]
 ·rw [zMe a1,zMg a2]
  have hm : m = 7:=by rw [a2] at hl; exact hl.symm
  rw [zHn a2]; subst hm; simp [zJ8,wrongs]
 by_cases a3 : l.take m = [35,82,69,70,33]
 ·rw [zMe a1,zMe a2,zMg a3]
  have hm : m = 5:=by rw [a3] at hl; exact hl.symm
  rw [zHn a3]; subst hm; simp [zJ8,wrongs]
 by_cases a4 : l.take m = [35,78,65,77,69,33]
 ·rw [zMe a1,zMe a2,zMe a3,zMg a4]
  have hm : m = 6:=by rw [a4] at hl; exact hl.symm
  rw [zHn a4]; subst hm; simp [zJ8,wrongs]
 by_cases a5 : l.take m = [35,78,85,77,33]
 ·rw [zMe a1,zMe a2,zMe a3,zMe a4,zMg a5]
  have hm : m = 5:=by rw [a5] at hl; exact hl.symm
  rw [zHn a5]; subst hm; simp [zJ8,wrongs]
 by_cases a6 : l.take m = [35,78,79,78,69,33]
 ·rw [zMe a1,zMe a2,zMe a3,zMe a4,zMe a5,zMg a6]
  have hm : m = 6:=by rw [a6] at hl; exact hl.symm
  rw [zHn a6]; subst hm; simp [zJ8,wrongs]
 rw [zMe a1,zMe a2,zMe a3,zMe a4,zMe a5,zMe a6]
 unfold zJ8 wrongs
 simp only [zJ8]
 split
 ·rename_i k n hk
  symm
  rw [zMe]
  intro hn
  subst hn
  repeat' split at hk
  ·cases hk; rename_i x; exact a1 x
  ·cases hk; rename_i x; exact a2 x
  ·cases hk; rename_i x; exact a3 x
  ·cases hk; rename_i x; exact a4 x
  ·cases hk; rename_i x; exact a5 x
  ·cases hk; rename_i x; exact a6 x
  ·cases hk
 ·rfl
end Go.AM
set_option maxRecDepth 20000
namespace Go.AM
section
variable {C : CSpec} {GT : Nat → Option AV}
theorem prim_fin (hF : ∀ b s p d a e H,H[b]? = some (rdB s p d) → C zX (.pan .undef :: [pR b,.int .i64 a,zFX e]) H zFB (H.set b (.box (wkC s))))
  (b : Nat) (s : Bs) (p d : Nat) (H : Heap) (hb : H[b]? = some (rdB s p d)) (hp : p ≤ s.length) (hl : s.length ≤ 200) (hd : d ≤ 1000) (hlt : ¬ p < s.length) : zCA C GT zy [pR b] H b (wkC s) zFB (mkR s d (zCD s (P s) p d)):=by
 have hbl : b < H.length:=(zg hb).1
 have e : mkR s d (zCD s (P s) p d) = none:=by rw [one_fin (zNY tO)]; rfl
 rw [e]
 have hf:=fun H' h=>hF b s p d p 2 H' h
 clear hF
 refine zAE ?_; refine zD6 (x:=pR b) rfl <| zB (pR b) (zC zD) rfl <| zB (zJ p) (zC (zC hb)) rfl <| zB (pR b) (zC zD) rfl <| zB (AV.str s) (zC (zC hb)) rfl <| zP tE ?_; refine zB (pR b) (zC zD) rfl <| zAb (hf _ hP) ?_
 exact zB1 (by first | rfl | assumption) rfl rfl rfl ((((OldB.start hb).push _).push _).setB _) rfl (by first | exact WkL.refl _ | exact zGA _ _ _) (by first | exact Wk.refl _ | exact zB2 _ _)
theorem prim_par (hWi : ∀ f caps a b s p d H r,H[b]? = some (rdB s p d) → d ≤ 1000 → (∀ H',H'[b]? = some (rdB s p (d + 1)) → Off H b H' → CR C f caps H' b s (d + 1) r) → CR C zq [pR b,.int .i64 a,.fn f [] caps] H b s d (if d = 30 then none else r))
  (b : Nat) (s : Bs) (p d : Nat) (H : Heap) (hb : H[b]? = some (rdB s p d)) (hp : p ≤ s.length) (hl : s.length ≤ 200) (hd : d ≤ 1000) (hc : s[p]? = some 40) (hPa : s[p]? = some 40 → ∀ H' rb,H'[b]? = some (rdB s p (d + 1)) → H'[rb]? = some (.box [pR b]) → CR C zAQ [pR rb] H' b s (d + 1) (parS s p (d + 1))) : zCA C GT zy [pR b] H b (wkC s) zFB (mkR s d (zCD s (P s) p d)):=by
 have hbl : b < H.length:=(zg hb).1
 have hlt : p < s.length:=(zg hc).1
 rw [one_par hc]
 have hpa:=hPa hc
 have hw:=hWi zAQ [pR H.length] p b s p d (H ++ [.box [pR b]] ++ [.box (ndC zY)]) (parS s p (d + 1)) (zC (zC hb)) hd (fun H' h1 ho=>hpa H' H.length h1 (ho _ _ (zC zD) tO))
 clear hWi hPa hpa
 refine zAE ?_
 cases hr : (if d = 30 then none else parS s p (d + 1)) with
 | none=>
  rw [hr] at hw
  have hw:=hw.2 rfl
  have e : mkR s d none = none:=rfl
  rw [e]
  refine zD6 (x:=pR b) rfl <| zB (pR b) (zC zD) rfl <| zB (zJ p) (zC (zC hb)) rfl <| zB (pR b) (zC zD) rfl <| zB (AV.str s) (zC (zC hb)) rfl <| zO tN ?_; refine zB (pR b) (zC zD) rfl <| zB (AV.str s) (zC (zC hb)) rfl <| zn rfl hc <| zP (tE (by rfl)) <| zB (pR b) (zC zD) rfl <| zAb hw ?_
  exact zB1 (by first | rfl | assumption) rfl rfl rfl ((((OldB.start hb).push _).push _).setB _) rfl (by first | exact WkL.refl _ | exact zGA _ _ _) (by first | exact Wk.refl _ | exact zB2 _ _)
 | some q=>
  obtain ⟨n,e⟩:=q
  rw [hr] at hw
  have hw:=hw.1 n e rfl
  have e0 : mkR s d (some (n,e)) = some (ndV n,rdB s e d):=rfl
  rw [e0]
  refine zD6 (x:=pR b) rfl <| zB (pR b) (zC zD) rfl <| zB (zJ p) (zC (zC hb)) rfl <| zB (pR b) (zC zD) rfl <| zB (AV.str s) (zC (zC hb)) rfl <| zO tN ?_; refine zB (pR b) (zC zD) rfl <| zB (AV.str s) (zC (zC hb)) rfl <| zn rfl hc <| zP (tE (by rfl)) <| zB (pR b) (zC zD) rfl <| zBp hw ?_; refine zF (v:=ndV n) (AV.cells (ndV n)) (zA tA zD) rfl rfl rfl rfl ?_
  exact z8 (o:=0) (ndV n) (by first | rfl | assumption) rfl rfl (zL (zE (zA tA zD))) rfl rfl rfl (((((OldB.start hb).push _).push _).setB _).set tA _) rfl
theorem prim_txt (hTx : ∀ b s p d H,H[b]? = some (rdB s p d) → p < s.length → s.length ≤ 200 → CR C zAw [pR b] H b s d ((quo (s.drop (p + 1)) (p + 1)).map fun q=>(txtN q.1,q.2)))
  (b : Nat) (s : Bs) (p d : Nat) (H : Heap) (hb : H[b]? = some (rdB s p d)) (hp : p ≤ s.length) (hl : s.length ≤ 200) (hd : d ≤ 1000) (hc : s[p]? = some 34) : zCA C GT zy [pR b] H b (wkC s) zFB (mkR s d (zCD s (P s) p d)):=by
 have hbl : b < H.length:=(zg hb).1
 have hlt : p < s.length:=(zg hc).1
 rw [one_txt hc]
 have hw:=hTx b s p d (H ++ [.box [pR b]] ++ [.box (ndC zY)]) (zC (zC hb)) hlt hl
 clear hTx
 generalize (quo (s.drop (p + 1)) (p + 1)).map (fun q=>(txtN q.1,q.2)) = r at *
 refine zAE ?_
 cases r with
 | none=>
  have hw:=hw.2 rfl
  have e : mkR s d none = none:=rfl
  rw [e]
  refine zD6 (x:=pR b) rfl <| zB (pR b) (zC zD) rfl <| zB (zJ p) (zC (zC hb)) rfl <| zB (pR b) (zC zD) rfl <| zB (AV.str s) (zC (zC hb)) rfl <| zO tN ?_; refine zB (pR b) (zC zD) rfl <| zB (AV.str s) (zC (zC hb)) rfl <| zn rfl hc <| zO (tN (by decide)) <| zP (tE (by rfl)) <| zB (pR b) (zC zD) rfl ?_; refine zAb hw ?_
  exact zB1 (by first | rfl | assumption) rfl rfl rfl ((((OldB.start hb).push _).push _).setB _) rfl (by first | exact WkL.refl _ | exact zGA _ _ _) (by first | exact Wk.refl _ | exact zB2 _ _)
 | some q=>
  obtain ⟨n,e⟩:=q
  have hw:=hw.1 n e rfl
  have e0 : mkR s d (some (n,e)) = some (ndV n,rdB s e d):=rfl
  rw [e0]
  refine zD6 (x:=pR b) rfl <| zB (pR b) (zC zD) rfl <| zB (zJ p) (zC (zC hb)) rfl <| zB (pR b) (zC zD) rfl <| zB (AV.str s) (zC (zC hb)) rfl <| zO tN ?_; refine zB (pR b) (zC zD) rfl <| zB (AV.str s) (zC (zC hb)) rfl <| zn rfl hc <| zO (tN (by decide)) <| zP (tE (by rfl)) <| zB (pR b) (zC zD) rfl ?_; refine zBp hw <| zF (v:=ndV n) (AV.cells (ndV n)) (zA tA zD) rfl rfl rfl rfl ?_
  exact z8 (o:=0) (ndV n) (by first | rfl | assumption) rfl rfl (zL (zE (zA tA zD))) rfl rfl rfl (((((OldB.start hb).push _).push _).setB _).set tA _) rfl
theorem prim_bad (hF : ∀ b s p d a e H,H[b]? = some (rdB s p d) → C zX (.pan .undef :: [pR b,.int .i64 a,zFX e]) H zFB (H.set b (.box (wkC s)))) (hLi : ∀ t H,C zAM [.str t] H (litV (litP t)) H)
  (b : Nat) (s : Bs) (p d : Nat) (H : Heap) (hb : H[b]? = some (rdB s p d)) (hp : p ≤ s.length) (hl : s.length ≤ 200) (hd : d ≤ 1000) (hc : s[p]? = some 35) : zCA C GT zy [pR b] H b (wkC s) zFB (mkR s d (zCD s (P s) p d)):=by
 have hbl : b < H.length:=(zg hb).1
 have hlt : p < s.length:=(zg hc).1
 rw [one_bad hc]
 have hlb:=fun e (h1 : p < e) (h2 : e ≤ s.length)=>lit_bad hc h1 h2
 have hbe : ∀ q,zJ8 (s.drop p) wrongs 1 = some q → 0 < q.2 ∧ q.2 ≤ s.length - p:=fun q hq=>by
  have:=zMN _ _ _ _ hq (by decide)
  rwa [zNQ] at this
 have hf:=fun H' h=>hF b s p d p 2 H' h
 clear hF
 generalize zJ8 (s.drop p) wrongs 1 = r at *
 refine zAE ?_; refine zD6 (x:=pR b) rfl <| zB (pR b) (zC zD) rfl <| zB (zJ p) (zC (zC hb)) rfl <| zB (pR b) (zC zD) rfl <| zB (AV.str s) (zC (zC hb)) rfl <| zO tN ?_; refine zB (pR b) (zC zD) rfl <| zB (AV.str s) (zC (zC hb)) rfl <| zn rfl hc <| zO (tN (by decide)) <| zO (tN (by decide)) <| zP (tE (by rfl)) ?_; refine zM (r:=p + 1) rfl tO ?_; refine zBB (fun k : Nat=>[(2,pR (H ++ [ABlk.box [pR b]]).length),(5,zJ k),(1,pR H.length),(3,zJ p)])
  (fun k H'=>OldB H b (rdB s p d) H' ∧ H'[b]? = some (rdB s p d) ∧ H'[H.length]? = some (.box [pR b]) ∧ H'[(H ++ [ABlk.box [pR b]]).length]? = some (.box (ndC zY)) ∧ p < k ∧ k ≤ s.length + 1 ∧ ∀ q,r = some q → k ≤ p + q.2)
  (fun k=>s.length + 1 - k) (p + 1) rfl ⟨((OldB.start hb).push _).push _,zC (zC hb),zC zD,zD,by omega,by omega,fun q hq=>by have:=(hbe q hq).1; omega⟩ (fun k H1 ⟨ho,hb1,hr1,h2,hpk,hk,hq⟩=>?_)
 have hlen1:=ho.old.1
 rw [zMs] at hlen1
 have hl2:=(zg h2).1
 have hlH : (H ++ [ABlk.box [pR b]]).length = H.length + 1:=by simp
 by_cases hks : k ≤ s.length
 ·have hlk:=hlb k hpk hks
  have hli:=hLi (sub s p k) H1
  clear hLi
  by_cases hit : ∃ q,r = some q ∧ k = p + q.2
  ·obtain ⟨⟨kk,nn⟩,rfl,hkn⟩:=hit
   simp only at hkn
   have e2 : litP (sub s p k) = some (4,(kk : Int)):=by
    rw [hlk]; simp only; rw [zMg tO]
   rw [e2] at hli
   have hli : C zAM [.str (sub s p k)] H1 (.tup [v3 4 kk,.bool true]) H1:=hli
   have e0 : mkR s d (Option.map (fun q : Nat × Nat=>(badN q.1,p + q.2)) (some (kk,nn))) = some (ndV (badN kk),rdB s k d):=by rw [hkn]; rfl
   rw [e0]
   refine zB (pR b) hr1 rfl <| zB (AV.str s) hb1 rfl <| zP tT <| zB (pR b) hr1 rfl <| zB (AV.str s) hb1 rfl <| zS (v:=.str (sub s p k)) (zC3 s p k tO tO) ?_; refine zI (hli) <| zS rfl <| zS rfl <| zF (v:=v3 4 ↑kk) (AV.cells (v3 4 ↑kk)) zD rfl rfl rfl rfl <| zH <| zB (pR b) (zA tA (zC hr1)) rfl ?_; refine zF (v:=zJ k) [AV.str s,zJ k,zJ d] (zA tA (zC hb1)) rfl rfl rfl rfl <| zB (.int .i64 ↑kk) (zA tA (zE zD)) rfl <| zS (v:=[.int .i64 4,.int .i64 ↑kk,AV.str [],.int .i64 0,.int .i64 0,AV.bool false,AV.bool false,.int .i64 0,.int .i64 0,AV.bool false,AV.bool false,AV.lst (some true) 0 []]) rfl <| zF (v:=AV.agg [.int .i64 4,.int .i64 ↑kk,AV.str [],.int .i64 0,.int .i64 0,AV.bool false,AV.bool false,.int .i64 0,.int .i64 0,AV.bool false,AV.bool false,AV.lst (some true) 0 []]) (AV.cells (AV.agg [.int .i64 4,.int .i64 ↑kk,AV.str [],.int .i64 0,.int .i64 0,AV.bool false,AV.bool false,.int .i64 0,.int .i64 0,AV.bool false,AV.bool false,AV.lst (some true) 0 []])) (zA tA (zA tA (zC h2))) rfl rfl rfl rfl ?_
   exact z8 (o:=0) (ndV (badN kk)) rfl rfl rfl (zL hP) rfl rfl rfl ((((ho.push _).set tO _).setB _).set tO _) rfl
  ·have e2 : litP (sub s p k) = none:=by
    rw [hlk]
    cases r with
    | none=>rfl
    | some q=>
     simp only
     rw [zMe (fun e=>hit ⟨q,rfl,by omega⟩)]
   rw [e2] at hli
   have hli : C zAM [.str (sub s p k)] H1 (.tup [v3 0 0,.bool false]) H1:=hli
   refine zB (pR b) hr1 rfl <| zB (AV.str s) hb1 rfl <| zP tT <| zB (pR b) hr1 rfl <| zB (AV.str s) hb1 rfl <| zS (v:=.str (sub s p k)) (zC3 s p k tO tO) ?_; refine zI (hli) <| zS rfl <| zS rfl <| zF (v:=v3 0 0) (AV.cells (v3 0 0)) zD rfl rfl rfl rfl <| zG <| zM (r:=k + 1) rfl tO ?_; refine zAA (k + 1) rfl ⟨(ho.push _).set tO _,zA tO (zC hb1),zA tO (zC hr1),zA tO (zC h2),by omega,by omega,fun q hq'=>?_⟩ tO
   have h3:=hq q hq'
   rcases zOB k (p + q.2) with h | h
   ·omega
   ·exact absurd ⟨q,hq',by omega⟩ hit
 ·have e2 : r = none:=by
   cases r with
   | none=>rfl
   | some q=>
    have:=hq q rfl
    have:=(hbe q rfl).2
    omega
  subst e2
  have e0 : mkR s d (Option.map (fun q : Nat × Nat=>(badN q.1,p + q.2)) none) = none:=rfl
  rw [e0]
  refine zB (pR b) hr1 rfl <| zB (AV.str s) hb1 rfl <| zO tF <| zB (pR b) hr1 rfl <| zAb (hf _ hb1) ?_
  exact zB1 (by first | rfl | assumption) rfl rfl rfl (ho.setB _) rfl (by first | exact WkL.refl _ | exact zGA _ _ _) (by first | exact Wk.refl _ | exact zB2 _ _)
theorem prim_else (hF : ∀ b s p d a e H,H[b]? = some (rdB s p d) → C zX (.pan .undef :: [pR b,.int .i64 a,zFX e]) H zFB (H.set b (.box (wkC s)))) (hWd : ∀ c H,C zAU [byV c] H (.bool (z6 c)) H)
  (b : Nat) (s : Bs) (p d : Nat) (H : Heap) (hb : H[b]? = some (rdB s p d)) (hp : p ≤ s.length) (hl : s.length ≤ 200) (hd : d ≤ 1000) (c : UInt8) (hc : s[p]? = some c) (h32 : s[p]? ≠ some 32) (h45 : s[p]? ≠ some 45) (h40 : c ≠ 40) (h34 : c ≠ 34) (h35 : c ≠ 35) (hw : ¬ z6 c = true) : zCA C GT zy [pR b] H b (wkC s) zFB (mkR s d (zCD s (P s) p d)):=by
 have hbl : b < H.length:=(zg hb).1
 have hlt : p < s.length:=(zg hc).1
 have n40 : c.toNat ≠ 40:=fun e=>h40 (zM0.1 e)
 have n34 : c.toNat ≠ 34:=fun e=>h34 (zM0.1 e)
 have n35 : c.toNat ≠ 35:=fun e=>h35 (zM0.1 e)
 have hwd:=hWd c (H ++ [.box [pR b]] ++ [.box (ndC zY)])
 have hw:=zNL.2 hw
 rw [one_else hc (fun e=>h32 (by rw [hc,e])) (fun e=>h45 (by rw [hc,e])) h40 h34 h35 hw]
 have e0 : mkR s d none = none:=rfl
 rw [e0]
 rw [hw] at hwd
 have hf:=fun H' h=>hF b s p d p 2 H' h
 clear hF hWd
 refine zAE ?_; refine zD6 (x:=pR b) rfl <| zB (pR b) (zC zD) rfl <| zB (zJ p) (zC (zC hb)) rfl <| zB (pR b) (zC zD) rfl <| zB (AV.str s) (zC (zC hb)) rfl <| zO tN ?_; refine zB (pR b) (zC zD) rfl <| zB (AV.str s) (zC (zC hb)) rfl <| zn rfl hc <| zO tN <| zO tN <| zO tN ?_; refine zI (hwd) <| zG <| zB (pR b) (zC zD) rfl <| zAb (hf _ hP) ?_
 exact zB1 (by first | rfl | assumption) rfl rfl rfl ((((OldB.start hb).push _).push _).setB _) rfl (by first | exact WkL.refl _ | exact zGA _ _ _) (by first | exact Wk.refl _ | exact zB2 _ _)
theorem prim_call (hWd : ∀ c H,C zAU [byV c] H (.bool (z6 c)) H) (hWo : ∀ b s p d H,H[b]? = some (rdB s p d) → p ≤ s.length → s.length ≤ 200 → C zw [pR b] H (.str (sub s p (zCJ s p))) (H.set b (rdB s (zCJ s p) d))) (hCa : ∀ t H,t.length ≤ 1000 → C zBZ [.str t] H (.bool (zBX t)) H) (hWi : ∀ f caps a b s p d H r,H[b]? = some (rdB s p d) → d ≤ 1000 → (∀ H',H'[b]? = some (rdB s p (d + 1)) → Off H b H' → CR C f caps H' b s (d + 1) r) → CR C zq [pR b,.int .i64 a,.fn f [] caps] H b s d (if d = 30 then none else r))
  (b : Nat) (s : Bs) (p d : Nat) (H : Heap) (hb : H[b]? = some (rdB s p d)) (hp : p ≤ s.length) (hl : s.length ≤ 200) (hd : d ≤ 1000) (c : UInt8) (hc : s[p]? = some c) (hw : z6 c = true) (h41 : s[zCJ s p]? = some 40) (hcd : zBX (sub s p (zCJ s p)) = true) (hCl : ∀ e t,s[e]? = some 40 → p < e → ∀ H' rb sb,H'[b]? = some (rdB s e (d + 1)) → H'[rb]? = some (.box [pR b]) → H'[sb]? = some (.box [.str t]) → CR C zAG [pR rb,pR sb] H' b s (d + 1) (zG3 s t e (d + 1))) : zCA C GT zy [pR b] H b (wkC s) zFB (mkR s d (zCD s (P s) p d)):=by
 have hbl : b < H.length:=(zg hb).1
 have hlt : p < s.length:=(zg hc).1
 have hwn:=zHm hw
 have n40 : c.toNat ≠ 40:=fun e=>hwn.2.2.2.2 (zM0.1 e)
 have n34 : c.toNat ≠ 34:=fun e=>hwn.2.2.2.1 (zM0.1 e)
 have n35 : c.toNat ≠ 35:=fun e=>hwn.2.2.1 (zM0.1 e)
 have hwd:=hWd c (H ++ [.box [pR b]] ++ [.box (ndC zY)])
 rw [hw] at hwd
 rw [one_word hc hw]
 have hwo:=hWo b s p d (H ++ [.box [pR b]] ++ [.box (ndC zY)]) (zC (zC hb)) hp hl
 have hee : p < zCJ s p:=by rw [zFz hc hw]; have:=zJ7 s (p + 1); omega
 have hel:=zHX hp
 have hth:=zLK (e:=zCJ s p) hc hee
 have htl:=zKC (s:=s) (p:=p) (e:=zCJ s p) hel
 generalize zCJ s p = e at *
 generalize sub s p e = t at *
 have hca:=fun H'=>hCa t H' tO
 have hcl:=fun h=>hCl e t h hee
 have hww:=fun H' r h1 h2=>hWi zAG [pR H.length,pR ((H ++ [ABlk.box [pR b]] ++ [ABlk.box (ndC zY)]).set b (rdB s e d)).length] p b s e d H' r h1 hd h2
 clear hWi hWd hWo hCa hCl
 refine zAE ?_
 have hlt2 : e < s.length:=(zg h41).1
 rw [zMg ⟨hcd,h41⟩]
 have hcl:=hcl h41
 rw [hcd] at hca
 skip
 have hH2 : ∀ X : Heap,X[H.length]? = some (.box [pR b]) → X[((H ++ [ABlk.box [pR b]] ++ [ABlk.box (ndC zY)]).set b (rdB s e d)).length]? = some (.box [.str t]) → X[b]? = some (rdB s e d) → CR C zq [pR b,zJ p,.fn zAG [] [pR H.length,pR ((H ++ [ABlk.box [pR b]] ++ [ABlk.box (ndC zY)]).set b (rdB s e d)).length]] X b s d (if d = 30 then none else zG3 s t e (d + 1)):=fun X x1 x2 x3=>
  hww X (zG3 s t e (d + 1)) x3 (fun H' h1 ho=>hcl H' _ _ h1 (ho _ _ x1 tO) (ho _ _ x2 (by simp; omega)))
 clear hww hcl
 cases hr : (if d = 30 then none else zG3 s t e (d + 1)) with
 | none=>
  rw [hr] at hH2
  have hH2:=fun X x1 x2 x3=>(hH2 X x1 x2 x3).2 rfl
  have e0 : mkR s d none = none:=rfl
  rw [e0]
  refine zD6 (x:=pR b) rfl <| zB (pR b) (zC zD) rfl <| zB (zJ p) (zC (zC hb)) rfl <| zB (pR b) (zC zD) rfl <| zB (AV.str s) (zC (zC hb)) rfl <| zO tN ?_; refine zB (pR b) (zC zD) rfl <| zB (AV.str s) (zC (zC hb)) rfl <| zn rfl hc <| zO tN <| zO tN <| zO tN ?_; refine zI (hwd) <| zH <| zB (pR b) (zC zD) rfl <| zp hwo (fun h=>by cases h) <| zF (v:=AV.str t) [AV.str t] zD rfl rfl rfl rfl <| zB (pR b) (zA tA (zC (zA tA (zC zD)))) rfl ?_
  refine zB (zJ e) (zA tA (zC (zE (zC (zC hb))))) rfl <| zB (pR b) (zA tA (zC (zA tA (zC zD)))) rfl <| zB (AV.str s) (zA tA (zC (zE (zC (zC hb))))) rfl <| zP tT <| zB (pR b) (zA tA (zC (zA tA (zC zD)))) rfl <| zB (AV.str s) (zA tA (zC (zE (zC (zC hb))))) rfl ?_; refine zB (pR b) (zA tA (zC (zA tA (zC zD)))) rfl <| zB (zJ e) (zA tA (zC (zE (zC (zC hb))))) rfl <| zn rfl h41 <| zH <| zP (tE (by rfl)) <| zB (AV.str t) (zE zD) rfl ?_
  refine zI (hca _) <| zH <| zH <| zB (pR b) (zA tA (zC (zA tA (zC zD)))) rfl <| zAb (hH2 _ hP hP hP) ?_
  exact zB1 (by first | rfl | assumption) rfl rfl rfl (((((((OldB.start hb).push _).push _).setB _).push _).set tA _).setB _) rfl (by first | exact WkL.refl _ | exact zGA _ _ _) (by first | exact Wk.refl _ | exact zB2 _ _)
 | some q=>
  obtain ⟨n,e'⟩:=q
  rw [hr] at hH2
  have hH2:=fun X x1 x2 x3=>(hH2 X x1 x2 x3).1 n e' rfl
  have e0 : mkR s d (some (n,e')) = some (ndV n,rdB s e' d):=rfl
  rw [e0]
  refine zD6 (x:=pR b) rfl <| zB (pR b) (zC zD) rfl <| zB (zJ p) (zC (zC hb)) rfl <| zB (pR b) (zC zD) rfl <| zB (AV.str s) (zC (zC hb)) rfl <| zO tN ?_; refine zB (pR b) (zC zD) rfl <| zB (AV.str s) (zC (zC hb)) rfl <| zn rfl hc <| zO tN <| zO tN <| zO tN ?_; refine zI (hwd) <| zH <| zB (pR b) (zC zD) rfl <| zp hwo (fun h=>by cases h) <| zF (v:=AV.str t) [AV.str t] zD rfl rfl rfl rfl <| zB (pR b) (zA tA (zC (zA tA (zC zD)))) rfl ?_
  refine zB (zJ e) (zA tA (zC (zE (zC (zC hb))))) rfl <| zB (pR b) (zA tA (zC (zA tA (zC zD)))) rfl <| zB (AV.str s) (zA tA (zC (zE (zC (zC hb))))) rfl <| zP tT <| zB (pR b) (zA tA (zC (zA tA (zC zD)))) rfl <| zB (AV.str s) (zA tA (zC (zE (zC (zC hb))))) rfl ?_; refine zB (pR b) (zA tA (zC (zA tA (zC zD)))) rfl <| zB (zJ e) (zA tA (zC (zE (zC (zC hb))))) rfl <| zn rfl h41 <| zH <| zP (tE (by rfl)) <| zB (AV.str t) (zE zD) rfl ?_
  refine zI (hca _) <| zH <| zH <| zB (pR b) (zA tA (zC (zA tA (zC zD)))) rfl <| zBp (hH2 _ hP hP hP) <| zF (v:=ndV n) (AV.cells (ndV n)) (zA tA (zA tA (zC (zA tA zD)))) rfl rfl rfl rfl ?_
  exact z8 (o:=0) (ndV n) (by first | rfl | assumption) rfl rfl (zL (zE (zA tA (zA tA (zC (zA tA zD)))))) rfl rfl rfl ((((((((OldB.start hb).push _).push _).setB _).push _).set tA _).setB _).set tA _) rfl
theorem prim_plain1 (hF : ∀ b s p d a e H,H[b]? = some (rdB s p d) → C zX (.pan .undef :: [pR b,.int .i64 a,zFX e]) H zFB (H.set b (.box (wkC s)))) (hWd : ∀ c H,C zAU [byV c] H (.bool (z6 c)) H) (hWo : ∀ b s p d H,H[b]? = some (rdB s p d) → p ≤ s.length → s.length ≤ 200 → C zw [pR b] H (.str (sub s p (zCJ s p))) (H.set b (rdB s (zCJ s p) d))) (hCa : ∀ t H,t.length ≤ 1000 → C zBZ [.str t] H (.bool (zBX t)) H) (hPl : ∀ t H,t.length ≤ 1000 → t.head? ≠ some 45 → t.head? ≠ some 35 → C zAZ [.str t] H (zJZ (zMO t)) H)
  (b : Nat) (s : Bs) (p d : Nat) (H : Heap) (hb : H[b]? = some (rdB s p d)) (hp : p ≤ s.length) (hl : s.length ≤ 200) (hd : d ≤ 1000) (c : UInt8) (hc : s[p]? = some c) (hw : z6 c = true) (h41 : s[zCJ s p]? = some 40) (hcd : ¬ zBX (sub s p (zCJ s p)) = true) : zCA C GT zy [pR b] H b (wkC s) zFB (mkR s d (zCD s (P s) p d)):=by
 have hbl : b < H.length:=(zg hb).1
 have hlt : p < s.length:=(zg hc).1
 have hwn:=zHm hw
 have n40 : c.toNat ≠ 40:=fun e=>hwn.2.2.2.2 (zM0.1 e)
 have n34 : c.toNat ≠ 34:=fun e=>hwn.2.2.2.1 (zM0.1 e)
 have n35 : c.toNat ≠ 35:=fun e=>hwn.2.2.1 (zM0.1 e)
 have hwd:=hWd c (H ++ [.box [pR b]] ++ [.box (ndC zY)])
 rw [hw] at hwd
 rw [one_word hc hw]
 have hwo:=hWo b s p d (H ++ [.box [pR b]] ++ [.box (ndC zY)]) (zC (zC hb)) hp hl
 have hee : p < zCJ s p:=by rw [zFz hc hw]; have:=zJ7 s (p + 1); omega
 have hel:=zHX hp
 have hth:=zLK (e:=zCJ s p) hc hee
 have htl:=zKC (s:=s) (p:=p) (e:=zCJ s p) hel
 generalize zCJ s p = e at *
 generalize sub s p e = t at *
 have hpl:=fun H'=>hPl t H' tO (by rw [hth]; exact fun x=>hwn.2.1 (zM5 x)) (by rw [hth]; exact fun x=>hwn.2.2.1 (zM5 x))
 have hca:=fun H'=>hCa t H' tO
 have hf:=fun H' h=>hF b s e d p 2 H' h
 clear hF hWd hWo hCa hPl
 have hlt2 : e < s.length:=(zg h41).1
 refine zAE ?_
 rw [zMe (fun x=>hcd x.1)]
 rw [zNL.2 hcd] at hca
 skip
 cases ha : zMO t with
 | none=>
  rw [ha] at hpl
  have hpl : ∀ H',C zAZ [.str t] H' (.tup [ndV zY,.bool false]) H':=hpl
  have e0 : mkR s d (Option.map (fun n=>(n,e)) none) = none:=rfl
  rw [e0]
  refine zD6 (x:=pR b) rfl <| zB (pR b) (zC zD) rfl <| zB (zJ p) (zC (zC hb)) rfl <| zB (pR b) (zC zD) rfl <| zB (AV.str s) (zC (zC hb)) rfl <| zO tN ?_; refine zB (pR b) (zC zD) rfl <| zB (AV.str s) (zC (zC hb)) rfl <| zn rfl hc <| zO tN <| zO tN <| zO tN ?_; refine zI (hwd) <| zH <| zB (pR b) (zC zD) rfl <| zp hwo (fun h=>by cases h) <| zF (v:=AV.str t) [AV.str t] zD rfl rfl rfl rfl <| zB (pR b) (zA tA (zC (zA tA (zC zD)))) rfl ?_
  refine zB (zJ e) (zA tA (zC (zE (zC (zC hb))))) rfl <| zB (pR b) (zA tA (zC (zA tA (zC zD)))) rfl <| zB (AV.str s) (zA tA (zC (zE (zC (zC hb))))) rfl <| zP tT <| zB (pR b) (zA tA (zC (zA tA (zC zD)))) rfl <| zB (AV.str s) (zA tA (zC (zE (zC (zC hb))))) rfl ?_; refine zB (pR b) (zA tA (zC (zA tA (zC zD)))) rfl <| zB (zJ e) (zA tA (zC (zE (zC (zC hb))))) rfl <| zn rfl h41 <| zH <| zP (tE (by rfl)) <| zB (AV.str t) (zE zD) rfl ?_
  refine zI (hca _) <| zH <| zG <| zB (AV.str t) (zE zD) rfl <| zI (hpl _) <| zS rfl ?_; refine zS rfl <| zF (v:=ndV zY) (AV.cells (ndV zY)) zD rfl rfl rfl rfl <| zG <| zB (pR b) (zA tA (zC (zA tA (zC (zA tA (zC zD)))))) rfl <| zAb (hf _ hP) ?_
  exact zB1 (by first | rfl | assumption) rfl rfl rfl (((((((((OldB.start hb).push _).push _).setB _).push _).set tA _).push _).set tA _).setB _) rfl (by first | exact WkL.refl _ | exact zGA _ _ _) (by first | exact Wk.refl _ | exact zB2 _ _)
 | some n=>
  rw [ha] at hpl
  have hpl : ∀ H',C zAZ [.str t] H' (.tup [ndV n,.bool true]) H':=hpl
  have e0 : mkR s d (Option.map (fun n=>(n,e)) (some n)) = some (ndV n,rdB s e d):=rfl
  rw [e0]
  refine zD6 (x:=pR b) rfl <| zB (pR b) (zC zD) rfl <| zB (zJ p) (zC (zC hb)) rfl <| zB (pR b) (zC zD) rfl <| zB (AV.str s) (zC (zC hb)) rfl <| zO tN ?_; refine zB (pR b) (zC zD) rfl <| zB (AV.str s) (zC (zC hb)) rfl <| zn rfl hc <| zO tN <| zO tN <| zO tN ?_; refine zI (hwd) <| zH <| zB (pR b) (zC zD) rfl <| zp hwo (fun h=>by cases h) <| zF (v:=AV.str t) [AV.str t] zD rfl rfl rfl rfl <| zB (pR b) (zA tA (zC (zA tA (zC zD)))) rfl ?_
  refine zB (zJ e) (zA tA (zC (zE (zC (zC hb))))) rfl <| zB (pR b) (zA tA (zC (zA tA (zC zD)))) rfl <| zB (AV.str s) (zA tA (zC (zE (zC (zC hb))))) rfl <| zP tT <| zB (pR b) (zA tA (zC (zA tA (zC zD)))) rfl <| zB (AV.str s) (zA tA (zC (zE (zC (zC hb))))) rfl ?_; refine zB (pR b) (zA tA (zC (zA tA (zC zD)))) rfl <| zB (zJ e) (zA tA (zC (zE (zC (zC hb))))) rfl <| zn rfl h41 <| zH <| zP (tE (by rfl)) <| zB (AV.str t) (zE zD) rfl ?_
  refine zI (hca _) <| zH <| zG <| zB (AV.str t) (zE zD) rfl <| zI (hpl _) <| zS rfl ?_; refine zS rfl <| zF (v:=ndV n) (AV.cells (ndV n)) zD rfl rfl rfl rfl <| zH <| zB (ndV n) (zE zD) rfl <| zF (v:=ndV n) (AV.cells (ndV n)) (zA tA (zC (zA tA (zC (zA tA zD))))) rfl rfl rfl rfl ?_
  exact z8 (o:=0) (ndV n) (by first | rfl | assumption) rfl rfl (zL (zE (zA tA (zC (zA tA (zC (zA tA zD))))))) rfl rfl rfl (((((((((OldB.start hb).push _).push _).setB _).push _).set tA _).push _).set tA _).set tA _) rfl
theorem prim_plain2 (hF : ∀ b s p d a e H,H[b]? = some (rdB s p d) → C zX (.pan .undef :: [pR b,.int .i64 a,zFX e]) H zFB (H.set b (.box (wkC s)))) (hWd : ∀ c H,C zAU [byV c] H (.bool (z6 c)) H) (hWo : ∀ b s p d H,H[b]? = some (rdB s p d) → p ≤ s.length → s.length ≤ 200 → C zw [pR b] H (.str (sub s p (zCJ s p))) (H.set b (rdB s (zCJ s p) d))) (hPl : ∀ t H,t.length ≤ 1000 → t.head? ≠ some 45 → t.head? ≠ some 35 → C zAZ [.str t] H (zJZ (zMO t)) H)
  (b : Nat) (s : Bs) (p d : Nat) (H : Heap) (hb : H[b]? = some (rdB s p d)) (hp : p ≤ s.length) (hl : s.length ≤ 200) (hd : d ≤ 1000) (c : UInt8) (hc : s[p]? = some c) (hw : z6 c = true) (h41 : ¬ s[zCJ s p]? = some 40) : zCA C GT zy [pR b] H b (wkC s) zFB (mkR s d (zCD s (P s) p d)):=by
 have hbl : b < H.length:=(zg hb).1
 have hlt : p < s.length:=(zg hc).1
 have hwn:=zHm hw
 have n40 : c.toNat ≠ 40:=fun e=>hwn.2.2.2.2 (zM0.1 e)
 have n34 : c.toNat ≠ 34:=fun e=>hwn.2.2.2.1 (zM0.1 e)
 have n35 : c.toNat ≠ 35:=fun e=>hwn.2.2.1 (zM0.1 e)
 have hwd:=hWd c (H ++ [.box [pR b]] ++ [.box (ndC zY)])
 rw [hw] at hwd
 rw [one_word hc hw]
 have hwo:=hWo b s p d (H ++ [.box [pR b]] ++ [.box (ndC zY)]) (zC (zC hb)) hp hl
 have hee : p < zCJ s p:=by rw [zFz hc hw]; have:=zJ7 s (p + 1); omega
 have hel:=zHX hp
 have hth:=zLK (e:=zCJ s p) hc hee
 have htl:=zKC (s:=s) (p:=p) (e:=zCJ s p) hel
 generalize zCJ s p = e at *
 generalize sub s p e = t at *
 have hpl:=fun H'=>hPl t H' tO (by rw [hth]; exact fun x=>hwn.2.1 (zM5 x)) (by rw [hth]; exact fun x=>hwn.2.2.1 (zM5 x))
 have hf:=fun H' h=>hF b s e d p 2 H' h
 clear hF hWd hWo hPl
 refine zAE ?_
 rw [zMe (fun x=>h41 x.2)]
 skip
 cases ha : zMO t with
 | none=>
  rw [ha] at hpl
  have hpl : ∀ H',C zAZ [.str t] H' (.tup [ndV zY,.bool false]) H':=hpl
  have e0 : mkR s d (Option.map (fun n=>(n,e)) none) = none:=rfl
  rw [e0]
  by_cases hlt2 : e < s.length
  ·obtain ⟨x,hx⟩ : ∃ x,s[e]? = some x:=⟨_,zMf hlt2⟩
   have hxn : x.toNat ≠ 40:=fun y=>h41 (by rw [hx,show x = 40 from zM0.1 y])
   refine zD6 (x:=pR b) rfl <| zB (pR b) (zC zD) rfl <| zB (zJ p) (zC (zC hb)) rfl <| zB (pR b) (zC zD) rfl <| zB (AV.str s) (zC (zC hb)) rfl <| zO tN ?_; refine zB (pR b) (zC zD) rfl <| zB (AV.str s) (zC (zC hb)) rfl <| zn rfl hc <| zO tN <| zO tN <| zO tN ?_; refine zI (hwd) <| zH <| zB (pR b) (zC zD) rfl <| zp hwo (fun h=>by cases h) <| zF (v:=AV.str t) [AV.str t] zD rfl rfl rfl rfl <| zB (pR b) (zA tA (zC (zA tA (zC zD)))) rfl ?_
   refine zB (zJ e) (zA tA (zC (zE (zC (zC hb))))) rfl <| zB (pR b) (zA tA (zC (zA tA (zC zD)))) rfl <| zB (AV.str s) (zA tA (zC (zE (zC (zC hb))))) rfl <| zP tT <| zB (pR b) (zA tA (zC (zA tA (zC zD)))) rfl <| zB (AV.str s) (zA tA (zC (zE (zC (zC hb))))) rfl ?_; refine zB (pR b) (zA tA (zC (zA tA (zC zD)))) rfl <| zB (zJ e) (zA tA (zC (zE (zC (zC hb))))) rfl <| zn rfl hx ?_; refine zH <| zO tN <| zG <| zG <| zB (AV.str t) (zE zD) rfl <| zI (hpl _) ?_
   refine zS rfl <| zS rfl <| zF (v:=ndV zY) (AV.cells (ndV zY)) zD rfl rfl rfl rfl <| zG <| zB (pR b) (zA tA (zC (zA tA (zC (zA tA (zC zD)))))) rfl <| zAb (hf _ hP) ?_
   exact zB1 (by first | rfl | assumption) rfl rfl rfl (((((((((OldB.start hb).push _).push _).setB _).push _).set tA _).push _).set tA _).setB _) rfl (by first | exact WkL.refl _ | exact zGA _ _ _) (by first | exact Wk.refl _ | exact zB2 _ _)
  ·refine zD6 (x:=pR b) rfl <| zB (pR b) (zC zD) rfl <| zB (zJ p) (zC (zC hb)) rfl <| zB (pR b) (zC zD) rfl <| zB (AV.str s) (zC (zC hb)) rfl <| zO tN ?_; refine zB (pR b) (zC zD) rfl <| zB (AV.str s) (zC (zC hb)) rfl <| zn rfl hc <| zO tN <| zO tN <| zO tN ?_; refine zI (hwd) <| zH <| zB (pR b) (zC zD) rfl <| zp hwo (fun h=>by cases h) <| zF (v:=AV.str t) [AV.str t] zD rfl rfl rfl rfl <| zB (pR b) (zA tA (zC (zA tA (zC zD)))) rfl ?_
   refine zB (zJ e) (zA tA (zC (zE (zC (zC hb))))) rfl <| zB (pR b) (zA tA (zC (zA tA (zC zD)))) rfl <| zB (AV.str s) (zA tA (zC (zE (zC (zC hb))))) rfl ?_; refine zO tF <| zG <| zG <| zG <| zG <| zB (AV.str t) (zE zD) rfl ?_; refine zI (hpl _) <| zS rfl <| zS rfl <| zF (v:=ndV zY) (AV.cells (ndV zY)) zD rfl rfl rfl rfl <| zG <| zB (pR b) (zA tA (zC (zA tA (zC (zA tA (zC zD)))))) rfl ?_; refine zAb (hf _ hP) ?_
   exact zB1 (by first | rfl | assumption) rfl rfl rfl (((((((((OldB.start hb).push _).push _).setB _).push _).set tA _).push _).set tA _).setB _) rfl (by first | exact WkL.refl _ | exact zGA _ _ _) (by first | exact Wk.refl _ | exact zB2 _ _)
 | some n=>
  rw [ha] at hpl
  have hpl : ∀ H',C zAZ [.str t] H' (.tup [ndV n,.bool true]) H':=hpl
  have e0 : mkR s d (Option.map (fun n=>(n,e)) (some n)) = some (ndV n,rdB s e d):=rfl
  rw [e0]
  by_cases hlt2 : e < s.length
  ·obtain ⟨x,hx⟩ : ∃ x,s[e]? = some x:=⟨_,zMf hlt2⟩
   have hxn : x.toNat ≠ 40:=fun y=>h41 (by rw [hx,show x = 40 from zM0.1 y])
   refine zD6 (x:=pR b) rfl <| zB (pR b) (zC zD) rfl <| zB (zJ p) (zC (zC hb)) rfl <| zB (pR b) (zC zD) rfl <| zB (AV.str s) (zC (zC hb)) rfl <| zO tN ?_; refine zB (pR b) (zC zD) rfl <| zB (AV.str s) (zC (zC hb)) rfl <| zn rfl hc <| zO tN <| zO tN <| zO tN ?_; refine zI (hwd) <| zH <| zB (pR b) (zC zD) rfl <| zp hwo (fun h=>by cases h) <| zF (v:=AV.str t) [AV.str t] zD rfl rfl rfl rfl <| zB (pR b) (zA tA (zC (zA tA (zC zD)))) rfl ?_
   refine zB (zJ e) (zA tA (zC (zE (zC (zC hb))))) rfl <| zB (pR b) (zA tA (zC (zA tA (zC zD)))) rfl <| zB (AV.str s) (zA tA (zC (zE (zC (zC hb))))) rfl <| zP tT <| zB (pR b) (zA tA (zC (zA tA (zC zD)))) rfl <| zB (AV.str s) (zA tA (zC (zE (zC (zC hb))))) rfl ?_; refine zB (pR b) (zA tA (zC (zA tA (zC zD)))) rfl <| zB (zJ e) (zA tA (zC (zE (zC (zC hb))))) rfl <| zn rfl hx ?_; refine zH <| zO tN <| zG <| zG <| zB (AV.str t) (zE zD) rfl <| zI (hpl _) ?_
   refine zS rfl <| zS rfl <| zF (v:=ndV n) (AV.cells (ndV n)) zD rfl rfl rfl rfl <| zH <| zB (ndV n) (zE zD) rfl <| zF (v:=ndV n) (AV.cells (ndV n)) (zA tA (zC (zA tA (zC (zA tA zD))))) rfl rfl rfl rfl ?_
   exact z8 (o:=0) (ndV n) (by first | rfl | assumption) rfl rfl (zL (zE (zA tA (zC (zA tA (zC (zA tA zD))))))) rfl rfl rfl (((((((((OldB.start hb).push _).push _).setB _).push _).set tA _).push _).set tA _).set tA _) rfl
  ·refine zD6 (x:=pR b) rfl <| zB (pR b) (zC zD) rfl <| zB (zJ p) (zC (zC hb)) rfl <| zB (pR b) (zC zD) rfl <| zB (AV.str s) (zC (zC hb)) rfl <| zO tN ?_; refine zB (pR b) (zC zD) rfl <| zB (AV.str s) (zC (zC hb)) rfl <| zn rfl hc <| zO tN <| zO tN <| zO tN ?_; refine zI (hwd) <| zH <| zB (pR b) (zC zD) rfl <| zp hwo (fun h=>by cases h) <| zF (v:=AV.str t) [AV.str t] zD rfl rfl rfl rfl <| zB (pR b) (zA tA (zC (zA tA (zC zD)))) rfl ?_
   refine zB (zJ e) (zA tA (zC (zE (zC (zC hb))))) rfl <| zB (pR b) (zA tA (zC (zA tA (zC zD)))) rfl <| zB (AV.str s) (zA tA (zC (zE (zC (zC hb))))) rfl ?_; refine zO tF <| zG <| zG <| zG <| zG <| zB (AV.str t) (zE zD) rfl ?_; refine zI (hpl _) <| zS rfl <| zS rfl <| zF (v:=ndV n) (AV.cells (ndV n)) zD rfl rfl rfl rfl <| zH <| zB (ndV n) (zE zD) rfl ?_; refine zF (v:=ndV n) (AV.cells (ndV n)) (zA tA (zC (zA tA (zC (zA tA zD))))) rfl rfl rfl rfl ?_
   exact z8 (o:=0) (ndV n) (by first | rfl | assumption) rfl rfl (zL (zE (zA tA (zC (zA tA (zC (zA tA zD))))))) rfl rfl rfl (((((((((OldB.start hb).push _).push _).setB _).push _).set tA _).push _).set tA _).set tA _) rfl
end
end Go.AM
