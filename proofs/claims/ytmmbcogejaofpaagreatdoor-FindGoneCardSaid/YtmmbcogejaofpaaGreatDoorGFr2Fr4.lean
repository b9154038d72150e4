/- Several texts of mine in one (Fr2, Fr3, Fp3, Fr4). Own work. -/
import Derived.Test.YtmmbcogejaofpaaGreatDoorGPreFr1
set_option linter.all false
set_option maxRecDepth 20000
namespace Go.AM
def callS (s t : Bs) (e d : Nat) : Option (Nd × Nat):=match tok s (e + 1) with
 | .sign e2 [41]=>some (zGJ t [],e2)
 | _=>(P s).args t [] (e + 1) d
def parS (s : Bs) (p d : Nat) : Option (Nd × Nat):=((P s).loose 1 (p + 1) d).bind fun q=>match tok s q.2 with
 | .sign e2 [41]=>some (q.1,e2)
 | _=>none
def twS (s : Bs) (l p d : Nat) : Option (Nd × Nat):=if l = 4 then (P s).one p d else bl s ((P s).loose (l + 1) p d)
theorem Owns.notBox {H0 H : Heap} {v : AV} {k c : Nat} {xs cs : List AV} (h : Owns H0 H v k xs) (hc : H[c]? = some (.box cs)) : v.blk ≠ some c:=by
 rcases h with ⟨rfl,_⟩ | ⟨b',rfl,h1,h2,h3⟩
 ·intro e; cases e
 ·intro e
  simp only [AV.blk,Option.some.injEq] at e
  subst e
  rw [h2] at hc; cases hc
theorem Owns.base {H0 H0' H : Heap} {v : AV} {k : Nat} {xs : List AV} (h : Owns H0 H v k xs) (e : H0'.length = H0.length) : Owns H0' H v k xs:=by
 rcases h with h | ⟨b',h0,h1,h2⟩
 ·exact .inl h
 ·exact .inr ⟨b',h0,by rw [e]; exact h1,h2⟩
theorem quo_end {r : Bs} {i : Nat} (h : r.head? ≠ some 34) : quo (34 :: r) i = some ([],i + 1):=by
 cases r with
 | nil=>simp [quo]
 | cons d r=>
  simp only [quo,if_true]
  rw [if_neg (fun e=>h (by rw [e]; rfl))]
theorem quo_dbl {r : Bs} {i : Nat} : quo (34 :: 34 :: r) i = (quo r (i + 2)).map fun p=>(34 :: p.1,p.2):=by simp only [quo,if_true]
theorem quo_chr {c : UInt8} {r : Bs} {i : Nat} (h : c ≠ 34) : quo (c :: r) i = (quo r (i + 1)).map fun p=>(c :: p.1,p.2):=by
 cases r with
 | nil=>simp [quo,h]
 | cons d r=>simp only [quo]; rw [if_neg h]
structure TSt where
 k : Nat
 v : AV
 acc : Bs
def paren (s : Bs) (q : Nat) : Option Nat:=if s[skip s q]? = some 41 then some (skip s q + 1) else none
theorem wordly_par {c : UInt8} (h : c.toNat = 41 ∨ c.toNat = 44 ∨ c.toNat = 40 ∨ c.toNat = 45) : zn c = false:=by
 have e : ∀ n : Fin 256,(n.val = 41 ∨ n.val = 44 ∨ n.val = 40 ∨ n.val = 45) → zn (UInt8.ofNat n.val) = false:=by decide +kernel
 have:=e ⟨c.toNat,UInt8.toNat_lt c⟩ h
 simpa using this
theorem zDf {s : Bs} {p : Nat} {c : UInt8} (h : s[skip s p]? = some c) (hc : c.toNat = 41 ∨ c.toNat = 44 ∨ c.toNat = 40 ∨ c.toNat = 45) : tok s p = .sign (skip s p + 1) [c]:=by
 have hw:=wordly_par hc
 have n1 : c ≠ 34:=fun e=>by subst e; revert hc; decide
 have n2 : c ≠ 35:=fun e=>by subst e; revert hc; decide
 have n3 : c ≠ 60:=fun e=>by subst e; revert hc; decide
 have n4 : c ≠ 62:=fun e=>by subst e; revert hc; decide
 unfold tok zCp
 rw [h]
 simp only [hw,Bool.false_eq_true,if_false,n1,n2]
 split
 ·rw [if_neg (by rintro (⟨e,_⟩ | ⟨e,_⟩ | ⟨e,_⟩); exact n3 e; exact n3 e; exact n4 e)]
 ·rfl
theorem zDz {s : Bs} {p e : Nat} {c : UInt8} (h : tok s p = .sign e [c]) : s[skip s p]? = some c ∧ e = skip s p + 1:=by
 unfold tok zCp at h
 split at h
 ·cases h
 ·rename_i x hx
  split at h
  ·cases h
  ·split at h
   ·split at h <;> cases h
   ·split at h
    ·split at h <;> cases h
    ·split at h
     ·split at h
      ·cases h
      ·cases h; exact ⟨hx,rfl⟩
     ·cases h; exact ⟨hx,rfl⟩
theorem parS_is (s : Bs) (p d : Nat) : parS s p d = ((P s).loose 1 (p + 1) d).bind fun q=>(paren s q.2).map fun e=>(q.1,e):=by
 unfold parS
 refine zBf rfl fun q _=>?_
 unfold paren
 by_cases h : s[skip s q.2]? = some 41
 ·rw [zDf h (.inl rfl),if_pos h]; rfl
 ·rw [if_neg h]
  split
  ·rename_i e2 hk
   exact absurd (zDz hk).1 h
  ·rfl
section
variable {C : CSpec} {GT : Nat → Option AV}
theorem text_ev (hF : ∀ b s p d a e H,H[b]? = some (rdB s p d) → C zK (.pan .undef :: [pR b,.int .i64 a,zD6 e]) H zC3 (H.set b (.box (wkC s))))
  (b : Nat) (s : Bs) (p d : Nat) (H : Heap) (hb : H[b]? = some (rdB s p d)) (hp : p < s.length) (hl : s.length ≤ 200) :
  zCL C GT zBF [pR b] H b (wkC s) zC3 (mkR s d ((quo (s.drop (p + 1)) (p + 1)).map fun q=>(txtN q.1,q.2))):=by
 have hbl : b < H.length:=(zg hb).1
 obtain ⟨r,hr⟩ : ∃ r,quo (s.drop (p + 1)) (p + 1) = r:=⟨_,rfl⟩
 rw [hr]
 refine zx ?_; refine zC (zP p) (zA hb) rfl <| zC (zP p) (zA hb) rfl <| zb (r:=p + 1) rfl tO <| zG (v:=.int .i64 ↑(p + 1)) [AV.str s,.int .i64 ↑(p + 1),zP d] (zA hb) rfl rfl rfl rfl ?_; refine zCI (fun t : TSt=>[(2,pR H.length),(4,t.v),(0,pR b),(3,zP p)])
  (fun t H'=>Owns (H.set b (rdB s t.k d)) H' t.v 1 (t.acc.map zAS) ∧ OldB H b (rdB s t.k d) H' ∧ H'[b]? = some (rdB s t.k d) ∧ H'[H.length]? = some (.box (ndC zo)) ∧ t.k ≤ s.length ∧ t.acc.length ≤ t.k ∧ (quo (s.drop t.k) t.k).map (fun q=>(t.acc ++ q.1,q.2)) = r)
  (fun t=>s.length - t.k) ⟨p + 1,.lst (some true) 0 [],[]⟩ rfl ⟨.inl ⟨rfl,rfl⟩,(OldB.start hb).push _ |>.setB _,zE (zA hb),zB tO zD,by simp only; omega,by simp,by simp only [List.nil_append]; rw [hr]; cases r <;> rfl⟩ (fun ⟨k,v,acc⟩ H1 ⟨how,hob,hb1,h2,hk,hal,hq⟩=>?_)
 dsimp only at how hob hb1 h2 hk hal hq ⊢
 have hlen1:=hob.old.1
 rw [List.length_set] at hlen1
 by_cases hlt : k < s.length
 case neg=>
  have e : r = none:=by rw [← hq,List.drop_eq_nil_of_le tO]; rfl
  subst e
  have e0 : mkR s d (Option.map (fun q : Bs × Nat=>(txtN q.1,q.2)) none) = none:=rfl
  rw [e0]
  have hf:=hF b s k d p 2 H1 hb1
  clear hF
  refine zC (zP k) hb1 rfl <| zC (AV.str s) hb1 rfl <| zV tF <| zy hf ?_
  exact zA3 (by first | rfl | assumption) rfl rfl rfl (hob.setB _) rfl (by first | exact WkL.refl _ | exact zDj _ _ _) (by first | exact Wk.refl _ | exact zA4 _ _)
 obtain ⟨c,hc⟩ : ∃ c,s[k]? = some c:=⟨_,List.getElem?_eq_getElem hlt⟩
 rw [zBZ hc] at hq
 by_cases h34 : c = 34
 ·subst h34
  by_cases hend : k + 1 < s.length ∧ s[k + 1]? = some 34
  ·obtain ⟨hlt2,hc2⟩:=hend
   rw [zBZ hc2,quo_dbl,Option.map_map] at hq
   refine zC (zP k) hb1 rfl <| zC (AV.str s) hb1 rfl <| za tT <| zC (AV.str s) hb1 rfl <| zC (zP k) hb1 rfl <| zBB rfl hc ?_; refine za (tE (by rfl)) <| zC (zP k) hb1 rfl <| zb (r:=k + 1) rfl tO <| zG (v:=.int .i64 ↑(k + 1)) [AV.str s,.int .i64 ↑(k + 1),zP d] hb1 rfl rfl rfl rfl <| zC (.int .i64 ↑(k + 1)) (zE hb1) rfl <| zC (AV.str s) (zE hb1) rfl ?_; refine zV tN <| zC (AV.str s) (zE hb1) rfl <| zC (.int .i64 ↑(k + 1)) (zE hb1) rfl <| zBB rfl hc2 <| zF <| zV (bne_eq_false_iff_eq.2 (by rfl)) ?_
   refine zC (AV.str s) (zE hb1) rfl <| zC (.int .i64 ↑(k + 1)) (zE hb1) rfl <| zBB rfl hc2 <| zAv (vs':=[zAS 34]) rfl rfl ?_
   have hob2:=hob.setB (rdB s (k + 1) d)
   refine zB5 (H0:=H.set b (rdB s (k + 1) d)) (((how.set (how.notBox hb1) _).base (by simp)).push _) (hob2.old.push _) zAt tO (by simp only [List.length_map,List.length_cons,List.length_nil]; omega) (by simp) fun v' H' ho' hH' hb' hf=>?_
   have hx1:=hf b _ (how.notBox hb1) (zA (zE hb1))
   have hx2:=hf H.length _ (how.notBox h2) (zA (zB tO h2))
   refine zC (.int .i64 ↑(k + 1)) hx1 rfl <| zb (r:=k + 2) tO tO <| zG (v:=.int .i64 ↑(k + 2)) [AV.str s,.int .i64 ↑(k + 2),zP d] hx1 rfl rfl rfl rfl ?_; refine zAf (TSt.mk (k + 2) v' (acc ++ [34])) rfl ⟨(((by rw [List.map_append]; exact ho' : Owns _ _ _ _ _).set (ho'.notBox hx1) _).base (by simp)),(OldB.mk hbl hH').setB _,zE hx1,zB tO hx2,by simp only; omega,by simp only [List.length_append,List.length_cons,List.length_nil]; omega, ?_⟩ (by simp only; omega)
   rw [← hq]
   simp only [List.append_assoc,List.singleton_append]
   rfl
  ·rw [quo_end (by
    intro e
    have hlt2 : k + 1 < s.length:=by
     rcases Nat.lt_or_ge (k + 1) s.length with h | h
     ·exact h
     ·rw [List.drop_eq_nil_of_le h] at e; cases e
    refine hend ⟨hlt2, ?_⟩
    rw [List.head?_drop] at e
    exact e)] at hq
   subst hq
   have e0 : mkR s d (Option.map (fun q : Bs × Nat=>(txtN q.1,q.2)) (Option.map (fun q : Bs × Nat=>(acc ++ q.1,q.2)) (some ([],k + 1)))) = some (ndV (txtN acc),rdB s (k + 1) d):=by simp [mkR]
   rw [e0]
   by_cases hlt2 : k + 1 < s.length
   ·obtain ⟨c2,hc2⟩ : ∃ c,s[k + 1]? = some c:=⟨_,List.getElem?_eq_getElem hlt2⟩
    have hn : c2.toNat ≠ 34:=fun e=>hend ⟨hlt2,by rw [hc2,show c2 = 34 from UInt8.toNat_inj.1 e]⟩
    refine zC (zP k) hb1 rfl <| zC (AV.str s) hb1 rfl <| za tT <| zC (AV.str s) hb1 rfl <| zC (zP k) hb1 rfl <| zBB rfl hc ?_; refine za (tE (by rfl)) <| zC (zP k) hb1 rfl <| zb (r:=k + 1) rfl tO <| zG (v:=.int .i64 ↑(k + 1)) [AV.str s,.int .i64 ↑(k + 1),zP d] hb1 rfl rfl rfl rfl <| zC (.int .i64 ↑(k + 1)) (zE hb1) rfl <| zC (AV.str s) (zE hb1) rfl ?_; refine zV tN <| zC (AV.str s) (zE hb1) rfl <| zC (.int .i64 ↑(k + 1)) (zE hb1) rfl <| zBB rfl hc2 <| zF <| za (bne_iff_ne.2 tO) ?_
    refine sBytesStr (how.set (how.notBox hb1) _) <| zT (v:=[.int .i64 2,.int .i64 0,AV.str acc,.int .i64 0,.int .i64 0,AV.bool false,AV.bool false,.int .i64 0,.int .i64 0,AV.bool false,AV.bool false,AV.lst (some true) 0 []]) rfl <| zG (v:=AV.agg [.int .i64 2,.int .i64 0,AV.str acc,.int .i64 0,.int .i64 0,AV.bool false,AV.bool false,.int .i64 0,.int .i64 0,AV.bool false,AV.bool false,AV.lst (some true) 0 []]) (AV.cells (AV.agg [.int .i64 2,.int .i64 0,AV.str acc,.int .i64 0,.int .i64 0,AV.bool false,AV.bool false,.int .i64 0,.int .i64 0,AV.bool false,AV.bool false,AV.lst (some true) 0 []])) (zB tA h2) rfl rfl rfl rfl ?_
    exact zA2 (o:=0) (ndV (txtN acc)) rfl rfl rfl (zQ (zE (zB tO h2))) rfl rfl rfl ((hob.setB _).set (Nat.le_refl _) _) rfl
   ·refine zC (zP k) hb1 rfl <| zC (AV.str s) hb1 rfl <| za tT <| zC (AV.str s) hb1 rfl <| zC (zP k) hb1 rfl <| zBB rfl hc ?_; refine za (tE (by rfl)) <| zC (zP k) hb1 rfl <| zb (r:=k + 1) rfl tO <| zG (v:=.int .i64 ↑(k + 1)) [AV.str s,.int .i64 ↑(k + 1),zP d] hb1 rfl rfl rfl rfl <| zC (.int .i64 ↑(k + 1)) (zE hb1) rfl <| zC (AV.str s) (zE hb1) rfl ?_; refine za tT <| zH <| zH <| sBytesStr (how.set (how.notBox hb1) _) <| zT (v:=[.int .i64 2,.int .i64 0,AV.str acc,.int .i64 0,.int .i64 0,AV.bool false,AV.bool false,.int .i64 0,.int .i64 0,AV.bool false,AV.bool false,AV.lst (some true) 0 []]) rfl <| zG (v:=AV.agg [.int .i64 2,.int .i64 0,AV.str acc,.int .i64 0,.int .i64 0,AV.bool false,AV.bool false,.int .i64 0,.int .i64 0,AV.bool false,AV.bool false,AV.lst (some true) 0 []]) (AV.cells (AV.agg [.int .i64 2,.int .i64 0,AV.str acc,.int .i64 0,.int .i64 0,AV.bool false,AV.bool false,.int .i64 0,.int .i64 0,AV.bool false,AV.bool false,AV.lst (some true) 0 []])) (zB tA h2) rfl rfl rfl rfl ?_
    exact zA2 (o:=0) (ndV (txtN acc)) rfl rfl rfl (zQ (zE (zB tO h2))) rfl rfl rfl ((hob.setB _).set (Nat.le_refl _) _) rfl
 ·have hn : c.toNat ≠ 34:=fun e=>h34 (UInt8.toNat_inj.1 e)
  rw [quo_chr h34,Option.map_map] at hq
  refine zC (zP k) hb1 rfl <| zC (AV.str s) hb1 rfl <| za tT <| zC (AV.str s) hb1 rfl <| zC (zP k) hb1 rfl <| zBB rfl hc ?_; refine zV tN <| zC (AV.str s) hb1 rfl <| zC (zP k) hb1 rfl <| zBB rfl hc <| zAv (vs':=[zAS c]) rfl rfl ?_; refine zB5 (H0:=H.set b (rdB s k d)) (how.push _) (hob.old.push _) zAt tO (by simp only [List.length_map,List.length_cons,List.length_nil]; omega) (by simp) fun v' H' ho' hH' hb' hf=>?_
  have hx1:=hf b _ (how.notBox hb1) (zA hb1)
  have hx2:=hf H.length _ (how.notBox h2) (zA h2)
  refine zC (zP k) hx1 rfl <| zb (r:=k + 1) tO tO <| zG (v:=.int .i64 ↑(k + 1)) [AV.str s,.int .i64 ↑(k + 1),zP d] hx1 rfl rfl rfl rfl ?_; refine zAf (TSt.mk (k + 1) v' (acc ++ [c])) rfl ⟨(((by rw [List.map_append]; exact ho' : Owns _ _ _ _ _).set (ho'.notBox hx1) _).base (by simp)),(OldB.mk hbl hH').setB _,zE hx1,zB tO hx2,by simp only; omega,by simp only [List.length_append,List.length_cons,List.length_nil]; omega, ?_⟩ (by simp only; omega)
  rw [← hq]
  simp only [List.append_assoc,List.singleton_append]
  rfl
end
end Go.AM
set_option maxRecDepth 20000
namespace Go.AM
theorem litP_word {t : Bs} (h : t.head? ≠ some 35) : litP t = if t = trueW then some (3,1) else if t = zH2 then some (3,0) else none:=by
 unfold litP
 by_cases h1 : t = trueW
 ·rw [if_pos h1,if_pos h1]
 ·rw [if_neg h1,if_neg h1]
  by_cases h2 : t = zH2
  ·rw [if_pos h2,if_pos h2]
  ·rw [if_neg h2,if_neg h2]
   rw [if_neg (fun e=>h (by rw [e]; rfl)),if_neg (fun e=>h (by rw [e]; rfl)),if_neg (fun e=>h (by rw [e]; rfl)),if_neg (fun e=>h (by rw [e]; rfl)),if_neg (fun e=>h (by rw [e]; rfl)),if_neg (fun e=>h (by rw [e]; rfl))]
section
variable {C : CSpec} {GT : Nat → Option AV}
theorem plain_ev (hW : ∀ s H,s.length ≤ 1000 → ∃ n0,C zA7 [.str s] H (wholeV (wholeS s) n0) H) (hL : ∀ s H,C zj [.str s] H (litV (litP s)) H) (hR : ∀ s H,s.length ≤ 1000 → C zAU [.str s] H (refV (refP s)) H)
  (t : Bs) (H : Heap) (hl : t.length ≤ 1000) (h45 : t.head? ≠ some 45) (h35 : t.head? ≠ some 35) : EFun C GT zCd [.str t] H (zF1 (atomP t)) H:=by
 have hw:=hW t (H ++ [ABlk.box (ndC zo)]) hl
 have hlit:=hL t (H ++ [ABlk.box (ndC zo)])
 have hr:=fun H=>hR t H hl
 clear hW hL hR
 rw [wholeS_of h45] at hw
 rw [litP_word h35] at hlit
 refine ze ?_
 unfold atomP
 cases hwp : zGe t with
 | some n=>
  rw [hwp] at hw
  obtain ⟨n0,hw⟩:=hw
  have hw : C zA7 [.str t] (H ++ [ABlk.box (ndC zo)]) (.tup [zf n,.bool true]) (H ++ [ABlk.box (ndC zo)]):=hw
  have e : zF1 (some (numN n)) = .tup [ndV (numN n),.bool true]:=rfl
  simp only
  rw [e]
  refine zI (hw) <| zT rfl <| zT rfl <| zH <| zT (v:=[.int .i64 1,zf n,AV.str [],.int .i64 0,.int .i64 0,AV.bool false,AV.bool false,.int .i64 0,.int .i64 0,AV.bool false,AV.bool false,AV.lst (some true) 0 []]) rfl <| zG (v:=AV.agg [.int .i64 1,zf n,AV.str [],.int .i64 0,.int .i64 0,AV.bool false,AV.bool false,.int .i64 0,.int .i64 0,AV.bool false,AV.bool false,AV.lst (some true) 0 []]) (AV.cells (AV.agg [.int .i64 1,zf n,AV.str [],.int .i64 0,.int .i64 0,AV.bool false,AV.bool false,.int .i64 0,.int .i64 0,AV.bool false,AV.bool false,AV.lst (some true) 0 []])) zD rfl rfl rfl rfl ?_
  exact zAD (o:=0) rfl rfl (zQ (zE zD)) rfl rfl rfl rfl (((Old.refl _).push _).set tA _)
 | none=>
  rw [hwp] at hw
  obtain ⟨n0,hw⟩:=hw
  have hw : C zA7 [.str t] (H ++ [ABlk.box (ndC zo)]) (.tup [zf n0,.bool false]) (H ++ [ABlk.box (ndC zo)]):=hw
  simp only
  by_cases h1 : t = trueW
  ·rw [if_pos h1] at hlit ⊢
   have hlit : C zj [.str t] (H ++ [ABlk.box (ndC zo)]) (.tup [v3 3 1,.bool true]) (H ++ [ABlk.box (ndC zo)]):=hlit
   have e : zF1 (some (truN true)) = .tup [ndV (truN true),.bool true]:=rfl
   rw [e]
   clear hr
   refine zI (hw) <| zT rfl <| zT rfl <| zF <| zI (hlit) <| zT rfl ?_; refine zT rfl <| zG (v:=v3 3 1) (AV.cells (v3 3 1)) zD rfl rfl rfl rfl <| zH <| zC (.int .i64 1) (zE zD) rfl <| zT (v:=[.int .i64 3,.int .i64 1,AV.str [],.int .i64 0,.int .i64 0,AV.bool false,AV.bool false,.int .i64 0,.int .i64 0,AV.bool false,AV.bool false,AV.lst (some true) 0 []]) rfl <| zG (v:=AV.agg [.int .i64 3,.int .i64 1,AV.str [],.int .i64 0,.int .i64 0,AV.bool false,AV.bool false,.int .i64 0,.int .i64 0,AV.bool false,AV.bool false,AV.lst (some true) 0 []]) (AV.cells (AV.agg [.int .i64 3,.int .i64 1,AV.str [],.int .i64 0,.int .i64 0,AV.bool false,AV.bool false,.int .i64 0,.int .i64 0,AV.bool false,AV.bool false,AV.lst (some true) 0 []])) (zB tA (zA zD)) rfl rfl rfl rfl ?_
   exact zAD (o:=0) rfl rfl (zQ (zE (zB tA (zA zD)))) rfl rfl rfl rfl (((((Old.refl _).push _).push _).set tA _).set tA _)
  rw [if_neg h1] at hlit ⊢
  by_cases h2 : t = zH2
  ·rw [if_pos h2] at hlit ⊢
   have hlit : C zj [.str t] (H ++ [ABlk.box (ndC zo)]) (.tup [v3 3 0,.bool true]) (H ++ [ABlk.box (ndC zo)]):=hlit
   have e : zF1 (some (truN false)) = .tup [ndV (truN false),.bool true]:=rfl
   rw [e]
   clear hr
   refine zI (hw) <| zT rfl <| zT rfl <| zF <| zI (hlit) <| zT rfl ?_; refine zT rfl <| zG (v:=v3 3 0) (AV.cells (v3 3 0)) zD rfl rfl rfl rfl <| zH <| zC (.int .i64 0) (zE zD) rfl <| zT (v:=[.int .i64 3,.int .i64 0,AV.str [],.int .i64 0,.int .i64 0,AV.bool false,AV.bool false,.int .i64 0,.int .i64 0,AV.bool false,AV.bool false,AV.lst (some true) 0 []]) rfl <| zG (v:=AV.agg [.int .i64 3,.int .i64 0,AV.str [],.int .i64 0,.int .i64 0,AV.bool false,AV.bool false,.int .i64 0,.int .i64 0,AV.bool false,AV.bool false,AV.lst (some true) 0 []]) (AV.cells (AV.agg [.int .i64 3,.int .i64 0,AV.str [],.int .i64 0,.int .i64 0,AV.bool false,AV.bool false,.int .i64 0,.int .i64 0,AV.bool false,AV.bool false,AV.lst (some true) 0 []])) (zB tA (zA zD)) rfl rfl rfl rfl ?_
   exact zAD (o:=0) rfl rfl (zQ (zE (zB tA (zA zD)))) rfl rfl rfl rfl (((((Old.refl _).push _).push _).set tA _).set tA _)
  rw [if_neg h2] at hlit ⊢
  have hlit : C zj [.str t] (H ++ [ABlk.box (ndC zo)]) (.tup [v3 0 0,.bool false]) (H ++ [ABlk.box (ndC zo)]):=hlit
  cases hrp : refP t with
  | some r=>
   rw [hrp] at hr
   have hr : ∀ H,C zAU [.str t] H (.tup [rV r,.nili]) H:=hr
   have e : zF1 (Option.map refN (some r)) = .tup [ndV (refN r),.bool true]:=rfl
   rw [e]
   refine zI (hw) <| zT rfl <| zT rfl <| zF <| zI (hlit) <| zT rfl ?_; refine zT rfl <| zG (v:=v3 0 0) (AV.cells (v3 0 0)) zD rfl rfl rfl rfl <| zF <| zI (hr _) <| zT rfl <| zT rfl ?_; refine zG (v:=rV r) (AV.cells (rV r)) zD rfl rfl rfl rfl <| zT rfl <| zH <| zC (rV r) (zE zD) rfl <| zT (v:=[.int .i64 5,.int .i64 0,AV.str [],.int .i64 r.col,.int .i64 r.row,AV.bool r.fc,AV.bool r.fr,.int .i64 0,.int .i64 0,AV.bool false,AV.bool false,AV.lst (some true) 0 []]) rfl <| zG (v:=AV.agg [.int .i64 5,.int .i64 0,AV.str [],.int .i64 r.col,.int .i64 r.row,AV.bool r.fc,AV.bool r.fr,.int .i64 0,.int .i64 0,AV.bool false,AV.bool false,AV.lst (some true) 0 []]) (AV.cells (AV.agg [.int .i64 5,.int .i64 0,AV.str [],.int .i64 r.col,.int .i64 r.row,AV.bool r.fc,AV.bool r.fr,.int .i64 0,.int .i64 0,AV.bool false,AV.bool false,AV.lst (some true) 0 []])) (zB tA (zA (zB tA (zA zD)))) rfl rfl rfl rfl ?_
   exact zAD (o:=0) rfl rfl (zQ (zE (zB tA (zA (zB tA (zA zD)))))) rfl rfl rfl rfl (((((((Old.refl _).push _).push _).set tA _).push _).set tA _).set tA _)
  | none=>
   rw [hrp] at hr
   have hr : ∀ H,C zAU [.str t] H (.tup [rV noRef,zD6 2]) H:=hr
   have e : zF1 (Option.map refN none) = .tup [ndV zo,.bool false]:=rfl
   rw [e]
   refine zI (hw) <| zT rfl <| zT rfl <| zF <| zI (hlit) <| zT rfl ?_; refine zT rfl <| zG (v:=v3 0 0) (AV.cells (v3 0 0)) zD rfl rfl rfl rfl <| zF <| zI (hr _) <| zT rfl <| zT rfl ?_; refine zG (v:=rV noRef) (AV.cells (rV noRef)) zD rfl rfl rfl rfl <| zT rfl <| zF <| zT (v:=[.int .i64 0,.int .i64 0,AV.str [],.int .i64 0,.int .i64 0,AV.bool false,AV.bool false,.int .i64 0,.int .i64 0,AV.bool false,AV.bool false,AV.lst (some true) 0 []]) rfl <| zG (v:=AV.agg [.int .i64 0,.int .i64 0,AV.str [],.int .i64 0,.int .i64 0,AV.bool false,AV.bool false,.int .i64 0,.int .i64 0,AV.bool false,AV.bool false,AV.lst (some true) 0 []]) (AV.cells (AV.agg [.int .i64 0,.int .i64 0,AV.str [],.int .i64 0,.int .i64 0,AV.bool false,AV.bool false,.int .i64 0,.int .i64 0,AV.bool false,AV.bool false,AV.lst (some true) 0 []])) (zB tA (zA (zB tA (zA zD)))) rfl rfl rfl rfl ?_
   exact zAD (o:=0) rfl rfl (zQ (zE (zB tA (zA (zB tA (zA zD)))))) rfl rfl rfl rfl (((((((Old.refl _).push _).push _).set tA _).push _).set tA _).set tA _)
theorem par_ev (hWt : ∀ c b s p d H,H[b]? = some (rdB s p d) → p ≤ s.length → s.length ≤ 200 → (s[skip s p]? = some c → C zX [pR b,byV c] H (.tup []) (H.set b (rdB s (skip s p + 1) d))) ∧ (s[skip s p]? ≠ some c → C zX (.pan .undef :: [pR b,byV c]) H zC3 (H.set b (.box (wkC s)))))
  (b rb : Nat) (s : Bs) (p d : Nat) (H : Heap) (hb : H[b]? = some (rdB s p d)) (hr : H[rb]? = some (.box [pR b])) (hp : p < s.length) (hl : s.length ≤ 200)
  (hT : ∀ H',H'[b]? = some (rdB s (p + 1) d) → CR C zN [pR b,zf 0] H' b s d (bl s ((P s).loose 1 (p + 1) d))) :
  zCL C GT zAo [pR rb] H b (wkC s) zC3 (mkR s d (parS s p d)):=by
 have hbl : b < H.length:=(zg hb).1
 have hne : rb ≠ b:=fun e=>by rw [e,hb] at hr; cases hr
 have hrl : rb < H.length:=(zg hr).1
 rw [parS_is]
 have hends : ∀ q,(P s).loose 1 (p + 1) d = some q → q.2 ≤ s.length:=fun q hq=>((zCO s).loose 1 (p + 1) d q tO hq).2
 generalize (P s).loose 1 (p + 1) d = r at *
 refine zx ?_
 cases r with
 | none=>
  have hc:=fun H' h1=>(hT H' h1).2 rfl
  clear hT hWt
  have e : mkR s d (Option.bind none fun q : Nd × Nat=>(paren s q.2).map fun e=>(q.1,e)) = none:=rfl
  rw [e]
  refine zC (pR b) (zA hr) rfl <| zC (zP p) (zA hb) rfl <| zb (r:=p + 1) rfl tO <| zG (v:=.int .i64 ↑(p + 1)) [AV.str s,.int .i64 ↑(p + 1),zP d] (zA hb) rfl rfl rfl rfl <| zC (pR b) (zB tA (zA hr)) rfl <| zy (hc _ (zE (zA hb))) ?_
  exact zA3 (by first | rfl | assumption) rfl rfl rfl ((((OldB.start hb).push _).setB _).setB _) rfl (by first | exact WkL.refl _ | exact zDj _ _ _) (by first | exact Wk.refl _ | exact zA4 _ _)
 | some p'=>
  obtain ⟨n,e⟩:=p'
  have hel:=zA1 (hends _ rfl)
  have hc:=fun H' h1=>(hT H' h1).1 n (skip s e) rfl
  have hww:=fun H' h=>hWt 41 b s (skip s e) d H' h hel hl
  rw [zCe] at hww
  clear hT hWt
  have e0 : (Option.bind (some (n,e)) fun q : Nd × Nat=>(paren s q.2).map fun e=>(q.1,e)) = (paren s e).map fun e=>(n,e):=rfl
  rw [e0]
  unfold paren
  by_cases h41 : s[skip s e]? = some 41
  ·have hwn:=fun H' h=>(hww H' h).1 h41
   clear hww
   rw [if_pos h41]
   have e1 : mkR s d (Option.map (fun e=>(n,e)) (some (skip s e + 1))) = some (ndV n,rdB s (skip s e + 1) d):=rfl
   rw [e1]
   refine zC (pR b) (zA hr) rfl <| zC (zP p) (zA hb) rfl <| zb (r:=p + 1) rfl tO <| zG (v:=.int .i64 ↑(p + 1)) [AV.str s,.int .i64 ↑(p + 1),zP d] (zA hb) rfl rfl rfl rfl <| zC (pR b) (zB tA (zA hr)) rfl <| zAr (hc _ (zE (zA hb))) ?_; refine zG (v:=ndV n) (AV.cells (ndV n)) zD rfl rfl rfl rfl <| zC (pR b) (zB tA (zA (zB tA (zB tA (zA hr))))) rfl <| zAr (hwn _ hP) <| zC (ndV n) (zB tA (zE zD)) rfl <| zG (v:=ndV n) (AV.cells (ndV n)) (zB tA (zB tA (zA (zB tA (zB tA zD))))) rfl rfl rfl rfl ?_
   exact zA2 (o:=0) (ndV n) (by first | rfl | assumption) rfl rfl (zQ (zE (zB tA (zB tA (zA (zB tA (zB tA zD))))))) rfl rfl rfl ((((((((OldB.start hb).push _).setB _).setB _).push _).set tA _).setB _).set tA _) rfl
  ·have hwn:=fun H' h=>(hww H' h).2 h41
   clear hww
   rw [if_neg h41]
   have e1 : mkR s d (Option.map (fun e=>(n,e)) none) = none:=rfl
   rw [e1]
   refine zC (pR b) (zA hr) rfl <| zC (zP p) (zA hb) rfl <| zb (r:=p + 1) rfl tO <| zG (v:=.int .i64 ↑(p + 1)) [AV.str s,.int .i64 ↑(p + 1),zP d] (zA hb) rfl rfl rfl rfl <| zC (pR b) (zB tA (zA hr)) rfl <| zAr (hc _ (zE (zA hb))) ?_; refine zG (v:=ndV n) (AV.cells (ndV n)) zD rfl rfl rfl rfl <| zC (pR b) (zB tA (zA (zB tA (zB tA (zA hr))))) rfl <| zy (hwn _ hP) ?_
   exact zA3 (by first | rfl | assumption) rfl rfl rfl (((((((OldB.start hb).push _).setB _).setB _).push _).set tA _).setB _) rfl (by first | exact WkL.refl _ | exact zDj _ _ _) (by first | exact Wk.refl _ | exact zA4 _ _)
theorem callc_ev (b rb sb : Nat) (s t : Bs) (p d : Nat) (H : Heap) (hb : H[b]? = some (rdB s p d)) (hr : H[rb]? = some (.box [pR b])) (hs : H[sb]? = some (.box [.str t])) (r : Option (Nd × Nat))
  (hT : ∀ H',H'[b]? = some (rdB s p d) → CR C zAd [pR b,.str t] H' b s d r) :
  zCL C GT zAp [pR rb,pR sb] H b (wkC s) zC3 (mkR s d r):=by
 have hbl : b < H.length:=(zg hb).1
 refine zx ?_
 cases r with
 | none=>
  have hc:=fun H' h1=>(hT H' h1).2 rfl
  clear hT
  have e : mkR s d none = none:=rfl
  rw [e]
  refine zC (pR b) (zA hr) rfl <| zC (AV.str t) (zA hs) rfl <| zy (hc _ (zA hb)) ?_
  exact zA3 (by first | rfl | assumption) rfl rfl rfl (((OldB.start hb).push _).setB _) rfl (by first | exact WkL.refl _ | exact zDj _ _ _) (by first | exact Wk.refl _ | exact zA4 _ _)
 | some p'=>
  obtain ⟨n,e⟩:=p'
  have hc:=fun H' h1=>(hT H' h1).1 n e rfl
  clear hT
  have e0 : mkR s d (some (n,e)) = some (ndV n,rdB s e d):=rfl
  rw [e0]
  refine zC (pR b) (zA hr) rfl <| zC (AV.str t) (zA hs) rfl <| zAr (hc _ (zA hb)) <| zG (v:=ndV n) (AV.cells (ndV n)) (zB tA zD) rfl rfl rfl rfl ?_
  exact zA2 (o:=0) (ndV n) (by first | rfl | assumption) rfl rfl (zQ (zE (zB tA zD))) rfl rfl rfl ((((OldB.start hb).push _).setB _).set tA _) rfl
end
end Go.AM
set_option maxRecDepth 20000
namespace Go.AM
theorem zH8 {s : Bs} {p : Nat} (h : s[p]? ≠ some 32) : tok s p = zCp s p:=by unfold tok; rw [zDe h]
theorem one_par {s : Bs} {p d : Nat} (h : s[p]? = some 40) : zBI s (P s) p d = if d = 30 then none else parS s p (d + 1):=by
 have hs : skip s p = p:=zDe (by rw [h]; simp)
 have ht:=zDf (s:=s) (p:=p) (c:=40) (by rw [hs]; exact h) (by decide)
 rw [hs] at ht
 unfold zBI parS
 rw [ht]
 rfl
theorem one_txt {s : Bs} {p d : Nat} (h : s[p]? = some 34) : zBI s (P s) p d = (quo (s.drop (p + 1)) (p + 1)).map fun q=>(txtN q.1,q.2):=by
 have ht : tok s p = zCp s p:=zH8 (by rw [h]; simp)
 unfold zBI
 rw [ht]
 unfold zCp
 rw [h]
 have hw : zn 34 = false:=by decide
 simp only [hw,Bool.false_eq_true,if_false,if_true]
 cases quo (s.drop (p + 1)) (p + 1) with
 | none=>rfl
 | some q=>rfl
theorem one_bad {s : Bs} {p d : Nat} (h : s[p]? = some 35) : zBI s (P s) p d = (badL (s.drop p) wrongs 1).map fun q=>(badN q.1,p + q.2):=by
 have ht : tok s p = zCp s p:=zH8 (by rw [h]; simp)
 unfold zBI
 rw [ht]
 unfold zCp
 rw [h]
 have hw : zn 35 = false:=by decide
 have h1 : ¬ ((35 : UInt8) = 34):=by decide
 simp only [hw,Bool.false_eq_true,if_false,if_true,h1]
 cases badL (s.drop p) wrongs 1 with
 | none=>rfl
 | some q=>rfl
theorem zEj {c : UInt8} (h : zn c = true) : c ≠ 32 ∧ c ≠ 45 ∧ c ≠ 35 ∧ c ≠ 34 ∧ c ≠ 40:=by
 refine ⟨?_, ?_, ?_, ?_, ?_⟩ <;> (rintro rfl; revert h; decide)
theorem tok_word {s : Bs} {p : Nat} {c : UInt8} (h : s[p]? = some c) (hw : zn c = true) : tok s p = .word (zBM s p) (sub s p (zBM s p)):=by
 rw [zH8 (by rw [h]; exact fun e=>(zEj hw).1 (Option.some.inj e))]
 unfold zCp
 rw [h]
 simp only [hw,if_true]
theorem one_word {s : Bs} {p d : Nat} {c : UInt8} (h : s[p]? = some c) (hw : zn c = true) :
  zBI s (P s) p d = if zCf (sub s p (zBM s p)) = true ∧ s[zBM s p]? = some 40 then (if d = 30 then none else callS s (sub s p (zBM s p)) (zBM s p) (d + 1)) else (atomP (sub s p (zBM s p))).map fun n=>(n,zBM s p):=by
 unfold zBI
 rw [tok_word h hw]
 rfl
theorem one_fin {s : Bs} {p d : Nat} (h : s[p]? = none) : zBI s (P s) p d = none:=by
 unfold zBI
 rw [zH8 (by rw [h]; simp)]
 unfold zCp
 rw [h]
theorem one_else {s : Bs} {p d : Nat} {c : UInt8} (h : s[p]? = some c) (h0 : c ≠ 32) (h1 : c ≠ 45) (h2 : c ≠ 40) (h3 : c ≠ 34) (h4 : c ≠ 35) (hw : zn c = false) : zBI s (P s) p d = none:=by
 unfold zBI
 rw [zH8 (by rw [h]; exact fun e=>h0 (Option.some.inj e))]
 unfold zCp
 rw [h]
 simp only [hw,Bool.false_eq_true,if_false,h3,h4]
 split
 ·rename_i heq
  split at heq
  ·split at heq <;> cases heq
  ·cases heq
 ·rename_i heq
  split at heq
  ·split at heq <;> cases heq
  ·cases heq
 ·rename_i heq
  split at heq
  ·split at heq <;> cases heq
  ·cases heq
 ·rename_i heq
  split at heq
  ·split at heq
   ·cases heq
   ·simp only [Tok.sign.injEq,List.cons.injEq,and_true] at heq
    exact absurd heq.2 h1
  ·simp only [Tok.sign.injEq,List.cons.injEq,and_true] at heq
   exact absurd heq.2 h1
 ·rename_i heq
  split at heq
  ·split at heq
   ·cases heq
   ·simp only [Tok.sign.injEq,List.cons.injEq,and_true] at heq
    exact absurd heq.2 h2
  ·simp only [Tok.sign.injEq,List.cons.injEq,and_true] at heq
   exact absurd heq.2 h2
 ·rfl
theorem zHE {s : Bs} {p e : Nat} {c : UInt8} (h : s[p]? = some c) (he : p < e) : (sub s p e).head? = some c:=by
 unfold sub
 rw [zBZ h]
 obtain ⟨k,hk⟩ : ∃ k,e - p = k + 1:=⟨e - p - 1,by omega⟩
 rw [hk]; rfl
theorem zGN {s : Bs} {p e : Nat} (he : e ≤ s.length) : (sub s p e).length = e - p:=by
 unfold sub; rw [List.length_take,List.length_drop]; omega
theorem zEk {l w : Bs} {n : Nat} (h : l.take n = w) : l = w ++ l.drop n:=by rw [← h,List.take_append_drop]
theorem lit_bad {s : Bs} {p e : Nat} (h : s[p]? = some 35) (hpe : p < e) (he : e ≤ s.length) : litP (sub s p e) = match badL (s.drop p) wrongs 1 with
  | some (k,n)=>if n = e - p then some (4,(k : Int)) else none
  | none=>none:=by
 have hh:=zHE h hpe
 have hl:=zGN (p:=p) he
 have hsub : sub s p e = (s.drop p).take (e - p):=rfl
 rw [hsub] at hh hl ⊢
 clear hsub
 generalize s.drop p = l at *
 generalize e - p = m at *
 unfold litP
 rw [if_neg (fun x=>by rw [x] at hh; revert hh; decide),if_neg (fun x=>by rw [x] at hh; revert hh; decide)]
 by_cases a1 : l.take m = [35,68,73,86,33]
 ·rw [if_pos a1]
  have hm : m = 5:=by rw [a1] at hl; exact hl.symm
  rw [zEk a1]; subst hm; simp [badL,wrongs]
 by_cases a2 : l.take m = [35,86,65,76,85,69,33]
 ·rw [if_neg a1,if_pos a2]
  have hm : m = 7:=by rw [a2] at hl; exact hl.symm
  rw [zEk a2]; subst hm; simp [badL,wrongs]
 by_cases a3 : l.take m = [35,82,69,70,33]
 ·rw [if_neg a1,if_neg a2,if_pos a3]
  have hm : m = 5:=by rw [a3] at hl; exact hl.symm
  rw [zEk a3]; subst hm; simp [badL,wrongs]
 by_cases a4 : l.take m = [35,78,65,77,69,33]
 ·rw [if_neg a1,if_neg a2,if_neg a3,if_pos a4]
  have hm : m = 6:=by rw [a4] at hl; exact hl.symm
  rw [zEk a4]; subst hm; simp [badL,wrongs]
 by_cases a5 : l.take m = [35,78,85,77,33]
 ·rw [if_neg a1,if_neg a2,if_neg a3,if_neg a4,if_pos a5]
  have hm : m = 5:=by rw [a5] at hl; exact hl.symm
  rw [zEk a5]; subst hm; simp [badL,wrongs]
 by_cases a6 : l.take m = [35,78,79,78,69,33]
 ·rw [if_neg a1,if_neg a2,if_neg a3,if_neg a4,if_neg a5,if_pos a6]
  have hm : m = 6:=by rw [a6] at hl; exact hl.symm
  rw [zEk a6]; subst hm; simp [badL,wrongs]
 rw [if_neg a1,if_neg a2,if_neg a3,if_neg a4,if_neg a5,if_neg a6]
 unfold badL wrongs
 simp only [badL]
 split
 ·rename_i k n hk
  symm
  rw [if_neg]
  intro hn
  subst hn
  repeat' split at hk
  ·cases hk; rename_i x; exact a1 x
  ·cases hk; rename_i x; exact a2 x
  ·cases hk; rename_i x; exact a3 x
  ·cases hk; rename_i x; exact a4 x
  ·cases hk; rename_i x; exact a5 x
  ·cases hk; rename_i x; exact a6 x
  ·cases hk
 ·rfl
end Go.AM
set_option maxRecDepth 20000
namespace Go.AM
section
variable {C : CSpec} {GT : Nat → Option AV}
theorem prim_fin (hF : ∀ b s p d a e H,H[b]? = some (rdB s p d) → C zK (.pan .undef :: [pR b,.int .i64 a,zD6 e]) H zC3 (H.set b (.box (wkC s))))
  (b : Nat) (s : Bs) (p d : Nat) (H : Heap) (hb : H[b]? = some (rdB s p d)) (hp : p ≤ s.length) (hl : s.length ≤ 200) (hd : d ≤ 1000) (hlt : ¬ p < s.length) : zCL C GT zY [pR b] H b (wkC s) zC3 (mkR s d (zBI s (P s) p d)):=by
 have hbl : b < H.length:=(zg hb).1
 have e : mkR s d (zBI s (P s) p d) = none:=by rw [one_fin (List.getElem?_eq_none tO)]; rfl
 rw [e]
 have hf:=fun H' h=>hF b s p d p 2 H' h
 clear hF
 refine zx ?_; refine zDm (x:=pR b) rfl <| zC (pR b) (zA zD) rfl <| zC (zP p) (zA (zA hb)) rfl <| zC (pR b) (zA zD) rfl <| zC (AV.str s) (zA (zA hb)) rfl <| za tE ?_; refine zC (pR b) (zA zD) rfl <| zy (hf _ hP) ?_
 exact zA3 (by first | rfl | assumption) rfl rfl rfl ((((OldB.start hb).push _).push _).setB _) rfl (by first | exact WkL.refl _ | exact zDj _ _ _) (by first | exact Wk.refl _ | exact zA4 _ _)
theorem prim_par (hWi : ∀ f caps a b s p d H r,H[b]? = some (rdB s p d) → d ≤ 1000 → (∀ H',H'[b]? = some (rdB s p (d + 1)) → Off H b H' → CR C f caps H' b s (d + 1) r) → CR C zS [pR b,.int .i64 a,.fn f [] caps] H b s d (if d = 30 then none else r))
  (b : Nat) (s : Bs) (p d : Nat) (H : Heap) (hb : H[b]? = some (rdB s p d)) (hp : p ≤ s.length) (hl : s.length ≤ 200) (hd : d ≤ 1000) (hc : s[p]? = some 40) (hPa : s[p]? = some 40 → ∀ H' rb,H'[b]? = some (rdB s p (d + 1)) → H'[rb]? = some (.box [pR b]) → CR C zk [pR rb] H' b s (d + 1) (parS s p (d + 1))) : zCL C GT zY [pR b] H b (wkC s) zC3 (mkR s d (zBI s (P s) p d)):=by
 have hbl : b < H.length:=(zg hb).1
 have hlt : p < s.length:=(zg hc).1
 rw [one_par hc]
 have hpa:=hPa hc
 have hw:=hWi zk [pR H.length] p b s p d (H ++ [.box [pR b]] ++ [.box (ndC zo)]) (parS s p (d + 1)) (zA (zA hb)) hd (fun H' h1 ho=>hpa H' H.length h1 (ho _ _ (zA zD) tO))
 clear hWi hPa hpa
 refine zx ?_
 cases hr : (if d = 30 then none else parS s p (d + 1)) with
 | none=>
  rw [hr] at hw
  have hw:=hw.2 rfl
  have e : mkR s d none = none:=rfl
  rw [e]
  refine zDm (x:=pR b) rfl <| zC (pR b) (zA zD) rfl <| zC (zP p) (zA (zA hb)) rfl <| zC (pR b) (zA zD) rfl <| zC (AV.str s) (zA (zA hb)) rfl <| zV tN ?_; refine zC (pR b) (zA zD) rfl <| zC (AV.str s) (zA (zA hb)) rfl <| zBB rfl hc <| za (tE (by rfl)) <| zC (pR b) (zA zD) rfl <| zy hw ?_
  exact zA3 (by first | rfl | assumption) rfl rfl rfl ((((OldB.start hb).push _).push _).setB _) rfl (by first | exact WkL.refl _ | exact zDj _ _ _) (by first | exact Wk.refl _ | exact zA4 _ _)
 | some q=>
  obtain ⟨n,e⟩:=q
  rw [hr] at hw
  have hw:=hw.1 n e rfl
  have e0 : mkR s d (some (n,e)) = some (ndV n,rdB s e d):=rfl
  rw [e0]
  refine zDm (x:=pR b) rfl <| zC (pR b) (zA zD) rfl <| zC (zP p) (zA (zA hb)) rfl <| zC (pR b) (zA zD) rfl <| zC (AV.str s) (zA (zA hb)) rfl <| zV tN ?_; refine zC (pR b) (zA zD) rfl <| zC (AV.str s) (zA (zA hb)) rfl <| zBB rfl hc <| za (tE (by rfl)) <| zC (pR b) (zA zD) rfl <| zAr hw ?_; refine zG (v:=ndV n) (AV.cells (ndV n)) (zB tA zD) rfl rfl rfl rfl ?_
  exact zA2 (o:=0) (ndV n) (by first | rfl | assumption) rfl rfl (zQ (zE (zB tA zD))) rfl rfl rfl (((((OldB.start hb).push _).push _).setB _).set tA _) rfl
theorem prim_txt (hTx : ∀ b s p d H,H[b]? = some (rdB s p d) → p < s.length → s.length ≤ 200 → CR C zAJ [pR b] H b s d ((quo (s.drop (p + 1)) (p + 1)).map fun q=>(txtN q.1,q.2)))
  (b : Nat) (s : Bs) (p d : Nat) (H : Heap) (hb : H[b]? = some (rdB s p d)) (hp : p ≤ s.length) (hl : s.length ≤ 200) (hd : d ≤ 1000) (hc : s[p]? = some 34) : zCL C GT zY [pR b] H b (wkC s) zC3 (mkR s d (zBI s (P s) p d)):=by
 have hbl : b < H.length:=(zg hb).1
 have hlt : p < s.length:=(zg hc).1
 rw [one_txt hc]
 have hw:=hTx b s p d (H ++ [.box [pR b]] ++ [.box (ndC zo)]) (zA (zA hb)) hlt hl
 clear hTx
 generalize (quo (s.drop (p + 1)) (p + 1)).map (fun q=>(txtN q.1,q.2)) = r at *
 refine zx ?_
 cases r with
 | none=>
  have hw:=hw.2 rfl
  have e : mkR s d none = none:=rfl
  rw [e]
  refine zDm (x:=pR b) rfl <| zC (pR b) (zA zD) rfl <| zC (zP p) (zA (zA hb)) rfl <| zC (pR b) (zA zD) rfl <| zC (AV.str s) (zA (zA hb)) rfl <| zV tN ?_; refine zC (pR b) (zA zD) rfl <| zC (AV.str s) (zA (zA hb)) rfl <| zBB rfl hc <| zV (tN (by decide)) <| za (tE (by rfl)) <| zC (pR b) (zA zD) rfl ?_; refine zy hw ?_
  exact zA3 (by first | rfl | assumption) rfl rfl rfl ((((OldB.start hb).push _).push _).setB _) rfl (by first | exact WkL.refl _ | exact zDj _ _ _) (by first | exact Wk.refl _ | exact zA4 _ _)
 | some q=>
  obtain ⟨n,e⟩:=q
  have hw:=hw.1 n e rfl
  have e0 : mkR s d (some (n,e)) = some (ndV n,rdB s e d):=rfl
  rw [e0]
  refine zDm (x:=pR b) rfl <| zC (pR b) (zA zD) rfl <| zC (zP p) (zA (zA hb)) rfl <| zC (pR b) (zA zD) rfl <| zC (AV.str s) (zA (zA hb)) rfl <| zV tN ?_; refine zC (pR b) (zA zD) rfl <| zC (AV.str s) (zA (zA hb)) rfl <| zBB rfl hc <| zV (tN (by decide)) <| za (tE (by rfl)) <| zC (pR b) (zA zD) rfl ?_; refine zAr hw <| zG (v:=ndV n) (AV.cells (ndV n)) (zB tA zD) rfl rfl rfl rfl ?_
  exact zA2 (o:=0) (ndV n) (by first | rfl | assumption) rfl rfl (zQ (zE (zB tA zD))) rfl rfl rfl (((((OldB.start hb).push _).push _).setB _).set tA _) rfl
theorem prim_bad (hF : ∀ b s p d a e H,H[b]? = some (rdB s p d) → C zK (.pan .undef :: [pR b,.int .i64 a,zD6 e]) H zC3 (H.set b (.box (wkC s)))) (hLi : ∀ t H,C zj [.str t] H (litV (litP t)) H)
  (b : Nat) (s : Bs) (p d : Nat) (H : Heap) (hb : H[b]? = some (rdB s p d)) (hp : p ≤ s.length) (hl : s.length ≤ 200) (hd : d ≤ 1000) (hc : s[p]? = some 35) : zCL C GT zY [pR b] H b (wkC s) zC3 (mkR s d (zBI s (P s) p d)):=by
 have hbl : b < H.length:=(zg hb).1
 have hlt : p < s.length:=(zg hc).1
 rw [one_bad hc]
 have hlb:=fun e (h1 : p < e) (h2 : e ≤ s.length)=>lit_bad hc h1 h2
 have hbe : ∀ q,badL (s.drop p) wrongs 1 = some q → 0 < q.2 ∧ q.2 ≤ s.length - p:=fun q hq=>by
  have:=zH1 _ _ _ _ hq (by decide)
  rwa [List.length_drop] at this
 have hf:=fun H' h=>hF b s p d p 2 H' h
 clear hF
 generalize badL (s.drop p) wrongs 1 = r at *
 refine zx ?_; refine zDm (x:=pR b) rfl <| zC (pR b) (zA zD) rfl <| zC (zP p) (zA (zA hb)) rfl <| zC (pR b) (zA zD) rfl <| zC (AV.str s) (zA (zA hb)) rfl <| zV tN ?_; refine zC (pR b) (zA zD) rfl <| zC (AV.str s) (zA (zA hb)) rfl <| zBB rfl hc <| zV (tN (by decide)) <| zV (tN (by decide)) <| za (tE (by rfl)) ?_; refine zb (r:=p + 1) rfl tO ?_; refine zCI (fun k : Nat=>[(2,pR (H ++ [ABlk.box [pR b]]).length),(5,zP k),(1,pR H.length),(3,zP p)])
  (fun k H'=>OldB H b (rdB s p d) H' ∧ H'[b]? = some (rdB s p d) ∧ H'[H.length]? = some (.box [pR b]) ∧ H'[(H ++ [ABlk.box [pR b]]).length]? = some (.box (ndC zo)) ∧ p < k ∧ k ≤ s.length + 1 ∧ ∀ q,r = some q → k ≤ p + q.2)
  (fun k=>s.length + 1 - k) (p + 1) rfl ⟨((OldB.start hb).push _).push _,zA (zA hb),zA zD,zD,by omega,by omega,fun q hq=>by have:=(hbe q hq).1; omega⟩ (fun k H1 ⟨ho,hb1,hr1,h2,hpk,hk,hq⟩=>?_)
 have hlen1:=ho.old.1
 rw [List.length_set] at hlen1
 have hl2:=(zg h2).1
 have hlH : (H ++ [ABlk.box [pR b]]).length = H.length + 1:=by simp
 by_cases hks : k ≤ s.length
 ·have hlk:=hlb k hpk hks
  have hli:=hLi (sub s p k) H1
  clear hLi
  by_cases hit : ∃ q,r = some q ∧ k = p + q.2
  ·obtain ⟨⟨kk,nn⟩,rfl,hkn⟩:=hit
   simp only at hkn
   have e2 : litP (sub s p k) = some (4,(kk : Int)):=by
    rw [hlk]; simp only; rw [if_pos tO]
   rw [e2] at hli
   have hli : C zj [.str (sub s p k)] H1 (.tup [v3 4 kk,.bool true]) H1:=hli
   have e0 : mkR s d (Option.map (fun q : Nat × Nat=>(badN q.1,p + q.2)) (some (kk,nn))) = some (ndV (badN kk),rdB s k d):=by rw [hkn]; rfl
   rw [e0]
   refine zC (pR b) hr1 rfl <| zC (AV.str s) hb1 rfl <| za tT <| zC (pR b) hr1 rfl <| zC (AV.str s) hb1 rfl <| zT (v:=.str (sub s p k)) (zF0 s p k tO tO) ?_; refine zI (hli) <| zT rfl <| zT rfl <| zG (v:=v3 4 ↑kk) (AV.cells (v3 4 ↑kk)) zD rfl rfl rfl rfl <| zH <| zC (pR b) (zB tA (zA hr1)) rfl ?_; refine zG (v:=zP k) [AV.str s,zP k,zP d] (zB tA (zA hb1)) rfl rfl rfl rfl <| zC (.int .i64 ↑kk) (zB tA (zE zD)) rfl <| zT (v:=[.int .i64 4,.int .i64 ↑kk,AV.str [],.int .i64 0,.int .i64 0,AV.bool false,AV.bool false,.int .i64 0,.int .i64 0,AV.bool false,AV.bool false,AV.lst (some true) 0 []]) rfl <| zG (v:=AV.agg [.int .i64 4,.int .i64 ↑kk,AV.str [],.int .i64 0,.int .i64 0,AV.bool false,AV.bool false,.int .i64 0,.int .i64 0,AV.bool false,AV.bool false,AV.lst (some true) 0 []]) (AV.cells (AV.agg [.int .i64 4,.int .i64 ↑kk,AV.str [],.int .i64 0,.int .i64 0,AV.bool false,AV.bool false,.int .i64 0,.int .i64 0,AV.bool false,AV.bool false,AV.lst (some true) 0 []])) (zB tA (zB tA (zA h2))) rfl rfl rfl rfl ?_
   exact zA2 (o:=0) (ndV (badN kk)) rfl rfl rfl (zQ hP) rfl rfl rfl ((((ho.push _).set tO _).setB _).set tO _) rfl
  ·have e2 : litP (sub s p k) = none:=by
    rw [hlk]
    cases r with
    | none=>rfl
    | some q=>
     simp only
     rw [if_neg (fun e=>hit ⟨q,rfl,by omega⟩)]
   rw [e2] at hli
   have hli : C zj [.str (sub s p k)] H1 (.tup [v3 0 0,.bool false]) H1:=hli
   refine zC (pR b) hr1 rfl <| zC (AV.str s) hb1 rfl <| za tT <| zC (pR b) hr1 rfl <| zC (AV.str s) hb1 rfl <| zT (v:=.str (sub s p k)) (zF0 s p k tO tO) ?_; refine zI (hli) <| zT rfl <| zT rfl <| zG (v:=v3 0 0) (AV.cells (v3 0 0)) zD rfl rfl rfl rfl <| zF <| zb (r:=k + 1) rfl tO ?_; refine zAf (k + 1) rfl ⟨(ho.push _).set tO _,zB tO (zA hb1),zB tO (zA hr1),zB tO (zA h2),by omega,by omega,fun q hq'=>?_⟩ tO
   have h3:=hq q hq'
   rcases Nat.lt_or_ge k (p + q.2) with h | h
   ·omega
   ·exact absurd ⟨q,hq',by omega⟩ hit
 ·have e2 : r = none:=by
   cases r with
   | none=>rfl
   | some q=>
    have:=hq q rfl
    have:=(hbe q rfl).2
    omega
  subst e2
  have e0 : mkR s d (Option.map (fun q : Nat × Nat=>(badN q.1,p + q.2)) none) = none:=rfl
  rw [e0]
  refine zC (pR b) hr1 rfl <| zC (AV.str s) hb1 rfl <| zV tF <| zC (pR b) hr1 rfl <| zy (hf _ hb1) ?_
  exact zA3 (by first | rfl | assumption) rfl rfl rfl (ho.setB _) rfl (by first | exact WkL.refl _ | exact zDj _ _ _) (by first | exact Wk.refl _ | exact zA4 _ _)
theorem prim_else (hF : ∀ b s p d a e H,H[b]? = some (rdB s p d) → C zK (.pan .undef :: [pR b,.int .i64 a,zD6 e]) H zC3 (H.set b (.box (wkC s)))) (hWd : ∀ c H,C zr [byV c] H (.bool (zn c)) H)
  (b : Nat) (s : Bs) (p d : Nat) (H : Heap) (hb : H[b]? = some (rdB s p d)) (hp : p ≤ s.length) (hl : s.length ≤ 200) (hd : d ≤ 1000) (c : UInt8) (hc : s[p]? = some c) (h32 : s[p]? ≠ some 32) (h45 : s[p]? ≠ some 45) (h40 : c ≠ 40) (h34 : c ≠ 34) (h35 : c ≠ 35) (hw : ¬ zn c = true) : zCL C GT zY [pR b] H b (wkC s) zC3 (mkR s d (zBI s (P s) p d)):=by
 have hbl : b < H.length:=(zg hb).1
 have hlt : p < s.length:=(zg hc).1
 have n40 : c.toNat ≠ 40:=fun e=>h40 (UInt8.toNat_inj.1 e)
 have n34 : c.toNat ≠ 34:=fun e=>h34 (UInt8.toNat_inj.1 e)
 have n35 : c.toNat ≠ 35:=fun e=>h35 (UInt8.toNat_inj.1 e)
 have hwd:=hWd c (H ++ [.box [pR b]] ++ [.box (ndC zo)])
 have hw:=Bool.eq_false_iff.2 hw
 rw [one_else hc (fun e=>h32 (by rw [hc,e])) (fun e=>h45 (by rw [hc,e])) h40 h34 h35 hw]
 have e0 : mkR s d none = none:=rfl
 rw [e0]
 rw [hw] at hwd
 have hf:=fun H' h=>hF b s p d p 2 H' h
 clear hF hWd
 refine zx ?_; refine zDm (x:=pR b) rfl <| zC (pR b) (zA zD) rfl <| zC (zP p) (zA (zA hb)) rfl <| zC (pR b) (zA zD) rfl <| zC (AV.str s) (zA (zA hb)) rfl <| zV tN ?_; refine zC (pR b) (zA zD) rfl <| zC (AV.str s) (zA (zA hb)) rfl <| zBB rfl hc <| zV tN <| zV tN <| zV tN ?_; refine zI (hwd) <| zF <| zC (pR b) (zA zD) rfl <| zy (hf _ hP) ?_
 exact zA3 (by first | rfl | assumption) rfl rfl rfl ((((OldB.start hb).push _).push _).setB _) rfl (by first | exact WkL.refl _ | exact zDj _ _ _) (by first | exact Wk.refl _ | exact zA4 _ _)
theorem prim_call (hWd : ∀ c H,C zr [byV c] H (.bool (zn c)) H) (hWo : ∀ b s p d H,H[b]? = some (rdB s p d) → p ≤ s.length → s.length ≤ 200 → C zW [pR b] H (.str (sub s p (zBM s p))) (H.set b (rdB s (zBM s p) d))) (hCa : ∀ t H,t.length ≤ 1000 → C zAh [.str t] H (.bool (zCf t)) H) (hWi : ∀ f caps a b s p d H r,H[b]? = some (rdB s p d) → d ≤ 1000 → (∀ H',H'[b]? = some (rdB s p (d + 1)) → Off H b H' → CR C f caps H' b s (d + 1) r) → CR C zS [pR b,.int .i64 a,.fn f [] caps] H b s d (if d = 30 then none else r))
  (b : Nat) (s : Bs) (p d : Nat) (H : Heap) (hb : H[b]? = some (rdB s p d)) (hp : p ≤ s.length) (hl : s.length ≤ 200) (hd : d ≤ 1000) (c : UInt8) (hc : s[p]? = some c) (hw : zn c = true) (h41 : s[zBM s p]? = some 40) (hcd : zCf (sub s p (zBM s p)) = true) (hCl : ∀ e t,s[e]? = some 40 → p < e → ∀ H' rb sb,H'[b]? = some (rdB s e (d + 1)) → H'[rb]? = some (.box [pR b]) → H'[sb]? = some (.box [.str t]) → CR C zd [pR rb,pR sb] H' b s (d + 1) (callS s t e (d + 1))) : zCL C GT zY [pR b] H b (wkC s) zC3 (mkR s d (zBI s (P s) p d)):=by
 have hbl : b < H.length:=(zg hb).1
 have hlt : p < s.length:=(zg hc).1
 have hwn:=zEj hw
 have n40 : c.toNat ≠ 40:=fun e=>hwn.2.2.2.2 (UInt8.toNat_inj.1 e)
 have n34 : c.toNat ≠ 34:=fun e=>hwn.2.2.2.1 (UInt8.toNat_inj.1 e)
 have n35 : c.toNat ≠ 35:=fun e=>hwn.2.2.1 (UInt8.toNat_inj.1 e)
 have hwd:=hWd c (H ++ [.box [pR b]] ++ [.box (ndC zo)])
 rw [hw] at hwd
 rw [one_word hc hw]
 have hwo:=hWo b s p d (H ++ [.box [pR b]] ++ [.box (ndC zo)]) (zA (zA hb)) hp hl
 have hee : p < zBM s p:=by rw [zEe hc hw]; have:=zH0 s (p + 1); omega
 have hel:=zFH hp
 have hth:=zHE (e:=zBM s p) hc hee
 have htl:=zGN (s:=s) (p:=p) (e:=zBM s p) hel
 generalize zBM s p = e at *
 generalize sub s p e = t at *
 have hca:=fun H'=>hCa t H' tO
 have hcl:=fun h=>hCl e t h hee
 have hww:=fun H' r h1 h2=>hWi zd [pR H.length,pR ((H ++ [ABlk.box [pR b]] ++ [ABlk.box (ndC zo)]).set b (rdB s e d)).length] p b s e d H' r h1 hd h2
 clear hWi hWd hWo hCa hCl
 refine zx ?_
 have hlt2 : e < s.length:=(zg h41).1
 rw [if_pos ⟨hcd,h41⟩]
 have hcl:=hcl h41
 rw [hcd] at hca
 skip
 have hH2 : ∀ X : Heap,X[H.length]? = some (.box [pR b]) → X[((H ++ [ABlk.box [pR b]] ++ [ABlk.box (ndC zo)]).set b (rdB s e d)).length]? = some (.box [.str t]) → X[b]? = some (rdB s e d) → CR C zS [pR b,zP p,.fn zd [] [pR H.length,pR ((H ++ [ABlk.box [pR b]] ++ [ABlk.box (ndC zo)]).set b (rdB s e d)).length]] X b s d (if d = 30 then none else callS s t e (d + 1)):=fun X x1 x2 x3=>
  hww X (callS s t e (d + 1)) x3 (fun H' h1 ho=>hcl H' _ _ h1 (ho _ _ x1 tO) (ho _ _ x2 (by simp; omega)))
 clear hww hcl
 cases hr : (if d = 30 then none else callS s t e (d + 1)) with
 | none=>
  rw [hr] at hH2
  have hH2:=fun X x1 x2 x3=>(hH2 X x1 x2 x3).2 rfl
  have e0 : mkR s d none = none:=rfl
  rw [e0]
  refine zDm (x:=pR b) rfl <| zC (pR b) (zA zD) rfl <| zC (zP p) (zA (zA hb)) rfl <| zC (pR b) (zA zD) rfl <| zC (AV.str s) (zA (zA hb)) rfl <| zV tN ?_; refine zC (pR b) (zA zD) rfl <| zC (AV.str s) (zA (zA hb)) rfl <| zBB rfl hc <| zV tN <| zV tN <| zV tN ?_; refine zI (hwd) <| zH <| zC (pR b) (zA zD) rfl <| z7 hwo (fun h=>by cases h) <| zG (v:=AV.str t) [AV.str t] zD rfl rfl rfl rfl <| zC (pR b) (zB tA (zA (zB tA (zA zD)))) rfl ?_
  refine zC (zP e) (zB tA (zA (zE (zA (zA hb))))) rfl <| zC (pR b) (zB tA (zA (zB tA (zA zD)))) rfl <| zC (AV.str s) (zB tA (zA (zE (zA (zA hb))))) rfl <| za tT <| zC (pR b) (zB tA (zA (zB tA (zA zD)))) rfl <| zC (AV.str s) (zB tA (zA (zE (zA (zA hb))))) rfl ?_; refine zC (pR b) (zB tA (zA (zB tA (zA zD)))) rfl <| zC (zP e) (zB tA (zA (zE (zA (zA hb))))) rfl <| zBB rfl h41 <| zH <| za (tE (by rfl)) <| zC (AV.str t) (zE zD) rfl ?_
  refine zI (hca _) <| zH <| zH <| zC (pR b) (zB tA (zA (zB tA (zA zD)))) rfl <| zy (hH2 _ hP hP hP) ?_
  exact zA3 (by first | rfl | assumption) rfl rfl rfl (((((((OldB.start hb).push _).push _).setB _).push _).set tA _).setB _) rfl (by first | exact WkL.refl _ | exact zDj _ _ _) (by first | exact Wk.refl _ | exact zA4 _ _)
 | some q=>
  obtain ⟨n,e'⟩:=q
  rw [hr] at hH2
  have hH2:=fun X x1 x2 x3=>(hH2 X x1 x2 x3).1 n e' rfl
  have e0 : mkR s d (some (n,e')) = some (ndV n,rdB s e' d):=rfl
  rw [e0]
  refine zDm (x:=pR b) rfl <| zC (pR b) (zA zD) rfl <| zC (zP p) (zA (zA hb)) rfl <| zC (pR b) (zA zD) rfl <| zC (AV.str s) (zA (zA hb)) rfl <| zV tN ?_; refine zC (pR b) (zA zD) rfl <| zC (AV.str s) (zA (zA hb)) rfl <| zBB rfl hc <| zV tN <| zV tN <| zV tN ?_; refine zI (hwd) <| zH <| zC (pR b) (zA zD) rfl <| z7 hwo (fun h=>by cases h) <| zG (v:=AV.str t) [AV.str t] zD rfl rfl rfl rfl <| zC (pR b) (zB tA (zA (zB tA (zA zD)))) rfl ?_
  refine zC (zP e) (zB tA (zA (zE (zA (zA hb))))) rfl <| zC (pR b) (zB tA (zA (zB tA (zA zD)))) rfl <| zC (AV.str s) (zB tA (zA (zE (zA (zA hb))))) rfl <| za tT <| zC (pR b) (zB tA (zA (zB tA (zA zD)))) rfl <| zC (AV.str s) (zB tA (zA (zE (zA (zA hb))))) rfl ?_; refine zC (pR b) (zB tA (zA (zB tA (zA zD)))) rfl <| zC (zP e) (zB tA (zA (zE (zA (zA hb))))) rfl <| zBB rfl h41 <| zH <| za (tE (by rfl)) <| zC (AV.str t) (zE zD) rfl ?_
  refine zI (hca _) <| zH <| zH <| zC (pR b) (zB tA (zA (zB tA (zA zD)))) rfl <| zAr (hH2 _ hP hP hP) <| zG (v:=ndV n) (AV.cells (ndV n)) (zB tA (zB tA (zA (zB tA zD)))) rfl rfl rfl rfl ?_
  exact zA2 (o:=0) (ndV n) (by first | rfl | assumption) rfl rfl (zQ (zE (zB tA (zB tA (zA (zB tA zD)))))) rfl rfl rfl ((((((((OldB.start hb).push _).push _).setB _).push _).set tA _).setB _).set tA _) rfl
theorem prim_plain1 (hF : ∀ b s p d a e H,H[b]? = some (rdB s p d) → C zK (.pan .undef :: [pR b,.int .i64 a,zD6 e]) H zC3 (H.set b (.box (wkC s)))) (hWd : ∀ c H,C zr [byV c] H (.bool (zn c)) H) (hWo : ∀ b s p d H,H[b]? = some (rdB s p d) → p ≤ s.length → s.length ≤ 200 → C zW [pR b] H (.str (sub s p (zBM s p))) (H.set b (rdB s (zBM s p) d))) (hCa : ∀ t H,t.length ≤ 1000 → C zAh [.str t] H (.bool (zCf t)) H) (hPl : ∀ t H,t.length ≤ 1000 → t.head? ≠ some 45 → t.head? ≠ some 35 → C zw [.str t] H (zF1 (atomP t)) H)
  (b : Nat) (s : Bs) (p d : Nat) (H : Heap) (hb : H[b]? = some (rdB s p d)) (hp : p ≤ s.length) (hl : s.length ≤ 200) (hd : d ≤ 1000) (c : UInt8) (hc : s[p]? = some c) (hw : zn c = true) (h41 : s[zBM s p]? = some 40) (hcd : ¬ zCf (sub s p (zBM s p)) = true) : zCL C GT zY [pR b] H b (wkC s) zC3 (mkR s d (zBI s (P s) p d)):=by
 have hbl : b < H.length:=(zg hb).1
 have hlt : p < s.length:=(zg hc).1
 have hwn:=zEj hw
 have n40 : c.toNat ≠ 40:=fun e=>hwn.2.2.2.2 (UInt8.toNat_inj.1 e)
 have n34 : c.toNat ≠ 34:=fun e=>hwn.2.2.2.1 (UInt8.toNat_inj.1 e)
 have n35 : c.toNat ≠ 35:=fun e=>hwn.2.2.1 (UInt8.toNat_inj.1 e)
 have hwd:=hWd c (H ++ [.box [pR b]] ++ [.box (ndC zo)])
 rw [hw] at hwd
 rw [one_word hc hw]
 have hwo:=hWo b s p d (H ++ [.box [pR b]] ++ [.box (ndC zo)]) (zA (zA hb)) hp hl
 have hee : p < zBM s p:=by rw [zEe hc hw]; have:=zH0 s (p + 1); omega
 have hel:=zFH hp
 have hth:=zHE (e:=zBM s p) hc hee
 have htl:=zGN (s:=s) (p:=p) (e:=zBM s p) hel
 generalize zBM s p = e at *
 generalize sub s p e = t at *
 have hpl:=fun H'=>hPl t H' tO (by rw [hth]; exact fun x=>hwn.2.1 (Option.some.inj x)) (by rw [hth]; exact fun x=>hwn.2.2.1 (Option.some.inj x))
 have hca:=fun H'=>hCa t H' tO
 have hf:=fun H' h=>hF b s e d p 2 H' h
 clear hF hWd hWo hCa hPl
 have hlt2 : e < s.length:=(zg h41).1
 refine zx ?_
 rw [if_neg (fun x=>hcd x.1)]
 rw [Bool.eq_false_iff.2 hcd] at hca
 skip
 cases ha : atomP t with
 | none=>
  rw [ha] at hpl
  have hpl : ∀ H',C zw [.str t] H' (.tup [ndV zo,.bool false]) H':=hpl
  have e0 : mkR s d (Option.map (fun n=>(n,e)) none) = none:=rfl
  rw [e0]
  refine zDm (x:=pR b) rfl <| zC (pR b) (zA zD) rfl <| zC (zP p) (zA (zA hb)) rfl <| zC (pR b) (zA zD) rfl <| zC (AV.str s) (zA (zA hb)) rfl <| zV tN ?_; refine zC (pR b) (zA zD) rfl <| zC (AV.str s) (zA (zA hb)) rfl <| zBB rfl hc <| zV tN <| zV tN <| zV tN ?_; refine zI (hwd) <| zH <| zC (pR b) (zA zD) rfl <| z7 hwo (fun h=>by cases h) <| zG (v:=AV.str t) [AV.str t] zD rfl rfl rfl rfl <| zC (pR b) (zB tA (zA (zB tA (zA zD)))) rfl ?_
  refine zC (zP e) (zB tA (zA (zE (zA (zA hb))))) rfl <| zC (pR b) (zB tA (zA (zB tA (zA zD)))) rfl <| zC (AV.str s) (zB tA (zA (zE (zA (zA hb))))) rfl <| za tT <| zC (pR b) (zB tA (zA (zB tA (zA zD)))) rfl <| zC (AV.str s) (zB tA (zA (zE (zA (zA hb))))) rfl ?_; refine zC (pR b) (zB tA (zA (zB tA (zA zD)))) rfl <| zC (zP e) (zB tA (zA (zE (zA (zA hb))))) rfl <| zBB rfl h41 <| zH <| za (tE (by rfl)) <| zC (AV.str t) (zE zD) rfl ?_
  refine zI (hca _) <| zH <| zF <| zC (AV.str t) (zE zD) rfl <| zI (hpl _) <| zT rfl ?_; refine zT rfl <| zG (v:=ndV zo) (AV.cells (ndV zo)) zD rfl rfl rfl rfl <| zF <| zC (pR b) (zB tA (zA (zB tA (zA (zB tA (zA zD)))))) rfl <| zy (hf _ hP) ?_
  exact zA3 (by first | rfl | assumption) rfl rfl rfl (((((((((OldB.start hb).push _).push _).setB _).push _).set tA _).push _).set tA _).setB _) rfl (by first | exact WkL.refl _ | exact zDj _ _ _) (by first | exact Wk.refl _ | exact zA4 _ _)
 | some n=>
  rw [ha] at hpl
  have hpl : ∀ H',C zw [.str t] H' (.tup [ndV n,.bool true]) H':=hpl
  have e0 : mkR s d (Option.map (fun n=>(n,e)) (some n)) = some (ndV n,rdB s e d):=rfl
  rw [e0]
  refine zDm (x:=pR b) rfl <| zC (pR b) (zA zD) rfl <| zC (zP p) (zA (zA hb)) rfl <| zC (pR b) (zA zD) rfl <| zC (AV.str s) (zA (zA hb)) rfl <| zV tN ?_; refine zC (pR b) (zA zD) rfl <| zC (AV.str s) (zA (zA hb)) rfl <| zBB rfl hc <| zV tN <| zV tN <| zV tN ?_; refine zI (hwd) <| zH <| zC (pR b) (zA zD) rfl <| z7 hwo (fun h=>by cases h) <| zG (v:=AV.str t) [AV.str t] zD rfl rfl rfl rfl <| zC (pR b) (zB tA (zA (zB tA (zA zD)))) rfl ?_
  refine zC (zP e) (zB tA (zA (zE (zA (zA hb))))) rfl <| zC (pR b) (zB tA (zA (zB tA (zA zD)))) rfl <| zC (AV.str s) (zB tA (zA (zE (zA (zA hb))))) rfl <| za tT <| zC (pR b) (zB tA (zA (zB tA (zA zD)))) rfl <| zC (AV.str s) (zB tA (zA (zE (zA (zA hb))))) rfl ?_; refine zC (pR b) (zB tA (zA (zB tA (zA zD)))) rfl <| zC (zP e) (zB tA (zA (zE (zA (zA hb))))) rfl <| zBB rfl h41 <| zH <| za (tE (by rfl)) <| zC (AV.str t) (zE zD) rfl ?_
  refine zI (hca _) <| zH <| zF <| zC (AV.str t) (zE zD) rfl <| zI (hpl _) <| zT rfl ?_; refine zT rfl <| zG (v:=ndV n) (AV.cells (ndV n)) zD rfl rfl rfl rfl <| zH <| zC (ndV n) (zE zD) rfl <| zG (v:=ndV n) (AV.cells (ndV n)) (zB tA (zA (zB tA (zA (zB tA zD))))) rfl rfl rfl rfl ?_
  exact zA2 (o:=0) (ndV n) (by first | rfl | assumption) rfl rfl (zQ (zE (zB tA (zA (zB tA (zA (zB tA zD))))))) rfl rfl rfl (((((((((OldB.start hb).push _).push _).setB _).push _).set tA _).push _).set tA _).set tA _) rfl
theorem prim_plain2 (hF : ∀ b s p d a e H,H[b]? = some (rdB s p d) → C zK (.pan .undef :: [pR b,.int .i64 a,zD6 e]) H zC3 (H.set b (.box (wkC s)))) (hWd : ∀ c H,C zr [byV c] H (.bool (zn c)) H) (hWo : ∀ b s p d H,H[b]? = some (rdB s p d) → p ≤ s.length → s.length ≤ 200 → C zW [pR b] H (.str (sub s p (zBM s p))) (H.set b (rdB s (zBM s p) d))) (hPl : ∀ t H,t.length ≤ 1000 → t.head? ≠ some 45 → t.head? ≠ some 35 → C zw [.str t] H (zF1 (atomP t)) H)
  (b : Nat) (s : Bs) (p d : Nat) (H : Heap) (hb : H[b]? = some (rdB s p d)) (hp : p ≤ s.length) (hl : s.length ≤ 200) (hd : d ≤ 1000) (c : UInt8) (hc : s[p]? = some c) (hw : zn c = true) (h41 : ¬ s[zBM s p]? = some 40) : zCL C GT zY [pR b] H b (wkC s) zC3 (mkR s d (zBI s (P s) p d)):=by
 have hbl : b < H.length:=(zg hb).1
 have hlt : p < s.length:=(zg hc).1
 have hwn:=zEj hw
 have n40 : c.toNat ≠ 40:=fun e=>hwn.2.2.2.2 (UInt8.toNat_inj.1 e)
 have n34 : c.toNat ≠ 34:=fun e=>hwn.2.2.2.1 (UInt8.toNat_inj.1 e)
 have n35 : c.toNat ≠ 35:=fun e=>hwn.2.2.1 (UInt8.toNat_inj.1 e)
 have hwd:=hWd c (H ++ [.box [pR b]] ++ [.box (ndC zo)])
 rw [hw] at hwd
 rw [one_word hc hw]
 have hwo:=hWo b s p d (H ++ [.box [pR b]] ++ [.box (ndC zo)]) (zA (zA hb)) hp hl
 have hee : p < zBM s p:=by rw [zEe hc hw]; have:=zH0 s (p + 1); omega
 have hel:=zFH hp
 have hth:=zHE (e:=zBM s p) hc hee
 have htl:=zGN (s:=s) (p:=p) (e:=zBM s p) hel
 generalize zBM s p = e at *
 generalize sub s p e = t at *
 have hpl:=fun H'=>hPl t H' tO (by rw [hth]; exact fun x=>hwn.2.1 (Option.some.inj x)) (by rw [hth]; exact fun x=>hwn.2.2.1 (Option.some.inj x))
 have hf:=fun H' h=>hF b s e d p 2 H' h
 clear hF hWd hWo hPl
 refine zx ?_
 rw [if_neg (fun x=>h41 x.2)]
 skip
 cases ha : atomP t with
 | none=>
  rw [ha] at hpl
  have hpl : ∀ H',C zw [.str t] H' (.tup [ndV zo,.bool false]) H':=hpl
  have e0 : mkR s d (Option.map (fun n=>(n,e)) none) = none:=rfl
  rw [e0]
  by_cases hlt2 : e < s.length
  ·obtain ⟨x,hx⟩ : ∃ x,s[e]? = some x:=⟨_,List.getElem?_eq_getElem hlt2⟩
   have hxn : x.toNat ≠ 40:=fun y=>h41 (by rw [hx,show x = 40 from UInt8.toNat_inj.1 y])
   refine zDm (x:=pR b) rfl <| zC (pR b) (zA zD) rfl <| zC (zP p) (zA (zA hb)) rfl <| zC (pR b) (zA zD) rfl <| zC (AV.str s) (zA (zA hb)) rfl <| zV tN ?_; refine zC (pR b) (zA zD) rfl <| zC (AV.str s) (zA (zA hb)) rfl <| zBB rfl hc <| zV tN <| zV tN <| zV tN ?_; refine zI (hwd) <| zH <| zC (pR b) (zA zD) rfl <| z7 hwo (fun h=>by cases h) <| zG (v:=AV.str t) [AV.str t] zD rfl rfl rfl rfl <| zC (pR b) (zB tA (zA (zB tA (zA zD)))) rfl ?_
   refine zC (zP e) (zB tA (zA (zE (zA (zA hb))))) rfl <| zC (pR b) (zB tA (zA (zB tA (zA zD)))) rfl <| zC (AV.str s) (zB tA (zA (zE (zA (zA hb))))) rfl <| za tT <| zC (pR b) (zB tA (zA (zB tA (zA zD)))) rfl <| zC (AV.str s) (zB tA (zA (zE (zA (zA hb))))) rfl ?_; refine zC (pR b) (zB tA (zA (zB tA (zA zD)))) rfl <| zC (zP e) (zB tA (zA (zE (zA (zA hb))))) rfl <| zBB rfl hx ?_; refine zH <| zV tN <| zF <| zF <| zC (AV.str t) (zE zD) rfl <| zI (hpl _) ?_
   refine zT rfl <| zT rfl <| zG (v:=ndV zo) (AV.cells (ndV zo)) zD rfl rfl rfl rfl <| zF <| zC (pR b) (zB tA (zA (zB tA (zA (zB tA (zA zD)))))) rfl <| zy (hf _ hP) ?_
   exact zA3 (by first | rfl | assumption) rfl rfl rfl (((((((((OldB.start hb).push _).push _).setB _).push _).set tA _).push _).set tA _).setB _) rfl (by first | exact WkL.refl _ | exact zDj _ _ _) (by first | exact Wk.refl _ | exact zA4 _ _)
  ·refine zDm (x:=pR b) rfl <| zC (pR b) (zA zD) rfl <| zC (zP p) (zA (zA hb)) rfl <| zC (pR b) (zA zD) rfl <| zC (AV.str s) (zA (zA hb)) rfl <| zV tN ?_; refine zC (pR b) (zA zD) rfl <| zC (AV.str s) (zA (zA hb)) rfl <| zBB rfl hc <| zV tN <| zV tN <| zV tN ?_; refine zI (hwd) <| zH <| zC (pR b) (zA zD) rfl <| z7 hwo (fun h=>by cases h) <| zG (v:=AV.str t) [AV.str t] zD rfl rfl rfl rfl <| zC (pR b) (zB tA (zA (zB tA (zA zD)))) rfl ?_
   refine zC (zP e) (zB tA (zA (zE (zA (zA hb))))) rfl <| zC (pR b) (zB tA (zA (zB tA (zA zD)))) rfl <| zC (AV.str s) (zB tA (zA (zE (zA (zA hb))))) rfl ?_; refine zV tF <| zF <| zF <| zF <| zF <| zC (AV.str t) (zE zD) rfl ?_; refine zI (hpl _) <| zT rfl <| zT rfl <| zG (v:=ndV zo) (AV.cells (ndV zo)) zD rfl rfl rfl rfl <| zF <| zC (pR b) (zB tA (zA (zB tA (zA (zB tA (zA zD)))))) rfl ?_; refine zy (hf _ hP) ?_
   exact zA3 (by first | rfl | assumption) rfl rfl rfl (((((((((OldB.start hb).push _).push _).setB _).push _).set tA _).push _).set tA _).setB _) rfl (by first | exact WkL.refl _ | exact zDj _ _ _) (by first | exact Wk.refl _ | exact zA4 _ _)
 | some n=>
  rw [ha] at hpl
  have hpl : ∀ H',C zw [.str t] H' (.tup [ndV n,.bool true]) H':=hpl
  have e0 : mkR s d (Option.map (fun n=>(n,e)) (some n)) = some (ndV n,rdB s e d):=rfl
  rw [e0]
  by_cases hlt2 : e < s.length
  ·obtain ⟨x,hx⟩ : ∃ x,s[e]? = some x:=⟨_,List.getElem?_eq_getElem hlt2⟩
   have hxn : x.toNat ≠ 40:=fun y=>h41 (by rw [hx,show x = 40 from UInt8.toNat_inj.1 y])
   refine zDm (x:=pR b) rfl <| zC (pR b) (zA zD) rfl <| zC (zP p) (zA (zA hb)) rfl <| zC (pR b) (zA zD) rfl <| zC (AV.str s) (zA (zA hb)) rfl <| zV tN ?_; refine zC (pR b) (zA zD) rfl <| zC (AV.str s) (zA (zA hb)) rfl <| zBB rfl hc <| zV tN <| zV tN <| zV tN ?_; refine zI (hwd) <| zH <| zC (pR b) (zA zD) rfl <| z7 hwo (fun h=>by cases h) <| zG (v:=AV.str t) [AV.str t] zD rfl rfl rfl rfl <| zC (pR b) (zB tA (zA (zB tA (zA zD)))) rfl ?_
   refine zC (zP e) (zB tA (zA (zE (zA (zA hb))))) rfl <| zC (pR b) (zB tA (zA (zB tA (zA zD)))) rfl <| zC (AV.str s) (zB tA (zA (zE (zA (zA hb))))) rfl <| za tT <| zC (pR b) (zB tA (zA (zB tA (zA zD)))) rfl <| zC (AV.str s) (zB tA (zA (zE (zA (zA hb))))) rfl ?_; refine zC (pR b) (zB tA (zA (zB tA (zA zD)))) rfl <| zC (zP e) (zB tA (zA (zE (zA (zA hb))))) rfl <| zBB rfl hx ?_; refine zH <| zV tN <| zF <| zF <| zC (AV.str t) (zE zD) rfl <| zI (hpl _) ?_
   refine zT rfl <| zT rfl <| zG (v:=ndV n) (AV.cells (ndV n)) zD rfl rfl rfl rfl <| zH <| zC (ndV n) (zE zD) rfl <| zG (v:=ndV n) (AV.cells (ndV n)) (zB tA (zA (zB tA (zA (zB tA zD))))) rfl rfl rfl rfl ?_
   exact zA2 (o:=0) (ndV n) (by first | rfl | assumption) rfl rfl (zQ (zE (zB tA (zA (zB tA (zA (zB tA zD))))))) rfl rfl rfl (((((((((OldB.start hb).push _).push _).setB _).push _).set tA _).push _).set tA _).set tA _) rfl
  ·refine zDm (x:=pR b) rfl <| zC (pR b) (zA zD) rfl <| zC (zP p) (zA (zA hb)) rfl <| zC (pR b) (zA zD) rfl <| zC (AV.str s) (zA (zA hb)) rfl <| zV tN ?_; refine zC (pR b) (zA zD) rfl <| zC (AV.str s) (zA (zA hb)) rfl <| zBB rfl hc <| zV tN <| zV tN <| zV tN ?_; refine zI (hwd) <| zH <| zC (pR b) (zA zD) rfl <| z7 hwo (fun h=>by cases h) <| zG (v:=AV.str t) [AV.str t] zD rfl rfl rfl rfl <| zC (pR b) (zB tA (zA (zB tA (zA zD)))) rfl ?_
   refine zC (zP e) (zB tA (zA (zE (zA (zA hb))))) rfl <| zC (pR b) (zB tA (zA (zB tA (zA zD)))) rfl <| zC (AV.str s) (zB tA (zA (zE (zA (zA hb))))) rfl ?_; refine zV tF <| zF <| zF <| zF <| zF <| zC (AV.str t) (zE zD) rfl ?_; refine zI (hpl _) <| zT rfl <| zT rfl <| zG (v:=ndV n) (AV.cells (ndV n)) zD rfl rfl rfl rfl <| zH <| zC (ndV n) (zE zD) rfl ?_; refine zG (v:=ndV n) (AV.cells (ndV n)) (zB tA (zA (zB tA (zA (zB tA zD))))) rfl rfl rfl rfl ?_
   exact zA2 (o:=0) (ndV n) (by first | rfl | assumption) rfl rfl (zQ (zE (zB tA (zA (zB tA (zA (zB tA zD))))))) rfl rfl rfl (((((((((OldB.start hb).push _).push _).setB _).push _).set tA _).push _).set tA _).set tA _) rfl
end
end Go.AM
