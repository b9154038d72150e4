/- The reference's parser: tokens. Own work. -/
import Derived.Test.YthllabjbdobpgaaGreatDoorGAm31Rf1
set_option linter.all false
set_option maxRecDepth 20000
namespace Go.AM
def kV (k a e : Nat) (t : Bs) : AV:=.agg [zJ k,zJ a,zJ e,.str t]
def tkAt (s : Bs) (q : Nat) : AV:=match zCX s q with
 | .fin=>kV 0 q q []
 | .word e t=>kV 1 q e t
 | .txt e t=>kV 2 q e t
 | .bad e k=>kV 3 q e (wrongs.getD (k - 1) [])
 | .sign e t=>kV 4 q e t
 | .none=>kV 9 q q []
def tkV (s : Bs) (a : Nat) : AV:=tkAt s (skip s a)
theorem tk_word {s : Bs} {q : Nat} {c : UInt8} (hc : s[q]? = some c) (hw : z6 c = true) : tkAt s q = kV 1 q (zCJ s q) (sub s q (zCJ s q)):=by
 unfold tkAt zCX; rw [hc]; simp only [hw,zND]
theorem tk_txt {s : Bs} {q : Nat} (hc : s[q]? = some 34) : tkAt s q = match quo (s.drop (q + 1)) (q + 1) with
  | some (t,e)=>kV 2 q e t
  | none=>kV 9 q q []:=by
 unfold tkAt zCX; rw [hc]
 have hw : z6 34 = false:=by decide
 simp only [hw,zMm,zNB,zND]
 cases quo (s.drop (q + 1)) (q + 1) with
 | none=>rfl
 | some x=>rfl
def bdV (q : Nat) (r : Option (Nat × Nat)) : AV:=match r with
  | some (k,n)=>kV 3 q (q + n) (wrongs.getD (k - 1) [])
  | none=>kV 9 q q []
theorem tk_bad {s : Bs} {q : Nat} (hc : s[q]? = some 35) : tkAt s q = bdV q (zJ8 (s.drop q) wrongs 1):=by
 unfold tkAt zCX bdV; rw [hc]
 have hw : z6 35 = false:=by decide
 have h1 : ¬ ((35 : UInt8) = 34):=by decide
 simp only [hw,zMm,zNB,zND,h1]
 cases zJ8 (s.drop q) wrongs 1 with
 | none=>rfl
 | some x=>rfl
theorem tk_sign {s : Bs} {q : Nat} {c : UInt8} (hc : s[q]? = some c) (hw : ¬ z6 c = true) (h34 : c ≠ 34) (h35 : c ≠ 35) : tkAt s q = kV 4 q (q + (zIc c s[q + 1]?).length) (zIc c s[q + 1]?):=by
 unfold tkAt zCX zIc; rw [hc]
 simp only [hw,zNB,h34,h35]
 cases s[q + 1]? with
 | none=>rfl
 | some d=>
  simp only
  by_cases hx : (c = 60 ∧ d = 62) ∨ (c = 60 ∧ d = 61) ∨ (c = 62 ∧ d = 61)
  ·simp only [zMg hx]; rfl
  ·simp only [zMe hx]; rfl
theorem sub_two {s : Bs} {q : Nat} {c d : UInt8} (h1 : s[q]? = some c) (h2 : s[q + 1]? = some d) : sub s q (q + 2) = [c,d]:=by
 unfold sub
 rw [zOQ,zBD h1,zBD h2]; rfl
theorem sub_one {s : Bs} {q : Nat} {c : UInt8} (h1 : s[q]? = some c) : sub s q (q + 1) = [c]:=by
 unfold sub
 rw [zOQ,zBD h1]; rfl
structure KSt where
 i : Nat
 v : AV
 acc : Bs
section
variable {C : CSpec} {GT : Nat → Option AV}
set_option maxHeartbeats 4000000 in
theorem rtoken_ev (hW : ∀ c H,C zBY [byV c] H (.bool (z6 c)) H) (hR : ∀ H,C zA9 [] H (.lst (some false) 1 (wrL.map AV.str)) H)
  (s : Bs) (a : Nat) (H : Heap) (ha : a ≤ s.length) (hl : s.length ≤ 1000) : EFun C GT zEY [.str s,zJ a] H (tkV s a) H:=by
 obtain ⟨q,hq⟩ : ∃ q,skip s a = q:=⟨_,rfl⟩
 unfold tkV
 rw [hq]
 refine zc ?_; refine zBB (fun k : Nat=>[(1,zJ k),(4,pR H.length),(0,.str s)]) (fun k H'=>H' = H ++ [.box zV4] ∧ k ≤ s.length ∧ skip s k = q) (fun k=>s.length - k) a rfl ⟨rfl,ha,hq⟩ (fun k H1 ⟨e,hk,hs⟩=>?_)
 subst e
 clear ha hq
 try dsimp only
 by_cases hlt : k < s.length
 case neg=>
  have hkq : k = q:=by rw [zDl (by rw [zNY tO]; simp)] at hs; exact hs
  have e : tkAt s q = kV 0 q q []:=by
   unfold tkAt zCX
   rw [← hkq,zNY tO]
  subst hkq
  rw [e]
  clear hW hR
  refine zO tF <| zG <| zG <| zP tE <| zS (v:=[.int .i64 0,zJ k,zJ k,AV.str []]) rfl <| zF (v:=AV.agg [.int .i64 0,zJ k,zJ k,AV.str []]) (AV.cells (AV.agg [.int .i64 0,zJ k,zJ k,AV.str []])) zD rfl rfl rfl rfl ?_
  exact zBi (a:=4) (s:=4) (ag:=true) (o:=0) rfl rfl (zL (zE zD)) rfl rfl rfl (((Old.refl _).push _).set (zMh _) _)
 obtain ⟨c,hc⟩ : ∃ c,s[k]? = some c:=⟨_,zMf hlt⟩
 by_cases h32 : c = 32
 ·subst h32
  rw [zJ6 hc] at hs
  clear hW hR
  refine zP tT <| zn rfl hc <| zH <| zP (tE (by rfl)) <| zM (r:=k + 1) rfl tO ?_
  exact zAA (k + 1) rfl ⟨rfl,by omega,hs⟩ tO
 have hkq : k = q:=by rw [zDl (by rw [hc]; intro h; exact h32 (zM5 h))] at hs; exact hs
 subst hkq
 clear hs
 have h32' : c.toNat ≠ 32:=fun h=>h32 (zM0.1 h)
 have hw:=hW c
 by_cases hwc : z6 c = true
 ·rw [tk_word hc hwc]
  have hge:=zJ7 s k
  have hle:=zHX hk
  rw [hwc] at hw
  clear hR
  refine zP tT <| zn rfl hc <| zH <| zO tN <| zO tN <| zn rfl hc ?_; refine zI (hw _) <| zH ?_; refine zBB (fun j : Nat=>[(7,zJ j),(4,pR H.length),(1,zJ k),(0,.str s)]) (fun j H'=>H' = H ++ [.box zV4] ∧ k ≤ j ∧ j ≤ s.length ∧ zCJ s j = zCJ s k) (fun j=>s.length - j) k rfl ⟨rfl,zMh _,hk,rfl⟩ (fun j H1 ⟨e,hkj,hj,hs⟩=>?_)
  subst e
  clear hw
  try dsimp only
  by_cases hjl : j < s.length
  ·obtain ⟨c2,hc2⟩ : ∃ c,s[j]? = some c:=⟨_,zMf hjl⟩
   have hw2:=hW c2
   clear hW
   by_cases hwc2 : z6 c2 = true
   ·rw [zFz hc2 hwc2] at hs
    rw [hwc2] at hw2
    refine zP tT <| zn rfl hc2 <| zI (hw2 _) <| zH <| zH <| zM (r:=j + 1) rfl tO ?_
    exact zAA (j + 1) rfl ⟨rfl,by omega,by omega,hs⟩ tO
   ·have hwc2:=zNL.2 hwc2
    rw [zF0 (fun c' h=>by rw [hc2] at h; cases h; exact hwc2)] at hs
    rw [hwc2] at hw2
    rw [← hs]
    refine zP tT <| zn rfl hc2 <| zI (hw2 _) <| zH <| zG <| zS (zC3 s k j hkj hj) ?_; refine zS (v:=[.int .i64 1,zJ k,zJ j,AV.str (sub s k j)]) rfl <| zF (v:=AV.agg [.int .i64 1,zJ k,zJ j,AV.str (sub s k j)]) (AV.cells (AV.agg [.int .i64 1,zJ k,zJ j,AV.str (sub s k j)])) zD rfl rfl rfl rfl ?_
    exact zBi (a:=4) (s:=4) (ag:=true) (o:=0) rfl rfl (zL (zE zD)) rfl rfl rfl (((Old.refl _).push _).set (zMh _) _)
  ·rw [zF0 (fun c' h=>by rw [zNY tO] at h; cases h)] at hs
   rw [← hs]
   clear hW
   refine zO tF <| zG <| zG <| zS (zC3 s k j hkj hj) <| zS (v:=[.int .i64 1,zJ k,zJ j,AV.str (sub s k j)]) rfl <| zF (v:=AV.agg [.int .i64 1,zJ k,zJ j,AV.str (sub s k j)]) (AV.cells (AV.agg [.int .i64 1,zJ k,zJ j,AV.str (sub s k j)])) zD rfl rfl rfl rfl ?_
   exact zBi (a:=4) (s:=4) (ag:=true) (o:=0) rfl rfl (zL (zE zD)) rfl rfl rfl (((Old.refl _).push _).set (zMh _) _)
 have hwf:=zNL.2 hwc
 rw [hwf] at hw
 by_cases h34 : c = 34
 ·subst h34
  rw [tk_txt hc]
  obtain ⟨r,hr⟩ : ∃ r,quo (s.drop (k + 1)) (k + 1) = r:=⟨_,rfl⟩
  rw [hr]
  clear hR hW
  refine zP tT <| zn rfl hc <| zH <| zO (tN (by first | decide | omega)) <| zO (tN (by first | decide | omega)) <| zn rfl hc ?_; refine zI (hw _) <| zO (tN (by first | decide | omega)) <| zP (tE (by rfl)) <| zM (r:=k + 1) rfl tO ?_; refine zBB (fun x : KSt=>[(9,zJ x.i),(8,x.v),(4,pR H.length),(1,zJ k),(0,.str s)])
   (fun x H'=>Owns (H ++ [ABlk.box zV4]) H' x.v 1 (x.acc.map zBs) ∧ Old (H ++ [ABlk.box zV4]) H' ∧ x.i ≤ s.length ∧ x.acc.length ≤ x.i ∧ (quo (s.drop x.i) x.i).map (fun p=>(x.acc ++ p.1,p.2)) = r)
   (fun x=>s.length - x.i) ⟨k + 1,.lst (some true) 0 [],[]⟩ rfl ⟨.inl ⟨rfl,rfl⟩,Old.refl _,by simp only; omega,by simp,by simp only [zN1]; rw [hr]; cases r <;> rfl⟩ (fun ⟨i,v,acc⟩ H1 ⟨how,hO,hi,hal,hq⟩=>?_)
  dsimp only at how hO hi hal hq ⊢
  clear hw hr
  have h4 : H1[H.length]? = some (.box zV4):=by rw [hO.2 H.length (by simp)]; exact zD
  have hOH : Old H H1:=⟨by have:=hO.1; simp at this; omega,fun c hc=>by rw [hO.2 c (by simp; omega)]; exact zMo hc⟩
  by_cases hil : i < s.length
  case neg=>
   have e : r = none:=by rw [← hq,zNx tO]; rfl
   subst e
   refine zO tF <| zS (v:=[.int .i64 9,zJ k,zJ k,AV.str []]) rfl <| zF (v:=AV.agg [.int .i64 9,zJ k,zJ k,AV.str []]) (AV.cells (AV.agg [.int .i64 9,zJ k,zJ k,AV.str []])) h4 rfl rfl rfl rfl ?_
   exact zBi (a:=4) (s:=4) (ag:=true) (o:=0) rfl rfl (zL (zE h4)) rfl rfl rfl (hOH.set (zMh _) _)
  obtain ⟨c,hci⟩ : ∃ c,s[i]? = some c:=⟨_,zMf hil⟩
  rw [zBD hci] at hq
  by_cases h34 : c = 34
  ·subst h34
   by_cases hend : i + 1 < s.length ∧ s[i + 1]? = some 34
   ·obtain ⟨hlt2,hc2⟩:=hend
    rw [zBD hc2,quo_dbl,zPV] at hq
    refine zP tT <| zn rfl hci <| zP (tE (by rfl)) <| zM (r:=i + 1) rfl tO <| zP tT <| zM (r:=i + 1) rfl tO ?_; refine zn rfl hc2 <| zH <| zP (tE (by rfl)) <| zAD (vs':=[AV.int IntKind.u8 34]) rfl rfl ?_; refine zAV (H0:=H ++ [ABlk.box zV4]) (how.push _) (hO.push _) zAB tO (by simp only [zMl,zMi,zMt]; omega) (by simp) fun v' H' ho' hH' hb' hf=>?_
    refine zM (r:=i + 2) rfl tO ?_; refine zAA (KSt.mk (i + 2) v' (acc ++ [34])) rfl ⟨by rw [zM2]; exact ho',hH',by simp only; omega,by simp only [zMn,zMi,zMt]; omega, ?_⟩ (by simp only; omega)
    rw [← hq]
    simp only [zNc,zOX]
    rfl
   ·rw [quo_end (by
     intro e
     have hlt2 : i + 1 < s.length:=by
      rcases zOB (i + 1) s.length with h | h
      ·exact h
      ·rw [zNx h] at e; cases e
     refine hend ⟨hlt2, ?_⟩
     rw [List.head?_drop] at e
     exact e)] at hq
    subst hq
    have e0 : (match (Option.map (fun p : Bs × Nat=>(acc ++ p.1,p.2)) (some ([],i + 1))) with
     | some (t,e)=>kV 2 k e t
     | none=>kV 9 k k []) = kV 2 k (i + 1) acc:=by simp
    rw [e0]
    by_cases hlt2 : i + 1 < s.length
    ·obtain ⟨c2,hc2⟩ : ∃ c,s[i + 1]? = some c:=⟨_,zMf hlt2⟩
     have hn : c2.toNat ≠ 34:=fun e=>hend ⟨hlt2,by rw [hc2,show c2 = 34 from zM0.1 e]⟩
     refine zP tT <| zn rfl hci <| zP (tE (by rfl)) <| zM (r:=i + 1) rfl tO <| zP tT <| zM (r:=i + 1) rfl tO ?_; refine zn rfl hc2 <| zH <| zO tN <| zM (r:=i + 1) rfl tO <| zI2 how <| zS (v:=[.int .i64 2,zJ k,.int .i64 ↑(i + 1),AV.str acc]) rfl ?_; refine zF (v:=AV.agg [.int .i64 2,zJ k,.int .i64 ↑(i + 1),AV.str acc]) (AV.cells (AV.agg [.int .i64 2,zJ k,.int .i64 ↑(i + 1),AV.str acc])) h4 rfl rfl rfl rfl ?_
     exact zBi (a:=4) (s:=4) (ag:=true) (o:=0) rfl rfl (zL (zE h4)) rfl rfl rfl (hOH.set (zMh _) _)
    ·refine zP tT <| zn rfl hci <| zP (tE (by rfl)) <| zM (r:=i + 1) rfl tO ?_; refine zO tF <| zG <| zG <| zM (r:=i + 1) rfl tO <| zI2 how <| zS (v:=[.int .i64 2,zJ k,.int .i64 ↑(i + 1),AV.str acc]) rfl ?_; refine zF (v:=AV.agg [.int .i64 2,zJ k,.int .i64 ↑(i + 1),AV.str acc]) (AV.cells (AV.agg [.int .i64 2,zJ k,.int .i64 ↑(i + 1),AV.str acc])) h4 rfl rfl rfl rfl ?_
     exact zBi (a:=4) (s:=4) (ag:=true) (o:=0) rfl rfl (zL (zE h4)) rfl rfl rfl (hOH.set (zMh _) _)
  ·have hn : c.toNat ≠ 34:=fun e=>h34 (zM0.1 e)
   rw [quo_chr h34,zPV] at hq
   refine zP tT <| zn rfl hci <| zO tN <| zn rfl hci <| zAD (vs':=[zBs c]) rfl rfl ?_; refine zAV (H0:=H ++ [ABlk.box zV4]) (how.push _) (hO.push _) zAB tO (by simp only [zMl,zMi,zMt]; omega) (by simp) fun v' H' ho' hH' hb' hf=>?_; refine zM (r:=i + 1) rfl tO ?_; refine zAA (KSt.mk (i + 1) v' (acc ++ [c])) rfl ⟨by rw [zM2]; exact ho',hH',by simp only; omega,by simp only [zMn,zMi,zMt]; omega, ?_⟩ (by simp only; omega)
   rw [← hq]
   simp only [zNc,zOX]
   rfl
 by_cases h35 : c = 35
 ·subst h35
  rw [tk_bad hc]
  clear hW
  refine zP tT <| zn rfl hc <| zH <| zO (tN (by first | decide | omega)) <| zO (tN (by first | decide | omega)) <| zn rfl hc ?_; refine zI (hw _) <| zO (tN (by first | decide | omega)) <| zO (tN (by first | decide | omega)) <| zP (tE (by rfl)) <| zI (hR _) ?_
  obtain ⟨r,hr⟩ : ∃ r,bdV k (zJ8 (s.drop k) wrongs 1) = r:=⟨_,rfl⟩
  rw [hr]
  have hwl : (List.map AV.str wrL).length = 7:=rfl
  refine zBB (fun i : Nat=>[(4,pR H.length),(11,zJ i),(10,.lst (some false) 1 (wrL.map AV.str)),(1,zJ k),(0,.str s)]) (fun i H'=>H' = H ++ [.box zV4] ∧ 1 ≤ i ∧ i ≤ 7 ∧ bdV k (zJ8 (s.drop k) (wrongs.drop (i - 1)) i) = r) (fun i=>7 - i) 1 rfl ⟨rfl,by omega,by omega,hr⟩ (fun i H1 ⟨e,h1,hi,hq⟩=>?_)
  subst e
  clear hw hR hr
  try dsimp only
  by_cases hlt7 : i < 7
  ·obtain ⟨t,ht⟩ : ∃ t,wrL[i]? = some t:=⟨_,zMf hlt7⟩
   have htm : (wrL.map AV.str)[i]? = some (AV.str t):=by rw [zMq,ht]; rfl
   have htl : t.length ≤ 10:=by
    rcases i with _ | _ | _ | _ | _ | _ | _ | i
    all_goals first | (cases ht; decide) | omega
   have hdr : wrongs.drop (i - 1) = t :: wrongs.drop i:=by
    obtain ⟨j,rfl⟩ : ∃ j,i = j + 1:=⟨i - 1,by omega⟩
    rw [zNg,zN8 (by have : wrongs.length = 6:=rfl; omega)]
    have ht' : wrongs[j]? = some t:=ht
    rw [(zg ht').2]
   have hgd : wrongs.getD (i - 1) [] = t:=by
    obtain ⟨j,rfl⟩ : ∃ j,i = j + 1:=⟨i - 1,by omega⟩
    have ht' : wrongs[j]? = some t:=ht
    rw [zNg,zOZ,ht']; rfl
   rw [hdr] at hq
   unfold zJ8 at hq
   have hnx : wrongs.drop i = wrongs.drop (i + 1 - 1):=rfl
   by_cases hle : k + t.length ≤ s.length
   ·have hsl:=zC3 s k (k + t.length) tO hle
    have hst : sub s k (k + t.length) = (s.drop k).take t.length:=by unfold sub; rw [zOQ]
    rw [hst] at hsl
    by_cases he : (s.drop k).take t.length = t
    ·rw [zMg he] at hq
     have hq : kV 3 k (k + t.length) t = r:=by rw [← hq]; show kV 3 k (k + t.length) t = kV 3 k (k + t.length) (wrongs.getD (i - 1) []); rw [hgd]
     subst hq
     refine sLenL <| zP tT <| sIdx rfl htm <| zk (.str t) rfl <| zM (r:=k + t.length) rfl tO <| zP tT ?_; refine zM (r:=k + t.length) rfl tO <| zS hsl <| sIdx rfl htm <| zk (.str t) rfl <| zH <| zP (tE he) ?_; refine zM (r:=k + t.length) rfl tO <| sIdx rfl htm <| zk (.str t) rfl <| zS (v:=[.int .i64 3,zJ k,.int .i64 ↑(k + List.length t),AV.str t]) rfl <| zF (v:=AV.agg [.int .i64 3,zJ k,.int .i64 ↑(k + List.length t),AV.str t]) (AV.cells (AV.agg [.int .i64 3,zJ k,.int .i64 ↑(k + List.length t),AV.str t])) zD rfl rfl rfl rfl ?_
     exact zBi (a:=4) (s:=4) (ag:=true) (o:=0) rfl rfl (zL (zE zD)) rfl rfl rfl (((Old.refl _).push _).set (zMh _) _)
    ·rw [zMe he] at hq
     refine sLenL <| zP tT <| sIdx rfl htm <| zk (.str t) rfl <| zM (r:=k + t.length) rfl tO <| zP tT ?_; refine zM (r:=k + t.length) rfl tO <| zS hsl <| sIdx rfl htm <| zk (.str t) rfl <| zH <| zO (tN he) ?_; refine zM (r:=i + 1) rfl tO ?_
     exact zAA (i + 1) rfl ⟨rfl,by omega,by omega,hq⟩ tO
   ·have he : ¬ (s.drop k).take t.length = t:=fun e=>by
     have:=zM1 List.length e
     rw [zMy,zNQ] at this
     omega
    rw [zMe he] at hq
    refine sLenL <| zP tT <| sIdx rfl htm <| zk (.str t) rfl <| zM (r:=k + t.length) rfl tO ?_; refine zO tF <| zG <| zG <| zM (r:=i + 1) rfl tO ?_
    exact zAA (i + 1) rfl ⟨rfl,by omega,by omega,hq⟩ tO
  ·have e7 : i = 7:=by omega
   subst e7
   have hq : kV 9 k k [] = r:=hq
   subst hq
   refine sLenL <| zO (tF (by decide)) <| zS (v:=[.int .i64 9,zJ k,zJ k,AV.str []]) rfl <| zF (v:=AV.agg [.int .i64 9,zJ k,zJ k,AV.str []]) (AV.cells (AV.agg [.int .i64 9,zJ k,zJ k,AV.str []])) zD rfl rfl rfl rfl ?_
   exact zBi (a:=4) (s:=4) (ag:=true) (o:=0) rfl rfl (zL (zE zD)) rfl rfl rfl (((Old.refl _).push _).set (zMh _) _)
 rw [tk_sign hc hwc h34 h35]
 clear hW hR
 have h34' : c.toNat ≠ 34:=fun h=>h34 (zM0.1 h)
 have h35' : c.toNat ≠ 35:=fun h=>h35 (zM0.1 h)
 by_cases h2 : k + 2 ≤ s.length
 ·obtain ⟨d,hd⟩ : ∃ d,s[k + 1]? = some d:=⟨_,zMf tO⟩
  have h2s:=zC3 s k (k + 2) tO h2
  have h1s:=zC3 s k (k + 1) tO tO
  rw [sub_two hc hd] at h2s
  rw [sub_one hc] at h1s
  rw [hd]
  unfold zIc
  simp only
  by_cases hx : (c = 60 ∧ d = 62) ∨ (c = 60 ∧ d = 61) ∨ (c = 62 ∧ d = 61)
  ·rw [zMg hx]
   rcases hx with ⟨rfl,rfl⟩ | ⟨rfl,rfl⟩ | ⟨rfl,rfl⟩
   ·refine zP tT <| zn rfl hc <| zH <| zO (tN (by first | decide | omega)) <| zO (tN (by first | decide | omega)) <| zn rfl hc ?_; refine zI (hw _) <| zO (tN (by first | decide | omega)) <| zO (tN (by first | decide | omega)) <| zO (tN (by first | decide | omega)) <| zM (r:=k + 2) rfl tO <| zP tT ?_; refine zM (r:=k + 2) rfl tO <| zS h2s ?_; refine zH <| zH <| zH <| zH <| zH <| zM (r:=k + 2) rfl tO ?_
    refine zS (v:=[.int .i64 4,zJ k,.int .i64 ↑(k + 2),AV.str [60,62]]) rfl <| zF (v:=AV.agg [.int .i64 4,zJ k,.int .i64 ↑(k + 2),AV.str [60,62]]) (AV.cells (AV.agg [.int .i64 4,zJ k,.int .i64 ↑(k + 2),AV.str [60,62]])) zD rfl rfl rfl rfl ?_
    exact zBi (a:=4) (s:=4) (ag:=true) (o:=0) rfl rfl (zL (zE zD)) rfl rfl rfl (((Old.refl _).push _).set (zMh _) _)
   ·refine zP tT <| zn rfl hc <| zH <| zO (tN (by first | decide | omega)) <| zO (tN (by first | decide | omega)) <| zn rfl hc ?_; refine zI (hw _) <| zO (tN (by first | decide | omega)) <| zO (tN (by first | decide | omega)) <| zO (tN (by first | decide | omega)) <| zM (r:=k + 2) rfl tO <| zP tT ?_; refine zM (r:=k + 2) rfl tO <| zS h2s ?_; refine zO (tN (by first | decide | omega)) <| zO (tN (by first | decide | omega)) <| zH <| zH <| zH <| zM (r:=k + 2) rfl tO ?_
    refine zS (v:=[.int .i64 4,zJ k,.int .i64 ↑(k + 2),AV.str [60,61]]) rfl <| zF (v:=AV.agg [.int .i64 4,zJ k,.int .i64 ↑(k + 2),AV.str [60,61]]) (AV.cells (AV.agg [.int .i64 4,zJ k,.int .i64 ↑(k + 2),AV.str [60,61]])) zD rfl rfl rfl rfl ?_
    exact zBi (a:=4) (s:=4) (ag:=true) (o:=0) rfl rfl (zL (zE zD)) rfl rfl rfl (((Old.refl _).push _).set (zMh _) _)
   ·refine zP tT <| zn rfl hc <| zH <| zO (tN (by first | decide | omega)) <| zO (tN (by first | decide | omega)) <| zn rfl hc ?_; refine zI (hw _) <| zO (tN (by first | decide | omega)) <| zO (tN (by first | decide | omega)) <| zO (tN (by first | decide | omega)) <| zM (r:=k + 2) rfl tO <| zP tT ?_; refine zM (r:=k + 2) rfl tO <| zS h2s ?_; refine zO (tN (by first | decide | omega)) <| zO (tN (by first | decide | omega)) <| zO (tN (by first | decide | omega)) <| zO (tN (by first | decide | omega)) <| zH <| zM (r:=k + 2) rfl tO ?_
    refine zS (v:=[.int .i64 4,zJ k,.int .i64 ↑(k + 2),AV.str [62,61]]) rfl <| zF (v:=AV.agg [.int .i64 4,zJ k,.int .i64 ↑(k + 2),AV.str [62,61]]) (AV.cells (AV.agg [.int .i64 4,zJ k,.int .i64 ↑(k + 2),AV.str [62,61]])) zD rfl rfl rfl rfl ?_
    exact zBi (a:=4) (s:=4) (ag:=true) (o:=0) rfl rfl (zL (zE zD)) rfl rfl rfl (((Old.refl _).push _).set (zMh _) _)
  ·rw [zMe hx,show k + ([c] : Bs).length = k + 1 from rfl]
   have n1 : ([c,d] == ([60,62] : Bs)) = false:=tN fun e=>hx (by simp only [zNv,zOY] at e; exact .inl e)
   have n2 : ([c,d] == ([60,61] : Bs)) = false:=tN fun e=>hx (by simp only [zNv,zOY] at e; exact .inr (.inl e))
   have n3 : ([c,d] == ([62,61] : Bs)) = false:=tN fun e=>hx (by simp only [zNv,zOY] at e; exact .inr (.inr e))
   refine zP tT <| zn rfl hc <| zH <| zO tN <| zO tN <| zn rfl hc ?_; refine zI (hw _) <| zG <| zO tN <| zO tN <| zM (r:=k + 2) rfl tO <| zP tT ?_; refine zM (r:=k + 2) rfl tO <| zS h2s <| zO n1 <| zG <| zO n2 <| zG ?_; refine zO n3 <| zM (r:=k + 1) rfl tO <| zM (r:=k + 1) rfl tO <| zS h1s <| zS (v:=[.int .i64 4,zJ k,.int .i64 ↑(k + 1),AV.str [c]]) rfl <| zF (v:=AV.agg [.int .i64 4,zJ k,.int .i64 ↑(k + 1),AV.str [c]]) (AV.cells (AV.agg [.int .i64 4,zJ k,.int .i64 ↑(k + 1),AV.str [c]])) zD rfl rfl rfl rfl ?_
   exact zBi (a:=4) (s:=4) (ag:=true) (o:=0) rfl rfl (zL (zE zD)) rfl rfl rfl (((Old.refl _).push _).set (zMh _) _)
 ·have h1s:=zC3 s k (k + 1) tO tO
  rw [sub_one hc] at h1s
  have e : zIc c s[k + 1]? = [c]:=by rw [zNY tO]; rfl
  rw [e,show k + ([c] : Bs).length = k + 1 from rfl]
  refine zP tT <| zn rfl hc <| zH <| zO tN <| zO tN <| zn rfl hc ?_; refine zI (hw _) <| zG <| zO tN <| zO tN <| zM (r:=k + 2) rfl tO <| zO tF ?_; refine zM (r:=k + 1) rfl tO <| zM (r:=k + 1) rfl tO <| zS h1s <| zS (v:=[.int .i64 4,zJ k,.int .i64 ↑(k + 1),AV.str [c]]) rfl <| zF (v:=AV.agg [.int .i64 4,zJ k,.int .i64 ↑(k + 1),AV.str [c]]) (AV.cells (AV.agg [.int .i64 4,zJ k,.int .i64 ↑(k + 1),AV.str [c]])) zD rfl rfl rfl rfl ?_
  exact zBi (a:=4) (s:=4) (ag:=true) (o:=0) rfl rfl (zL (zE zD)) rfl rfl rfl (((Old.refl _).push _).set (zMh _) _)
end
end Go.AM
