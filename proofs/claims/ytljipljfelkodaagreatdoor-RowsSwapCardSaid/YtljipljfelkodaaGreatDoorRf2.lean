/- The reference's parser: tokens. Own work. -/
import Derived.Test.YtljipljfelkodaaGreatDoorGAm31Rf1
set_option linter.all false
set_option maxRecDepth 20000
namespace Go.AM
def kV (k a e : Nat) (t : Bs) : AV:=.agg [zK k,zK a,zK e,.str t]
def tkAt (s : Bs) (q : Nat) : AV:=match zB4 s q with
 | .fin=>kV 0 q q []
 | .word e t=>kV 1 q e t
 | .txt e t=>kV 2 q e t
 | .bad e k=>kV 3 q e (wrongs.getD (k - 1) [])
 | .sign e t=>kV 4 q e t
 | .none=>kV 9 q q []
def tkV (s : Bs) (a : Nat) : AV:=tkAt s (skip s a)
theorem tk_word {s : Bs} {q : Nat} {c : UInt8} (hc : s[q]? = some c) (hw : zu c = true) : tkAt s q = kV 1 q (zB5 s q) (sub s q (zB5 s q)):=by
 unfold tkAt zB4; rw [hc]; simp only [hw,zMR]
theorem tk_txt {s : Bs} {q : Nat} (hc : s[q]? = some 34) : tkAt s q = match quo (s.drop (q + 1)) (q + 1) with
  | some (t,e)=>kV 2 q e t
  | none=>kV 9 q q []:=by
 unfold tkAt zB4; rw [hc]
 have hw : zu 34 = false:=by decide
 simp only [hw,zL5,zMP,zMR]
 cases quo (s.drop (q + 1)) (q + 1) with
 | none=>rfl
 | some x=>rfl
def bdV (q : Nat) (r : Option (Nat × Nat)) : AV:=match r with
  | some (k,n)=>kV 3 q (q + n) (wrongs.getD (k - 1) [])
  | none=>kV 9 q q []
theorem tk_bad {s : Bs} {q : Nat} (hc : s[q]? = some 35) : tkAt s q = bdV q (zIG (s.drop q) wrongs 1):=by
 unfold tkAt zB4 bdV; rw [hc]
 have hw : zu 35 = false:=by decide
 have h1 : ¬ ((35 : UInt8) = 34):=by decide
 simp only [hw,zL5,zMP,zMR,h1]
 cases zIG (s.drop q) wrongs 1 with
 | none=>rfl
 | some x=>rfl
theorem tk_sign {s : Bs} {q : Nat} {c : UInt8} (hc : s[q]? = some c) (hw : ¬ zu c = true) (h34 : c ≠ 34) (h35 : c ≠ 35) : tkAt s q = kV 4 q (q + (zID c s[q + 1]?).length) (zID c s[q + 1]?):=by
 unfold tkAt zB4 zID; rw [hc]
 simp only [hw,zMP,h34,h35]
 cases s[q + 1]? with
 | none=>rfl
 | some d=>
  simp only
  by_cases hx : (c = 60 ∧ d = 62) ∨ (c = 60 ∧ d = 61) ∨ (c = 62 ∧ d = 61)
  ·simp only [zLx hx]; rfl
  ·simp only [zLv hx]; rfl
theorem sub_two {s : Bs} {q : Nat} {c d : UInt8} (h1 : s[q]? = some c) (h2 : s[q + 1]? = some d) : sub s q (q + 2) = [c,d]:=by
 unfold sub
 rw [zNX,zA3 h1,zA3 h2]; rfl
theorem sub_one {s : Bs} {q : Nat} {c : UInt8} (h1 : s[q]? = some c) : sub s q (q + 1) = [c]:=by
 unfold sub
 rw [zNX,zA3 h1]; rfl
structure KSt where
 i : Nat
 v : AV
 acc : Bs
section
variable {C : CSpec} {GT : Nat → Option AV}
set_option maxHeartbeats 4000000 in
theorem rtoken_ev (hW : ∀ c H,C zBR [byV c] H (.bool (zu c)) H) (hR : ∀ H,C zA2 [] H (.lst (some false) 1 (wrL.map AV.str)) H)
  (s : Bs) (a : Nat) (H : Heap) (ha : a ≤ s.length) (hl : s.length ≤ 1000) : EFun C GT zEG [.str s,zK a] H (tkV s a) H:=by
 obtain ⟨q,hq⟩ : ∃ q,skip s a = q:=⟨_,rfl⟩
 unfold tkV
 rw [hq]
 refine zZ ?_; refine zBm (fun k : Nat=>[(1,zK k),(4,pR H.length),(0,.str s)]) (fun k H'=>H' = H ++ [.box zV4] ∧ k ≤ s.length ∧ skip s k = q) (fun k=>s.length - k) a rfl ⟨rfl,ha,hq⟩ (fun k H1 ⟨e,hk,hs⟩=>?_)
 subst e
 clear ha hq
 try dsimp only
 by_cases hlt : k < s.length
 case neg=>
  have hkq : k = q:=by rw [zDR (by rw [zMo tO]; simp)] at hs; exact hs
  have e : tkAt s q = kV 0 q q []:=by
   unfold tkAt zB4
   rw [← hkq,zMo tO]
  subst hkq
  rw [e]
  clear hW hR
  refine zY tF <| zF <| zF <| zb tE <| zl (v:=[.int .i64 0,zK k,zK k,AV.str []]) rfl <| zH (v:=AV.agg [.int .i64 0,zK k,zK k,AV.str []]) (AV.cells (AV.agg [.int .i64 0,zK k,zK k,AV.str []])) zB rfl rfl rfl rfl ?_
  exact zBd (a:=4) (s:=4) (ag:=true) (o:=0) rfl rfl (zJ (zE zB)) rfl rfl rfl (((Old.refl _).push _).set (zL0 _) _)
 obtain ⟨c,hc⟩ : ∃ c,s[k]? = some c:=⟨_,zLy hlt⟩
 by_cases h32 : c = 32
 ·subst h32
  rw [zJe hc] at hs
  clear hW hR
  refine zb tT <| zr rfl hc <| zG <| zb (tE (by rfl)) <| zN (r:=k + 1) rfl tO ?_
  exact zAU (k + 1) rfl ⟨rfl,by omega,hs⟩ tO
 have hkq : k = q:=by rw [zDR (by rw [hc]; intro h; exact h32 (zMI h))] at hs; exact hs
 subst hkq
 clear hs
 have h32' : c.toNat ≠ 32:=fun h=>h32 (zME.1 h)
 have hw:=hW c
 by_cases hwc : zu c = true
 ·rw [tk_word hc hwc]
  have hge:=zIA s k
  have hle:=zHC hk
  rw [hwc] at hw
  clear hR
  refine zb tT <| zr rfl hc <| zG <| zY tN <| zY tN <| zr rfl hc ?_; refine zL (hw _) <| zG ?_; refine zBm (fun j : Nat=>[(7,zK j),(4,pR H.length),(1,zK k),(0,.str s)]) (fun j H'=>H' = H ++ [.box zV4] ∧ k ≤ j ∧ j ≤ s.length ∧ zB5 s j = zB5 s k) (fun j=>s.length - j) k rfl ⟨rfl,zL0 _,hk,rfl⟩ (fun j H1 ⟨e,hkj,hj,hs⟩=>?_)
  subst e
  clear hw
  try dsimp only
  by_cases hjl : j < s.length
  ·obtain ⟨c2,hc2⟩ : ∃ c,s[j]? = some c:=⟨_,zLy hjl⟩
   have hw2:=hW c2
   clear hW
   by_cases hwc2 : zu c2 = true
   ·rw [zFf hc2 hwc2] at hs
    rw [hwc2] at hw2
    refine zb tT <| zr rfl hc2 <| zL (hw2 _) <| zG <| zG <| zN (r:=j + 1) rfl tO ?_
    exact zAU (j + 1) rfl ⟨rfl,by omega,by omega,hs⟩ tO
   ·have hwc2:=zMe.2 hwc2
    rw [zFg (fun c' h=>by rw [hc2] at h; cases h; exact hwc2)] at hs
    rw [hwc2] at hw2
    rw [← hs]
    refine zb tT <| zr rfl hc2 <| zL (hw2 _) <| zG <| zF <| zl (zCr s k j hkj hj) ?_; refine zl (v:=[.int .i64 1,zK k,zK j,AV.str (sub s k j)]) rfl <| zH (v:=AV.agg [.int .i64 1,zK k,zK j,AV.str (sub s k j)]) (AV.cells (AV.agg [.int .i64 1,zK k,zK j,AV.str (sub s k j)])) zB rfl rfl rfl rfl ?_
    exact zBd (a:=4) (s:=4) (ag:=true) (o:=0) rfl rfl (zJ (zE zB)) rfl rfl rfl (((Old.refl _).push _).set (zL0 _) _)
  ·rw [zFg (fun c' h=>by rw [zMo tO] at h; cases h)] at hs
   rw [← hs]
   clear hW
   refine zY tF <| zF <| zF <| zl (zCr s k j hkj hj) <| zl (v:=[.int .i64 1,zK k,zK j,AV.str (sub s k j)]) rfl <| zH (v:=AV.agg [.int .i64 1,zK k,zK j,AV.str (sub s k j)]) (AV.cells (AV.agg [.int .i64 1,zK k,zK j,AV.str (sub s k j)])) zB rfl rfl rfl rfl ?_
   exact zBd (a:=4) (s:=4) (ag:=true) (o:=0) rfl rfl (zJ (zE zB)) rfl rfl rfl (((Old.refl _).push _).set (zL0 _) _)
 have hwf:=zMe.2 hwc
 rw [hwf] at hw
 by_cases h34 : c = 34
 ·subst h34
  rw [tk_txt hc]
  obtain ⟨r,hr⟩ : ∃ r,quo (s.drop (k + 1)) (k + 1) = r:=⟨_,rfl⟩
  rw [hr]
  clear hR hW
  refine zb tT <| zr rfl hc <| zG <| zY (tN (by first | decide | omega)) <| zY (tN (by first | decide | omega)) <| zr rfl hc ?_; refine zL (hw _) <| zY (tN (by first | decide | omega)) <| zb (tE (by rfl)) <| zN (r:=k + 1) rfl tO ?_; refine zBm (fun x : KSt=>[(9,zK x.i),(8,x.v),(4,pR H.length),(1,zK k),(0,.str s)])
   (fun x H'=>Owns (H ++ [ABlk.box zV4]) H' x.v 1 (x.acc.map zBl) ∧ Old (H ++ [ABlk.box zV4]) H' ∧ x.i ≤ s.length ∧ x.acc.length ≤ x.i ∧ (quo (s.drop x.i) x.i).map (fun p=>(x.acc ++ p.1,p.2)) = r)
   (fun x=>s.length - x.i) ⟨k + 1,.lst (some true) 0 [],[]⟩ rfl ⟨.inl ⟨rfl,rfl⟩,Old.refl _,by simp only; omega,by simp,by simp only [zM1]; rw [hr]; cases r <;> rfl⟩ (fun ⟨i,v,acc⟩ H1 ⟨how,hO,hi,hal,hq⟩=>?_)
  dsimp only at how hO hi hal hq ⊢
  clear hw hr
  have h4 : H1[H.length]? = some (.box zV4):=by rw [hO.2 H.length (by simp)]; exact zB
  have hOH : Old H H1:=⟨by have:=hO.1; simp at this; omega,fun c hc=>by rw [hO.2 c (by simp; omega)]; exact zL7 hc⟩
  by_cases hil : i < s.length
  case neg=>
   have e : r = none:=by rw [← hq,zM6 tO]; rfl
   subst e
   refine zY tF <| zl (v:=[.int .i64 9,zK k,zK k,AV.str []]) rfl <| zH (v:=AV.agg [.int .i64 9,zK k,zK k,AV.str []]) (AV.cells (AV.agg [.int .i64 9,zK k,zK k,AV.str []])) h4 rfl rfl rfl rfl ?_
   exact zBd (a:=4) (s:=4) (ag:=true) (o:=0) rfl rfl (zJ (zE h4)) rfl rfl rfl (hOH.set (zL0 _) _)
  obtain ⟨c,hci⟩ : ∃ c,s[i]? = some c:=⟨_,zLy hil⟩
  rw [zA3 hci] at hq
  by_cases h34 : c = 34
  ·subst h34
   by_cases hend : i + 1 < s.length ∧ s[i + 1]? = some 34
   ·obtain ⟨hlt2,hc2⟩:=hend
    rw [zA3 hc2,quo_dbl,zOW] at hq
    refine zb tT <| zr rfl hci <| zb (tE (by rfl)) <| zN (r:=i + 1) rfl tO <| zb tT <| zN (r:=i + 1) rfl tO ?_; refine zr rfl hc2 <| zG <| zb (tE (by rfl)) <| zAs (vs':=[AV.int IntKind.u8 34]) rfl rfl ?_; refine zCA (H0:=H ++ [ABlk.box zV4]) (how.push _) (hO.push _) zAz tO (by simp only [zL6,zLw,zL4]; omega) (by simp) fun v' H' ho' hH' hb' hf=>?_
    refine zN (r:=i + 2) rfl tO ?_; refine zAU (KSt.mk (i + 2) v' (acc ++ [34])) rfl ⟨by rw [zMW]; exact ho',hH',by simp only; omega,by simp only [zL1,zLw,zL4]; omega, ?_⟩ (by simp only; omega)
    rw [← hq]
    simp only [zMj,zNG]
    rfl
   ·rw [quo_end (by
     intro e
     have hlt2 : i + 1 < s.length:=by
      rcases zNJ (i + 1) s.length with h | h
      ·exact h
      ·rw [zM6 h] at e; cases e
     refine hend ⟨hlt2, ?_⟩
     rw [List.head?_drop] at e
     exact e)] at hq
    subst hq
    have e0 : (match (Option.map (fun p : Bs × Nat=>(acc ++ p.1,p.2)) (some ([],i + 1))) with
     | some (t,e)=>kV 2 k e t
     | none=>kV 9 k k []) = kV 2 k (i + 1) acc:=by simp
    rw [e0]
    by_cases hlt2 : i + 1 < s.length
    ·obtain ⟨c2,hc2⟩ : ∃ c,s[i + 1]? = some c:=⟨_,zLy hlt2⟩
     have hn : c2.toNat ≠ 34:=fun e=>hend ⟨hlt2,by rw [hc2,show c2 = 34 from zME.1 e]⟩
     refine zb tT <| zr rfl hci <| zb (tE (by rfl)) <| zN (r:=i + 1) rfl tO <| zb tT <| zN (r:=i + 1) rfl tO ?_; refine zr rfl hc2 <| zG <| zY tN <| zN (r:=i + 1) rfl tO <| zIa how <| zl (v:=[.int .i64 2,zK k,.int .i64 ↑(i + 1),AV.str acc]) rfl ?_; refine zH (v:=AV.agg [.int .i64 2,zK k,.int .i64 ↑(i + 1),AV.str acc]) (AV.cells (AV.agg [.int .i64 2,zK k,.int .i64 ↑(i + 1),AV.str acc])) h4 rfl rfl rfl rfl ?_
     exact zBd (a:=4) (s:=4) (ag:=true) (o:=0) rfl rfl (zJ (zE h4)) rfl rfl rfl (hOH.set (zL0 _) _)
    ·refine zb tT <| zr rfl hci <| zb (tE (by rfl)) <| zN (r:=i + 1) rfl tO ?_; refine zY tF <| zF <| zF <| zN (r:=i + 1) rfl tO <| zIa how <| zl (v:=[.int .i64 2,zK k,.int .i64 ↑(i + 1),AV.str acc]) rfl ?_; refine zH (v:=AV.agg [.int .i64 2,zK k,.int .i64 ↑(i + 1),AV.str acc]) (AV.cells (AV.agg [.int .i64 2,zK k,.int .i64 ↑(i + 1),AV.str acc])) h4 rfl rfl rfl rfl ?_
     exact zBd (a:=4) (s:=4) (ag:=true) (o:=0) rfl rfl (zJ (zE h4)) rfl rfl rfl (hOH.set (zL0 _) _)
  ·have hn : c.toNat ≠ 34:=fun e=>h34 (zME.1 e)
   rw [quo_chr h34,zOW] at hq
   refine zb tT <| zr rfl hci <| zY tN <| zr rfl hci <| zAs (vs':=[zBl c]) rfl rfl ?_; refine zCA (H0:=H ++ [ABlk.box zV4]) (how.push _) (hO.push _) zAz tO (by simp only [zL6,zLw,zL4]; omega) (by simp) fun v' H' ho' hH' hb' hf=>?_; refine zN (r:=i + 1) rfl tO ?_; refine zAU (KSt.mk (i + 1) v' (acc ++ [c])) rfl ⟨by rw [zMW]; exact ho',hH',by simp only; omega,by simp only [zL1,zLw,zL4]; omega, ?_⟩ (by simp only; omega)
   rw [← hq]
   simp only [zMj,zNG]
   rfl
 by_cases h35 : c = 35
 ·subst h35
  rw [tk_bad hc]
  clear hW
  refine zb tT <| zr rfl hc <| zG <| zY (tN (by first | decide | omega)) <| zY (tN (by first | decide | omega)) <| zr rfl hc ?_; refine zL (hw _) <| zY (tN (by first | decide | omega)) <| zY (tN (by first | decide | omega)) <| zb (tE (by rfl)) <| zL (hR _) ?_
  obtain ⟨r,hr⟩ : ∃ r,bdV k (zIG (s.drop k) wrongs 1) = r:=⟨_,rfl⟩
  rw [hr]
  have hwl : (List.map AV.str wrL).length = 7:=rfl
  refine zBm (fun i : Nat=>[(4,pR H.length),(11,zK i),(10,.lst (some false) 1 (wrL.map AV.str)),(1,zK k),(0,.str s)]) (fun i H'=>H' = H ++ [.box zV4] ∧ 1 ≤ i ∧ i ≤ 7 ∧ bdV k (zIG (s.drop k) (wrongs.drop (i - 1)) i) = r) (fun i=>7 - i) 1 rfl ⟨rfl,by omega,by omega,hr⟩ (fun i H1 ⟨e,h1,hi,hq⟩=>?_)
  subst e
  clear hw hR hr
  try dsimp only
  by_cases hlt7 : i < 7
  ·obtain ⟨t,ht⟩ : ∃ t,wrL[i]? = some t:=⟨_,zLy hlt7⟩
   have htm : (wrL.map AV.str)[i]? = some (AV.str t):=by rw [zL9,ht]; rfl
   have htl : t.length ≤ 10:=by
    rcases i with _ | _ | _ | _ | _ | _ | _ | i
    all_goals first | (cases ht; decide) | omega
   have hdr : wrongs.drop (i - 1) = t :: wrongs.drop i:=by
    obtain ⟨j,rfl⟩ : ∃ j,i = j + 1:=⟨i - 1,by omega⟩
    rw [zMw,zNR (by have : wrongs.length = 6:=rfl; omega)]
    have ht' : wrongs[j]? = some t:=ht
    rw [(zg ht').2]
   have hgd : wrongs.getD (i - 1) [] = t:=by
    obtain ⟨j,rfl⟩ : ∃ j,i = j + 1:=⟨i - 1,by omega⟩
    have ht' : wrongs[j]? = some t:=ht
    rw [zMw,zNe,ht']; rfl
   rw [hdr] at hq
   unfold zIG at hq
   have hnx : wrongs.drop i = wrongs.drop (i + 1 - 1):=rfl
   by_cases hle : k + t.length ≤ s.length
   ·have hsl:=zCr s k (k + t.length) tO hle
    have hst : sub s k (k + t.length) = (s.drop k).take t.length:=by unfold sub; rw [zNX]
    rw [hst] at hsl
    by_cases he : (s.drop k).take t.length = t
    ·rw [zLx he] at hq
     have hq : kV 3 k (k + t.length) t = r:=by rw [← hq]; show kV 3 k (k + t.length) t = kV 3 k (k + t.length) (wrongs.getD (i - 1) []); rw [hgd]
     subst hq
     refine sLenL <| zb tT <| sIdx rfl htm <| zt (.str t) rfl <| zN (r:=k + t.length) rfl tO <| zb tT ?_; refine zN (r:=k + t.length) rfl tO <| zl hsl <| sIdx rfl htm <| zt (.str t) rfl <| zG <| zb (tE he) ?_; refine zN (r:=k + t.length) rfl tO <| sIdx rfl htm <| zt (.str t) rfl <| zl (v:=[.int .i64 3,zK k,.int .i64 ↑(k + List.length t),AV.str t]) rfl <| zH (v:=AV.agg [.int .i64 3,zK k,.int .i64 ↑(k + List.length t),AV.str t]) (AV.cells (AV.agg [.int .i64 3,zK k,.int .i64 ↑(k + List.length t),AV.str t])) zB rfl rfl rfl rfl ?_
     exact zBd (a:=4) (s:=4) (ag:=true) (o:=0) rfl rfl (zJ (zE zB)) rfl rfl rfl (((Old.refl _).push _).set (zL0 _) _)
    ·rw [zLv he] at hq
     refine sLenL <| zb tT <| sIdx rfl htm <| zt (.str t) rfl <| zN (r:=k + t.length) rfl tO <| zb tT ?_; refine zN (r:=k + t.length) rfl tO <| zl hsl <| sIdx rfl htm <| zt (.str t) rfl <| zG <| zY (tN he) ?_; refine zN (r:=i + 1) rfl tO ?_
     exact zAU (i + 1) rfl ⟨rfl,by omega,by omega,hq⟩ tO
   ·have he : ¬ (s.drop k).take t.length = t:=fun e=>by
     have:=zML List.length e
     rw [zMA,zMX] at this
     omega
    rw [zLv he] at hq
    refine sLenL <| zb tT <| sIdx rfl htm <| zt (.str t) rfl <| zN (r:=k + t.length) rfl tO ?_; refine zY tF <| zF <| zF <| zN (r:=i + 1) rfl tO ?_
    exact zAU (i + 1) rfl ⟨rfl,by omega,by omega,hq⟩ tO
  ·have e7 : i = 7:=by omega
   subst e7
   have hq : kV 9 k k [] = r:=hq
   subst hq
   refine sLenL <| zY (tF (by decide)) <| zl (v:=[.int .i64 9,zK k,zK k,AV.str []]) rfl <| zH (v:=AV.agg [.int .i64 9,zK k,zK k,AV.str []]) (AV.cells (AV.agg [.int .i64 9,zK k,zK k,AV.str []])) zB rfl rfl rfl rfl ?_
   exact zBd (a:=4) (s:=4) (ag:=true) (o:=0) rfl rfl (zJ (zE zB)) rfl rfl rfl (((Old.refl _).push _).set (zL0 _) _)
 rw [tk_sign hc hwc h34 h35]
 clear hW hR
 have h34' : c.toNat ≠ 34:=fun h=>h34 (zME.1 h)
 have h35' : c.toNat ≠ 35:=fun h=>h35 (zME.1 h)
 by_cases h2 : k + 2 ≤ s.length
 ·obtain ⟨d,hd⟩ : ∃ d,s[k + 1]? = some d:=⟨_,zLy tO⟩
  have h2s:=zCr s k (k + 2) tO h2
  have h1s:=zCr s k (k + 1) tO tO
  rw [sub_two hc hd] at h2s
  rw [sub_one hc] at h1s
  rw [hd]
  unfold zID
  simp only
  by_cases hx : (c = 60 ∧ d = 62) ∨ (c = 60 ∧ d = 61) ∨ (c = 62 ∧ d = 61)
  ·rw [zLx hx]
   rcases hx with ⟨rfl,rfl⟩ | ⟨rfl,rfl⟩ | ⟨rfl,rfl⟩
   ·refine zb tT <| zr rfl hc <| zG <| zY (tN (by first | decide | omega)) <| zY (tN (by first | decide | omega)) <| zr rfl hc ?_; refine zL (hw _) <| zY (tN (by first | decide | omega)) <| zY (tN (by first | decide | omega)) <| zY (tN (by first | decide | omega)) <| zN (r:=k + 2) rfl tO <| zb tT ?_; refine zN (r:=k + 2) rfl tO <| zl h2s ?_; refine zG <| zG <| zG <| zG <| zG <| zN (r:=k + 2) rfl tO ?_
    refine zl (v:=[.int .i64 4,zK k,.int .i64 ↑(k + 2),AV.str [60,62]]) rfl <| zH (v:=AV.agg [.int .i64 4,zK k,.int .i64 ↑(k + 2),AV.str [60,62]]) (AV.cells (AV.agg [.int .i64 4,zK k,.int .i64 ↑(k + 2),AV.str [60,62]])) zB rfl rfl rfl rfl ?_
    exact zBd (a:=4) (s:=4) (ag:=true) (o:=0) rfl rfl (zJ (zE zB)) rfl rfl rfl (((Old.refl _).push _).set (zL0 _) _)
   ·refine zb tT <| zr rfl hc <| zG <| zY (tN (by first | decide | omega)) <| zY (tN (by first | decide | omega)) <| zr rfl hc ?_; refine zL (hw _) <| zY (tN (by first | decide | omega)) <| zY (tN (by first | decide | omega)) <| zY (tN (by first | decide | omega)) <| zN (r:=k + 2) rfl tO <| zb tT ?_; refine zN (r:=k + 2) rfl tO <| zl h2s ?_; refine zY (tN (by first | decide | omega)) <| zY (tN (by first | decide | omega)) <| zG <| zG <| zG <| zN (r:=k + 2) rfl tO ?_
    refine zl (v:=[.int .i64 4,zK k,.int .i64 ↑(k + 2),AV.str [60,61]]) rfl <| zH (v:=AV.agg [.int .i64 4,zK k,.int .i64 ↑(k + 2),AV.str [60,61]]) (AV.cells (AV.agg [.int .i64 4,zK k,.int .i64 ↑(k + 2),AV.str [60,61]])) zB rfl rfl rfl rfl ?_
    exact zBd (a:=4) (s:=4) (ag:=true) (o:=0) rfl rfl (zJ (zE zB)) rfl rfl rfl (((Old.refl _).push _).set (zL0 _) _)
   ·refine zb tT <| zr rfl hc <| zG <| zY (tN (by first | decide | omega)) <| zY (tN (by first | decide | omega)) <| zr rfl hc ?_; refine zL (hw _) <| zY (tN (by first | decide | omega)) <| zY (tN (by first | decide | omega)) <| zY (tN (by first | decide | omega)) <| zN (r:=k + 2) rfl tO <| zb tT ?_; refine zN (r:=k + 2) rfl tO <| zl h2s ?_; refine zY (tN (by first | decide | omega)) <| zY (tN (by first | decide | omega)) <| zY (tN (by first | decide | omega)) <| zY (tN (by first | decide | omega)) <| zG <| zN (r:=k + 2) rfl tO ?_
    refine zl (v:=[.int .i64 4,zK k,.int .i64 ↑(k + 2),AV.str [62,61]]) rfl <| zH (v:=AV.agg [.int .i64 4,zK k,.int .i64 ↑(k + 2),AV.str [62,61]]) (AV.cells (AV.agg [.int .i64 4,zK k,.int .i64 ↑(k + 2),AV.str [62,61]])) zB rfl rfl rfl rfl ?_
    exact zBd (a:=4) (s:=4) (ag:=true) (o:=0) rfl rfl (zJ (zE zB)) rfl rfl rfl (((Old.refl _).push _).set (zL0 _) _)
  ·rw [zLv hx,show k + ([c] : Bs).length = k + 1 from rfl]
   have n1 : ([c,d] == ([60,62] : Bs)) = false:=tN fun e=>hx (by simp only [zM5,zNd] at e; exact .inl e)
   have n2 : ([c,d] == ([60,61] : Bs)) = false:=tN fun e=>hx (by simp only [zM5,zNd] at e; exact .inr (.inl e))
   have n3 : ([c,d] == ([62,61] : Bs)) = false:=tN fun e=>hx (by simp only [zM5,zNd] at e; exact .inr (.inr e))
   refine zb tT <| zr rfl hc <| zG <| zY tN <| zY tN <| zr rfl hc ?_; refine zL (hw _) <| zF <| zY tN <| zY tN <| zN (r:=k + 2) rfl tO <| zb tT ?_; refine zN (r:=k + 2) rfl tO <| zl h2s <| zY n1 <| zF <| zY n2 <| zF ?_; refine zY n3 <| zN (r:=k + 1) rfl tO <| zN (r:=k + 1) rfl tO <| zl h1s <| zl (v:=[.int .i64 4,zK k,.int .i64 ↑(k + 1),AV.str [c]]) rfl <| zH (v:=AV.agg [.int .i64 4,zK k,.int .i64 ↑(k + 1),AV.str [c]]) (AV.cells (AV.agg [.int .i64 4,zK k,.int .i64 ↑(k + 1),AV.str [c]])) zB rfl rfl rfl rfl ?_
   exact zBd (a:=4) (s:=4) (ag:=true) (o:=0) rfl rfl (zJ (zE zB)) rfl rfl rfl (((Old.refl _).push _).set (zL0 _) _)
 ·have h1s:=zCr s k (k + 1) tO tO
  rw [sub_one hc] at h1s
  have e : zID c s[k + 1]? = [c]:=by rw [zMo tO]; rfl
  rw [e,show k + ([c] : Bs).length = k + 1 from rfl]
  refine zb tT <| zr rfl hc <| zG <| zY tN <| zY tN <| zr rfl hc ?_; refine zL (hw _) <| zF <| zY tN <| zY tN <| zN (r:=k + 2) rfl tO <| zY tF ?_; refine zN (r:=k + 1) rfl tO <| zN (r:=k + 1) rfl tO <| zl h1s <| zl (v:=[.int .i64 4,zK k,.int .i64 ↑(k + 1),AV.str [c]]) rfl <| zH (v:=AV.agg [.int .i64 4,zK k,.int .i64 ↑(k + 1),AV.str [c]]) (AV.cells (AV.agg [.int .i64 4,zK k,.int .i64 ↑(k + 1),AV.str [c]])) zB rfl rfl rfl rfl ?_
  exact zBd (a:=4) (s:=4) (ag:=true) (o:=0) rfl rfl (zJ (zE zB)) rfl rfl rfl (((Old.refl _).push _).set (zL0 _) _)
end
end Go.AM
