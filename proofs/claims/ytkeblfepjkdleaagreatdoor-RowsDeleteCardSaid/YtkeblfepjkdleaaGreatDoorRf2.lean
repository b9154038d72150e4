/- The reference's parser: tokens. Own work. -/
import Derived.Test.YtkeblfepjkdleaaGreatDoorGAm31Rf1
set_option maxHeartbeats 4000000
set_option maxRecDepth 20000
set_option linter.all false
namespace Go.AM
def kV (k a e:Nat) (t:Bs):AV:=.agg [zK k,zK a,zK e,.str t]
def zZh (s:Bs) (q:Nat):AV:=match zBk s q with
 |.fin=>kV 0 q q []
 |.word e t=>kV 1 q e t
 |.txt e t=>kV 2 q e t
 |.bad e k=>kV 3 q e (wrongs.getD (k-1) [])
 |.sign e t=>kV 4 q e t
 |.none=>kV 9 q q []
def tkV (s:Bs) (a:Nat):AV:=zZh s (skip s a)
theorem zhy {s:Bs} {q:Nat} {c:UInt8} (hc:s[q]?=some c) (hw:zh c=true):zZh s q=kV 1 q (zDI s q) (sub s q (zDI s q)):=by
 unfold zZh zBk;rw [hc];simp only [hw,zlp]
theorem zj7 {s:Bs} {q:Nat} (hc:s[q]?=some 34):zZh s q=match quo (s.drop (q+1)) (q+1) with
  |some (t,e)=>kV 2 q e t
  |none=>kV 9 q q []:=by
 unfold zZh zBk;rw [hc];have hw:zh 34=false:=by decide
 simp only [hw,zlO,zlj,zlp];cases quo (s.drop (q+1)) (q+1) with
 |none=>rfl
 |some x=>rfl
def bdV (q:Nat) (r:Option (Nat×Nat)):AV:=match r with
  |some (k,n)=>kV 3 q (q+n) (wrongs.getD (k-1) [])
  |none=>kV 9 q q []
theorem zj8 {s:Bs} {q:Nat} (hc:s[q]?=some 35):zZh s q=bdV q (zK1 (s.drop q) wrongs 1):=by
 unfold zZh zBk bdV;rw [hc];have hw:zh 35=false:=by decide
 have h1:¬ ((35:UInt8)=34):=by decide
 simp only [hw,zlO,zlj,zlp,h1];cases zK1 (s.drop q) wrongs 1 with
 |none=>rfl
 |some x=>rfl
theorem zhz {s:Bs} {q:Nat} {c:UInt8} (hc:s[q]?=some c) (hw:¬ zh c=true) (h34:c≠34) (h35:c≠35):zZh s q=kV 4 q (q+(zLW c s[q+1]?).length) (zLW c s[q+1]?):=by
 unfold zZh zBk zLW;rw [hc];simp only [hw,zlj,h34,h35];cases s[q+1]? with
 |none=>rfl
 |some d=>
  simp only;by_cases hx:(c=60/\d=62)\/(c=60/\d=61)\/(c=62/\d=61)
  ·simp only [zlF hx];rfl
  ·simp only [zlD hx];rfl
theorem zh0 {s:Bs} {q:Nat} {c d:UInt8} (h1:s[q]?=some c) (h2:s[q+1]?=some d):sub s q (q+2)=[c,d]:=by
 unfold sub;rw [zmu,zBi h1,zBi h2];rfl
theorem zbB {s:Bs} {q:Nat} {c:UInt8} (h1:s[q]?=some c):sub s q (q+1)=[c]:=by
 unfold sub;rw [zmu,zBi h1];rfl
structure KSt where
 i:Nat
 v:AV
 acc:Bs
section
variable {C:CSpec} {GT:zG_}
theorem zbC (hW:∀ c H,C zCH [byV c] H (.bool (zh c)) H) (hR:∀ H,C zA3 [] H (.lst (some false) 1 (wrL.map AV.str)) H)
  (s:Bs) (a:Nat) (H:Heap) (ha:a<=s.length) (hl:s.length<=1000):EFun C GT zGQ [.str s,zK a] H (tkV s a) H:=by
 obtain ⟨q,hq⟩:∃ q,skip s a=q:=⟨_,rfl⟩;unfold tkV;rw [hq];refine zJ ?_;refine zBG (fun k:Nat=>[(1,zK k),(4,pR H.length),(0,.str s)]) (fun k H'=>H'=H++[.box zV4]/\k<=s.length/\skip s k=q) (fun k=>s.length-k) a rfl ⟨rfl,ha,hq⟩ (fun k H1 ⟨e,hk,hs⟩=>?_);subst e;clear ha hq
 try dsimp only
 by_cases hlt:k<s.length
 case neg=>
  have hkq:k=q:=by rw [zDm (by rw [zl0 tO];simp)] at hs;exact hs
  have e:zZh s q=kV 0 q q []:=by
   unfold zZh zBk;rw [<-hkq,zl0 tO]
  subst hkq;rw [e];clear hW hR;refine zi tF<|zG<|zG<|zn tE<|zx (v:=[.int .i64 0,zK k,zK k,.str []]) rfl<|zL (v:=AV.agg [.int .i64 0,zK k,zK k,.str []]) (AV.cells (.agg [.int .i64 0,zK k,zK k,.str []])) zB rfl rfl rfl rfl ?_
  exact zAa (a:=4) (s:=4) (ag:=true) (o:=0) rfl rfl (zI hP) rfl rfl rfl (((Old.refl _).push _).set (zlK _) _)
 obtain ⟨c,hc⟩:∃ c,s[k]?=some c:=⟨_,zlI hlt⟩;by_cases h32:c=32
 ·subst h32;rw [zNd hc] at hs;clear hW hR;refine zn tT<|zCF rfl hc<|zE<|zn (tE (by rfl))<|zS (r:=k+1) rfl tO ?_
  exact zAR (k+1) rfl ⟨rfl,by omega,hs⟩ tO
 have hkq:k=q:=by rw [zDm (by rw [hc];intro h;exact h32 (zlb h))] at hs;exact hs
 subst hkq;clear hs;have h32':c.toNat≠32:=fun h=>h32 (zlc.1 h);have hw:=hW c;by_cases hwc:zh c=true
 ·rw [zhy hc hwc];have hge:=zLU s k;have hle:=zJ8 hk;rw [hwc] at hw;clear hR;refine zn tT<|zCF rfl hc<|zE<|zi tN<|zi tN<|zCF rfl hc ?_;refine zM (hw _)<|zE ?_;refine zBG (fun j:Nat=>[(7,zK j),(4,pR H.length),(1,zK k),(0,.str s)]) (fun j H'=>H'=H++[.box zV4]/\k<=j/\j<=s.length/\zDI s j=zDI s k) (fun j=>s.length-j) k rfl ⟨rfl,zlK _,hk,rfl⟩ (fun j H1 ⟨e,hkj,hj,hs⟩=>?_)
  subst e;clear hw
  try dsimp only
  by_cases hjl:j<s.length
  ·obtain ⟨c2,hc2⟩:∃ c,s[j]?=some c:=⟨_,zlI hjl⟩;have hw2:=hW c2;clear hW;by_cases hwc2:zh c2=true
   ·rw [zII hc2 hwc2] at hs;rw [hwc2] at hw2;refine zn tT<|zCF rfl hc2<|zM (hw2 _)<|zE<|zE<|zS (r:=j+1) rfl tO ?_
    exact zAR (j+1) rfl ⟨rfl,by omega,by omega,hs⟩ tO
   ·have hwc2:=zl8.2 hwc2;rw [zIJ (fun c' h=>by rw [hc2] at h;cases h;exact hwc2)] at hs;rw [hwc2] at hw2;rw [<-hs];refine zn tT<|zCF rfl hc2<|zM (hw2 _)<|zE<|zG<|zx (zEJ s k j hkj hj) ?_;refine zx (v:=[.int .i64 1,zK k,zK j,.str (sub s k j)]) rfl<|zL (v:=AV.agg [.int .i64 1,zK k,zK j,.str (sub s k j)]) (AV.cells (.agg [.int .i64 1,zK k,zK j,.str (sub s k j)])) zB rfl rfl rfl rfl ?_
    exact zAa (a:=4) (s:=4) (ag:=true) (o:=0) rfl rfl (zI hP) rfl rfl rfl (((Old.refl _).push _).set (zlK _) _)
  ·rw [zIJ (fun c' h=>by rw [zl0 tO] at h;cases h)] at hs;rw [<-hs];clear hW;refine zi tF<|zG<|zG<|zx (zEJ s k j hkj hj)<|zx (v:=[.int .i64 1,zK k,zK j,.str (sub s k j)]) rfl<|zL (v:=AV.agg [.int .i64 1,zK k,zK j,.str (sub s k j)]) (AV.cells (.agg [.int .i64 1,zK k,zK j,.str (sub s k j)])) zB rfl rfl rfl rfl ?_
   exact zAa (a:=4) (s:=4) (ag:=true) (o:=0) rfl rfl (zI hP) rfl rfl rfl (((Old.refl _).push _).set (zlK _) _)
 have hwf:=zl8.2 hwc;rw [hwf] at hw;by_cases h34:c=34
 ·subst h34;rw [zj7 hc];obtain ⟨r,hr⟩:∃ r,quo (s.drop (k+1)) (k+1)=r:=⟨_,rfl⟩;rw [hr];clear hR hW;refine zn tT<|zCF rfl hc<|zE<|zi (tN (by first|decide|omega))<|zi (tN (by first|decide|omega))<|zCF rfl hc ?_;refine zM (hw _)<|zi (tN (by first|decide|omega))<|zn (tE (by rfl))<|zS (r:=k+1) rfl tO ?_;refine zBG (fun x:KSt=>[(9,zK x.i),(8,x.v),(4,pR H.length),(1,zK k),(0,.str s)])
   (fun x H'=>Owns (H++[ABlk.box zV4]) H' x.v 1 (x.acc.map zo)/\Old (H++[ABlk.box zV4]) H'/\x.i<=s.length/\x.acc.length<=x.i/\(quo (s.drop x.i) x.i).map (fun p=>(x.acc++p.1,p.2))=r)
   (fun x=>s.length-x.i) ⟨k+1,.lst (some true) 0 [],[]⟩ rfl ⟨.inl ⟨rfl,rfl⟩,Old.refl _,by simp only;omega,by simp,by simp only [zl2];rw [hr];cases r <;> rfl⟩ (fun ⟨i,v,acc⟩ H1 ⟨how,hO,hi,hal,hq⟩=>?_)
  dsimp only at how hO hi hal hq ⊢;clear hw hr;have h4:H1[H.length]?=some (.box zV4):=by rw [hO.2 H.length zS_];exact zB
  have hOH:Old H H1:=⟨by have:=hO.1;simp at this;omega,fun c hc=>by rw [hO.2 c (by simp;omega)];exact zlS hc⟩;by_cases hil:i<s.length
  case neg=>
   have e:r=none:=by rw [<-hq,zl3 tO];rfl
   subst e;refine zi tF<|zx (v:=[.int .i64 9,zK k,zK k,.str []]) rfl<|zL (v:=AV.agg [.int .i64 9,zK k,zK k,.str []]) (AV.cells (.agg [.int .i64 9,zK k,zK k,.str []])) h4 rfl rfl rfl rfl ?_
   exact zAa (a:=4) (s:=4) (ag:=true) (o:=0) rfl rfl (zI (zU h4)) rfl rfl rfl (hOH.set (zlK _) _)
  obtain ⟨c,hci⟩:∃ c,s[i]?=some c:=⟨_,zlI hil⟩;rw [zBi hci] at hq;by_cases h34:c=34
  ·subst h34;by_cases hend:i+1<s.length/\s[i+1]?=some 34
   ·obtain ⟨hlt2,hc2⟩:=hend;rw [zBi hc2,zah,znz] at hq;refine zn tT<|zCF rfl hci<|zn (tE (by rfl))<|zS (r:=i+1) rfl tO<|zn tT<|zS (r:=i+1) rfl tO ?_;refine zCF rfl hc2<|zE<|zn (tE (by rfl))<|zAb (vs':=[.int IntKind.u8 34]) rfl rfl ?_;refine zBw (H0:=H++[ABlk.box zV4]) (how.push _) (hO.push _) zAu tO (by simp only [zlM,zlE,zlL];omega) zS_ fun v' H' ho' hH' hb' hf=>?_
    refine zS (r:=i+2) rfl tO ?_;refine zAR (KSt.mk (i+2) v' (acc++[34])) rfl ⟨by rw [zlv];exact ho',hH',by simp only;omega,by simp only [zlH,zlE,zlL];omega, ?_⟩ (by simp only;omega);rw [<-hq];simp only [zlk,zmG];rfl
   ·rw [zag (by
     intro e;have hlt2:i+1<s.length:=by
      rcases zmp (i+1) s.length with h|h
      ·exact h
      ·rw [zl3 h] at e;cases e
     refine hend ⟨hlt2, ?_⟩;rw [znw] at e;exact e)] at hq
    subst hq;have e0:(match (Option.map (fun p:Bs×Nat=>(acc++p.1,p.2)) (some ([],i+1))) with
     |some (t,e)=>kV 2 k e t
     |none=>kV 9 k k [])=kV 2 k (i+1) acc:=by simp
    rw [e0];by_cases hlt2:i+1<s.length
    ·obtain ⟨c2,hc2⟩:∃ c,s[i+1]?=some c:=⟨_,zlI hlt2⟩;have hn:c2.toNat≠34:=fun e=>hend ⟨hlt2,by rw [hc2,show c2=34 from zlc.1 e]⟩;refine zn tT<|zCF rfl hci<|zn (tE (by rfl))<|zS (r:=i+1) rfl tO<|zn tT<|zS (r:=i+1) rfl tO ?_;refine zCF rfl hc2<|zE<|zi tN<|zS (r:=i+1) rfl tO<|zHs how<|zx (v:=[.int .i64 2,zK k,.int .i64 ↑(i+1),.str acc]) rfl ?_;refine zL (v:=AV.agg [.int .i64 2,zK k,.int .i64 ↑(i+1),.str acc]) (AV.cells (.agg [.int .i64 2,zK k,.int .i64 ↑(i+1),.str acc])) h4 rfl rfl rfl rfl ?_
     exact zAa (a:=4) (s:=4) (ag:=true) (o:=0) rfl rfl (zI (zU h4)) rfl rfl rfl (hOH.set (zlK _) _)
    ·refine zn tT<|zCF rfl hci<|zn (tE (by rfl))<|zS (r:=i+1) rfl tO ?_;refine zi tF<|zG<|zG<|zS (r:=i+1) rfl tO<|zHs how<|zx (v:=[.int .i64 2,zK k,.int .i64 ↑(i+1),.str acc]) rfl ?_;refine zL (v:=AV.agg [.int .i64 2,zK k,.int .i64 ↑(i+1),.str acc]) (AV.cells (.agg [.int .i64 2,zK k,.int .i64 ↑(i+1),.str acc])) h4 rfl rfl rfl rfl ?_
     exact zAa (a:=4) (s:=4) (ag:=true) (o:=0) rfl rfl (zI (zU h4)) rfl rfl rfl (hOH.set (zlK _) _)
  ·have hn:c.toNat≠34:=fun e=>h34 (zlc.1 e);rw [zai h34,znz] at hq;refine zn tT<|zCF rfl hci<|zi tN<|zCF rfl hci<|zAb (vs':=[zo c]) rfl rfl ?_;refine zBw (H0:=H++[ABlk.box zV4]) (how.push _) (hO.push _) zAu tO (by simp only [zlM,zlE,zlL];omega) zS_ fun v' H' ho' hH' hb' hf=>?_;refine zS (r:=i+1) rfl tO ?_;refine zAR (KSt.mk (i+1) v' (acc++[c])) rfl ⟨by rw [zlv];exact ho',hH',by simp only;omega,by simp only [zlH,zlE,zlL];omega, ?_⟩ (by simp only;omega)
   rw [<-hq];simp only [zlk,zmG];rfl
 by_cases h35:c=35
 ·subst h35;rw [zj8 hc];clear hW;refine zn tT<|zCF rfl hc<|zE<|zi (tN (by first|decide|omega))<|zi (tN (by first|decide|omega))<|zCF rfl hc ?_;refine zM (hw _)<|zi (tN (by first|decide|omega))<|zi (tN (by first|decide|omega))<|zn (tE (by rfl))<|zM (hR _) ?_
  obtain ⟨r,hr⟩:∃ r,bdV k (zK1 (s.drop k) wrongs 1)=r:=⟨_,rfl⟩;rw [hr];have hwl:(List.map AV.str wrL).length=7:=rfl;refine zBG (fun i:Nat=>[(4,pR H.length),(11,zK i),(10,.lst (some false) 1 (wrL.map AV.str)),(1,zK k),(0,.str s)]) (fun i H'=>H'=H++[.box zV4]/\1<=i/\i<=7/\bdV k (zK1 (s.drop k) (wrongs.drop (i-1)) i)=r) (fun i=>7-i) 1 rfl ⟨rfl,by omega,by omega,hr⟩ (fun i H1 ⟨e,h1,hi,hq⟩=>?_);subst e;clear hw hR hr
  try dsimp only
  by_cases hlt7:i<7
  ·obtain ⟨t,ht⟩:∃ t,wrL[i]?=some t:=⟨_,zlI hlt7⟩;have htm:(wrL.map AV.str)[i]?=some (.str t):=by rw [zlQ,ht];rfl
   have htl:t.length<=10:=by
    rcases i with _|_|_|_|_|_|_|i
    all_goals first|(cases ht;decide)|omega
   have hdr:wrongs.drop (i-1)=t::wrongs.drop i:=by
    obtain ⟨j,rfl⟩:∃ j,i=j+1:=⟨i-1,by omega⟩;rw [zmO,zmL (by have:wrongs.length=6:=rfl;omega)];have ht':wrongs[j]?=some t:=ht;rw [(zg ht').2]
   have hgd:wrongs.getD (i-1) []=t:=by
    obtain ⟨j,rfl⟩:∃ j,i=j+1:=⟨i-1,by omega⟩;have ht':wrongs[j]?=some t:=ht;rw [zmO,zmJ,ht'];rfl
   rw [hdr] at hq;unfold zK1 at hq;have hnx:wrongs.drop i=wrongs.drop (i+1-1):=rfl;by_cases hle:k+t.length<=s.length
   ·have hsl:=zEJ s k (k+t.length) tO hle;have hst:sub s k (k+t.length)=(s.drop k).take t.length:=by unfold sub;rw [zmu]
    rw [hst] at hsl;by_cases he:(s.drop k).take t.length=t
    ·rw [zlF he] at hq;have hq:kV 3 k (k+t.length) t=r:=by rw [<-hq];show kV 3 k (k+t.length) t=kV 3 k (k+t.length) (wrongs.getD (i-1) []);rw [hgd]
     subst hq;refine zQq<|zn tT<|zT9 rfl htm<|zA9 (.str t) rfl<|zS (r:=k+t.length) rfl tO<|zn tT ?_;refine zS (r:=k+t.length) rfl tO<|zx hsl<|zT9 rfl htm<|zA9 (.str t) rfl<|zE<|zn (tE he) ?_;refine zS (r:=k+t.length) rfl tO<|zT9 rfl htm<|zA9 (.str t) rfl<|zx (v:=[.int .i64 3,zK k,.int .i64 ↑(k+List.length t),.str t]) rfl<|zL (v:=AV.agg [.int .i64 3,zK k,.int .i64 ↑(k+List.length t),.str t]) (AV.cells (.agg [.int .i64 3,zK k,.int .i64 ↑(k+List.length t),.str t])) zB rfl rfl rfl rfl ?_
     exact zAa (a:=4) (s:=4) (ag:=true) (o:=0) rfl rfl (zI hP) rfl rfl rfl (((Old.refl _).push _).set (zlK _) _)
    ·rw [zlD he] at hq;refine zQq<|zn tT<|zT9 rfl htm<|zA9 (.str t) rfl<|zS (r:=k+t.length) rfl tO<|zn tT ?_;refine zS (r:=k+t.length) rfl tO<|zx hsl<|zT9 rfl htm<|zA9 (.str t) rfl<|zE<|zi (tN he) ?_;refine zS (r:=i+1) rfl tO ?_
     exact zAR (i+1) rfl ⟨rfl,by omega,by omega,hq⟩ tO
   ·have he:¬ (s.drop k).take t.length=t:=fun e=>by
     have:=zlR List.length e;rw [zla,zlg] at this;omega
    rw [zlD he] at hq;refine zQq<|zn tT<|zT9 rfl htm<|zA9 (.str t) rfl<|zS (r:=k+t.length) rfl tO ?_;refine zi tF<|zG<|zG<|zS (r:=i+1) rfl tO ?_
    exact zAR (i+1) rfl ⟨rfl,by omega,by omega,hq⟩ tO
  ·have e7:i=7:=by omega
   subst e7;have hq:kV 9 k k []=r:=hq;subst hq;refine zQq<|zi (tF zD_)<|zx (v:=[.int .i64 9,zK k,zK k,.str []]) rfl<|zL (v:=AV.agg [.int .i64 9,zK k,zK k,.str []]) (AV.cells (.agg [.int .i64 9,zK k,zK k,.str []])) zB rfl rfl rfl rfl ?_
   exact zAa (a:=4) (s:=4) (ag:=true) (o:=0) rfl rfl (zI hP) rfl rfl rfl (((Old.refl _).push _).set (zlK _) _)
 rw [zhz hc hwc h34 h35];clear hW hR;have h34':c.toNat≠34:=fun h=>h34 (zlc.1 h);have h35':c.toNat≠35:=fun h=>h35 (zlc.1 h);by_cases h2:k+2<=s.length
 ·obtain ⟨d,hd⟩:∃ d,s[k+1]?=some d:=⟨_,zlI tO⟩;have h2s:=zEJ s k (k+2) tO h2;have h1s:=zEJ s k (k+1) tO tO;rw [zh0 hc hd] at h2s;rw [zbB hc] at h1s;rw [hd];unfold zLW;simp only;by_cases hx:(c=60/\d=62)\/(c=60/\d=61)\/(c=62/\d=61)
  ·rw [zlF hx];rcases hx with ⟨rfl,rfl⟩|⟨rfl,rfl⟩|⟨rfl,rfl⟩
   ·refine zn tT<|zCF rfl hc<|zE<|zi (tN (by first|decide|omega))<|zi (tN (by first|decide|omega))<|zCF rfl hc ?_;refine zM (hw _)<|zi (tN (by first|decide|omega))<|zi (tN (by first|decide|omega))<|zi (tN (by first|decide|omega))<|zS (r:=k+2) rfl tO<|zn tT ?_;refine zS (r:=k+2) rfl tO<|zx h2s ?_;refine zE<|zE<|zE<|zE<|zE<|zS (r:=k+2) rfl tO ?_
    refine zx (v:=[.int .i64 4,zK k,.int .i64 ↑(k+2),.str [60,62]]) rfl<|zL (v:=AV.agg [.int .i64 4,zK k,.int .i64 ↑(k+2),.str [60,62]]) (AV.cells (.agg [.int .i64 4,zK k,.int .i64 ↑(k+2),.str [60,62]])) zB rfl rfl rfl rfl ?_
    exact zAa (a:=4) (s:=4) (ag:=true) (o:=0) rfl rfl (zI hP) rfl rfl rfl (((Old.refl _).push _).set (zlK _) _)
   ·refine zn tT<|zCF rfl hc<|zE<|zi (tN (by first|decide|omega))<|zi (tN (by first|decide|omega))<|zCF rfl hc ?_;refine zM (hw _)<|zi (tN (by first|decide|omega))<|zi (tN (by first|decide|omega))<|zi (tN (by first|decide|omega))<|zS (r:=k+2) rfl tO<|zn tT ?_;refine zS (r:=k+2) rfl tO<|zx h2s ?_;refine zi (tN (by first|decide|omega))<|zi (tN (by first|decide|omega))<|zE<|zE<|zE<|zS (r:=k+2) rfl tO ?_
    refine zx (v:=[.int .i64 4,zK k,.int .i64 ↑(k+2),.str [60,61]]) rfl<|zL (v:=AV.agg [.int .i64 4,zK k,.int .i64 ↑(k+2),.str [60,61]]) (AV.cells (.agg [.int .i64 4,zK k,.int .i64 ↑(k+2),.str [60,61]])) zB rfl rfl rfl rfl ?_
    exact zAa (a:=4) (s:=4) (ag:=true) (o:=0) rfl rfl (zI hP) rfl rfl rfl (((Old.refl _).push _).set (zlK _) _)
   ·refine zn tT<|zCF rfl hc<|zE<|zi (tN (by first|decide|omega))<|zi (tN (by first|decide|omega))<|zCF rfl hc ?_;refine zM (hw _)<|zi (tN (by first|decide|omega))<|zi (tN (by first|decide|omega))<|zi (tN (by first|decide|omega))<|zS (r:=k+2) rfl tO<|zn tT ?_;refine zS (r:=k+2) rfl tO<|zx h2s ?_;refine zi (tN (by first|decide|omega))<|zi (tN (by first|decide|omega))<|zi (tN (by first|decide|omega))<|zi (tN (by first|decide|omega))<|zE<|zS (r:=k+2) rfl tO ?_
    refine zx (v:=[.int .i64 4,zK k,.int .i64 ↑(k+2),.str [62,61]]) rfl<|zL (v:=AV.agg [.int .i64 4,zK k,.int .i64 ↑(k+2),.str [62,61]]) (AV.cells (.agg [.int .i64 4,zK k,.int .i64 ↑(k+2),.str [62,61]])) zB rfl rfl rfl rfl ?_
    exact zAa (a:=4) (s:=4) (ag:=true) (o:=0) rfl rfl (zI hP) rfl rfl rfl (((Old.refl _).push _).set (zlK _) _)
  ·rw [zlD hx,show k+([c]:Bs).length=k+1 from rfl];have n1:([c,d]==([60,62]:Bs))=false:=tN fun e=>hx (by simp only [zmU,znE] at e;exact .inl e);have n2:([c,d]==([60,61]:Bs))=false:=tN fun e=>hx (by simp only [zmU,znE] at e;exact .inr (.inl e));have n3:([c,d]==([62,61]:Bs))=false:=tN fun e=>hx (by simp only [zmU,znE] at e;exact .inr (.inr e));refine zn tT<|zCF rfl hc<|zE<|zi tN<|zi tN<|zCF rfl hc ?_;refine zM (hw _)<|zG<|zi tN<|zi tN<|zS (r:=k+2) rfl tO<|zn tT ?_;refine zS (r:=k+2) rfl tO<|zx h2s<|zi n1<|zG<|zi n2<|zG ?_;refine zi n3<|zS (r:=k+1) rfl tO<|zS (r:=k+1) rfl tO<|zx h1s<|zx (v:=[.int .i64 4,zK k,.int .i64 ↑(k+1),.str [c]]) rfl<|zL (v:=AV.agg [.int .i64 4,zK k,.int .i64 ↑(k+1),.str [c]]) (AV.cells (.agg [.int .i64 4,zK k,.int .i64 ↑(k+1),.str [c]])) zB rfl rfl rfl rfl ?_
   exact zAa (a:=4) (s:=4) (ag:=true) (o:=0) rfl rfl (zI hP) rfl rfl rfl (((Old.refl _).push _).set (zlK _) _)
 ·have h1s:=zEJ s k (k+1) tO tO;rw [zbB hc] at h1s;have e:zLW c s[k+1]?=[c]:=by rw [zl0 tO];rfl
  rw [e,show k+([c]:Bs).length=k+1 from rfl];refine zn tT<|zCF rfl hc<|zE<|zi tN<|zi tN<|zCF rfl hc ?_;refine zM (hw _)<|zG<|zi tN<|zi tN<|zS (r:=k+2) rfl tO<|zi tF ?_;refine zS (r:=k+1) rfl tO<|zS (r:=k+1) rfl tO<|zx h1s<|zx (v:=[.int .i64 4,zK k,.int .i64 ↑(k+1),.str [c]]) rfl<|zL (v:=AV.agg [.int .i64 4,zK k,.int .i64 ↑(k+1),.str [c]]) (AV.cells (.agg [.int .i64 4,zK k,.int .i64 ↑(k+1),.str [c]])) zB rfl rfl rfl rfl ?_
  exact zAa (a:=4) (s:=4) (ag:=true) (o:=0) rfl rfl (zI hP) rfl rfl rfl (((Old.refl _).push _).set (zlK _) _)
end
end Go.AM
