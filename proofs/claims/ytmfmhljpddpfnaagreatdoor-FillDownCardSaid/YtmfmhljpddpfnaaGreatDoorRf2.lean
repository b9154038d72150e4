/- The reference's parser: tokens. Own work. -/
import Derived.Test.YtmfmhljpddpfnaaGreatDoorGAm31Rf1
set_option maxHeartbeats 4000000
set_option maxRecDepth 20000
set_option linter.all false
namespace Go.AM
def kV (k a e:Nat) (t:Bs):AV:=.agg [zL k,zL a,zL e,.str t]
def zYd (s:Bs) (q:Nat):AV:=match zBi s q with
 |.fin=>kV 0 q q []
 |.word e t=>kV 1 q e t
 |.txt e t=>kV 2 q e t
 |.bad e k=>kV 3 q e (wrongs.getD (k-1) [])
 |.sign e t=>kV 4 q e t
 |.none=>kV 9 q q []
def tkV (s:Bs) (a:Nat):AV:=zYd s (skip s a)
theorem zhQ {s:Bs} {q:Nat} {c:UInt8} (hc:s[q]?=some c) (hw:zh c=true):zYd s q=kV 1 q (zlz s q) (sub s q (zlz s q)):=by
 unfold zYd zBi;rw [hc];simp only [hw,zoz]
theorem zj8 {s:Bs} {q:Nat} (hc:s[q]?=some 34):zYd s q=match quo (s.drop (q+1)) (q+1) with
  |some (t,e)=>kV 2 q e t
  |none=>kV 9 q q []:=by
 unfold zYd zBi;rw [hc];have hw:zh 34=false:=by decide
 simp only [hw,zoZ,zot,zoz];cases quo (s.drop (q+1)) (q+1) with
 |none=>rfl
 |some x=>rfl
def bdV (q:Nat) (r:Option (Nat×Nat)):AV:=match r with
  |some (k,n)=>kV 3 q (q+n) (wrongs.getD (k-1) [])
  |none=>kV 9 q q []
theorem zj9 {s:Bs} {q:Nat} (hc:s[q]?=some 35):zYd s q=bdV q (zKK (s.drop q) wrongs 1):=by
 unfold zYd zBi bdV;rw [hc];have hw:zh 35=false:=by decide
 have h1:¬ ((35:UInt8)=34):=by decide
 simp only [hw,zoZ,zot,zoz,h1];cases zKK (s.drop q) wrongs 1 with
 |none=>rfl
 |some x=>rfl
theorem zhR {s:Bs} {q:Nat} {c:UInt8} (hc:s[q]?=some c) (hw:¬ zh c=true) (h34:c≠34) (h35:c≠35):zYd s q=kV 4 q (q+(zKp c s[q+1]?).length) (zKp c s[q+1]?):=by
 unfold zYd zBi zKp;rw [hc];simp only [hw,zot,h34,h35];cases s[q+1]? with
 |none=>rfl
 |some d=>
  simp only;by_cases hx:(c=60/\d=62)\/(c=60/\d=61)\/(c=62/\d=61)
  ·simp only [zoQ hx];rfl
  ·simp only [zWl hx];rfl
theorem zhS {s:Bs} {q:Nat} {c d:UInt8} (h1:s[q]?=some c) (h2:s[q+1]?=some d):sub s q (q+2)=[c,d]:=by
 unfold sub;rw [znC,zBh h1,zBh h2];rfl
theorem zaG {s:Bs} {q:Nat} {c:UInt8} (h1:s[q]?=some c):sub s q (q+1)=[c]:=by
 unfold sub;rw [znC,zBh h1];rfl
structure KSt where
 i:Nat
 v:AV
 acc:Bs
section
variable {C:CSpec} {GT:zG_}
theorem zaH (hW:∀ c H,C zl0 [byV c] H (.bool (zh c)) H) (hR:∀ H,C zBf [] H (.lst (some false) 1 (wrL.map AV.str)) H)
  (s:Bs) (a:Nat) (H:Heap) (ha:a<=s.length) (hl:s.length<=1000):EFun C GT zGE [.str s,zL a] H (tkV s a) H:=by
 obtain ⟨q,hq⟩:∃ q,skip s a=q:=⟨_,rfl⟩;unfold tkV;rw [hq];refine zH ?_;refine zAr (fun k:Nat=>[(1,zL k),(4,pR H.length),(0,.str s)]) (fun k H'=>H'=H++[.box zV2]/\k<=s.length/\skip s k=q) (fun k=>s.length-k) a rfl ⟨rfl,ha,hq⟩ (fun k H1 ⟨e,hk,hs⟩=>?_);subst e;clear ha hq
 try dsimp only
 by_cases hlt:k<s.length
 case neg=>
  have hkq:k=q:=by rw [zDg (by rw [zmA tO];simp)] at hs;exact hs
  have e:zYd s q=kV 0 q q []:=by
   unfold zYd zBi;rw [<-hkq,zmA tO]
  subst hkq;rw [e];clear hW hR;refine zc tF<|zC<|zC<|zt tE<|za (v:=[.int .i64 0,zL k,zL k,.str []]) rfl<|zM (v:=AV.agg [.int .i64 0,zL k,zL k,.str []]) (AV.cells (.agg [.int .i64 0,zL k,zL k,.str []])) zB rfl rfl rfl rfl ?_
  exact zAU (a:=4) (s:=4) (ag:=true) (o:=0) rfl rfl (zJ hP) rfl rfl rfl (((Old.refl _).push _).set (zoR _) _)
 obtain ⟨c,hc⟩:∃ c,s[k]?=some c:=⟨_,zoO hlt⟩;by_cases h32:c=32
 ·subst h32;rw [zMP hc] at hs;clear hW hR;refine zt tT<|zCF rfl hc<|zD<|zt (tE (by rfl))<|zQ (r:=k+1) rfl tO ?_
  exact zAJ (k+1) rfl ⟨rfl,by omega,hs⟩ tO
 have hkq:k=q:=by rw [zDg (by rw [hc];intro h;exact h32 (zoh h))] at hs;exact hs
 subst hkq;clear hs;have h32':c.toNat≠32:=fun h=>h32 (zoi.1 h);have hw:=hW c;by_cases hwc:zh c=true
 ·rw [zhQ hc hwc];have hge:=zKn s k;have hle:=zJN hk;rw [hwc] at hw;clear hR;refine zt tT<|zCF rfl hc<|zD<|zc tN<|zc tN<|zCF rfl hc ?_;refine zI (hw _)<|zD ?_;refine zAr (fun j:Nat=>[(7,zL j),(4,pR H.length),(1,zL k),(0,.str s)]) (fun j H'=>H'=H++[.box zV2]/\k<=j/\j<=s.length/\zlz s j=zlz s k) (fun j=>s.length-j) k rfl ⟨rfl,zoR _,hk,rfl⟩ (fun j H1 ⟨e,hkj,hj,hs⟩=>?_)
  subst e;clear hw
  try dsimp only
  by_cases hjl:j<s.length
  ·obtain ⟨c2,hc2⟩:∃ c,s[j]?=some c:=⟨_,zoO hjl⟩;have hw2:=hW c2;clear hW;by_cases hwc2:zh c2=true
   ·rw [zHj hc2 hwc2] at hs;rw [hwc2] at hw2;refine zt tT<|zCF rfl hc2<|zI (hw2 _)<|zD<|zD<|zQ (r:=j+1) rfl tO ?_
    exact zAJ (j+1) rfl ⟨rfl,by omega,by omega,hs⟩ tO
   ·have hwc2:=zmI.2 hwc2;rw [zHk (fun c' h=>by rw [hc2] at h;cases h;exact hwc2)] at hs;rw [hwc2] at hw2;rw [<-hs];refine zt tT<|zCF rfl hc2<|zI (hw2 _)<|zD<|zC<|za (zEB s k j hkj hj) ?_;refine za (v:=[.int .i64 1,zL k,zL j,.str (sub s k j)]) rfl<|zM (v:=AV.agg [.int .i64 1,zL k,zL j,.str (sub s k j)]) (AV.cells (.agg [.int .i64 1,zL k,zL j,.str (sub s k j)])) zB rfl rfl rfl rfl ?_
    exact zAU (a:=4) (s:=4) (ag:=true) (o:=0) rfl rfl (zJ hP) rfl rfl rfl (((Old.refl _).push _).set (zoR _) _)
  ·rw [zHk (fun c' h=>by rw [zmA tO] at h;cases h)] at hs;rw [<-hs];clear hW;refine zc tF<|zC<|zC<|za (zEB s k j hkj hj)<|za (v:=[.int .i64 1,zL k,zL j,.str (sub s k j)]) rfl<|zM (v:=AV.agg [.int .i64 1,zL k,zL j,.str (sub s k j)]) (AV.cells (.agg [.int .i64 1,zL k,zL j,.str (sub s k j)])) zB rfl rfl rfl rfl ?_
   exact zAU (a:=4) (s:=4) (ag:=true) (o:=0) rfl rfl (zJ hP) rfl rfl rfl (((Old.refl _).push _).set (zoR _) _)
 have hwf:=zmI.2 hwc;rw [hwf] at hw;by_cases h34:c=34
 ·subst h34;rw [zj8 hc];obtain ⟨r,hr⟩:∃ r,quo (s.drop (k+1)) (k+1)=r:=⟨_,rfl⟩;rw [hr];clear hR hW;refine zt tT<|zCF rfl hc<|zD<|zc (tN (by first|decide|omega))<|zc (tN (by first|decide|omega))<|zCF rfl hc ?_;refine zI (hw _)<|zc (tN (by first|decide|omega))<|zt (tE (by rfl))<|zQ (r:=k+1) rfl tO ?_;refine zAr (fun x:KSt=>[(9,zL x.i),(8,x.v),(4,pR H.length),(1,zL k),(0,.str s)])
   (fun x H'=>Owns (H++[ABlk.box zV2]) H' x.v 1 (x.acc.map zq)/\Old (H++[ABlk.box zV2]) H'/\x.i<=s.length/\x.acc.length<=x.i/\(quo (s.drop x.i) x.i).map (fun p=>(x.acc++p.1,p.2))=r)
   (fun x=>s.length-x.i) ⟨k+1,.lst (some true) 0 [],[]⟩ rfl ⟨.inl ⟨rfl,rfl⟩,Old.refl _,by simp only;omega,by simp,by simp only [zo4];rw [hr];cases r <;> rfl⟩ (fun ⟨i,v,acc⟩ H1 ⟨how,hO,hi,hal,hq⟩=>?_)
  dsimp only at how hO hi hal hq ⊢;clear hw hr;have h4:H1[H.length]?=some (.box zV2):=by rw [hO.2 H.length zS_];exact zB
  have hOH:Old H H1:=⟨by have:=hO.1;simp at this;omega,fun c hc=>by rw [hO.2 c (by simp;omega)];exact zof hc⟩;by_cases hil:i<s.length
  case neg=>
   have e:r=none:=by rw [<-hq,zmM tO];rfl
   subst e;refine zc tF<|za (v:=[.int .i64 9,zL k,zL k,.str []]) rfl<|zM (v:=AV.agg [.int .i64 9,zL k,zL k,.str []]) (AV.cells (.agg [.int .i64 9,zL k,zL k,.str []])) h4 rfl rfl rfl rfl ?_
   exact zAU (a:=4) (s:=4) (ag:=true) (o:=0) rfl rfl (zJ (zS h4)) rfl rfl rfl (hOH.set (zoR _) _)
  obtain ⟨c,hci⟩:∃ c,s[i]?=some c:=⟨_,zoO hil⟩;rw [zBh hci] at hq;by_cases h34:c=34
  ·subst h34;by_cases hend:i+1<s.length/\s[i+1]?=some 34
   ·obtain ⟨hlt2,hc2⟩:=hend;rw [zBh hc2,zZm,zoH] at hq;refine zt tT<|zCF rfl hci<|zt (tE (by rfl))<|zQ (r:=i+1) rfl tO<|zt tT<|zQ (r:=i+1) rfl tO ?_;refine zCF rfl hc2<|zD<|zt (tE (by rfl))<|zAA (vs':=[.int IntKind.u8 34]) rfl rfl ?_;refine zA0 (H0:=H++[ABlk.box zV2]) (how.push _) (hO.push _) zAR tO (by simp only [zoU,zoN,zoT];omega) zS_ fun v' H' ho' hH' hb' hf=>?_
    refine zQ (r:=i+2) rfl tO ?_;refine zAJ (KSt.mk (i+2) v' (acc++[34])) rfl ⟨by rw [zov];exact ho',hH',by simp only;omega,by simp only [zoP,zoN,zoT];omega, ?_⟩ (by simp only;omega);rw [<-hq];simp only [zou,zmV];rfl
   ·rw [zZl (by
     intro e;have hlt2:i+1<s.length:=by
      rcases zm5 (i+1) s.length with h|h
      ·exact h
      ·rw [zmM h] at e;cases e
     refine hend ⟨hlt2, ?_⟩;rw [zno] at e;exact e)] at hq
    subst hq;have e0:(match (Option.map (fun p:Bs×Nat=>(acc++p.1,p.2)) (some ([],i+1))) with
     |some (t,e)=>kV 2 k e t
     |none=>kV 9 k k [])=kV 2 k (i+1) acc:=by simp
    rw [e0];by_cases hlt2:i+1<s.length
    ·obtain ⟨c2,hc2⟩:∃ c,s[i+1]?=some c:=⟨_,zoO hlt2⟩;have hn:c2.toNat≠34:=fun e=>hend ⟨hlt2,by rw [hc2,show c2=34 from zoi.1 e]⟩;refine zt tT<|zCF rfl hci<|zt (tE (by rfl))<|zQ (r:=i+1) rfl tO<|zt tT<|zQ (r:=i+1) rfl tO ?_;refine zCF rfl hc2<|zD<|zc tN<|zQ (r:=i+1) rfl tO<|zHW how<|za (v:=[.int .i64 2,zL k,.int .i64 ↑(i+1),.str acc]) rfl ?_;refine zM (v:=AV.agg [.int .i64 2,zL k,.int .i64 ↑(i+1),.str acc]) (AV.cells (.agg [.int .i64 2,zL k,.int .i64 ↑(i+1),.str acc])) h4 rfl rfl rfl rfl ?_
     exact zAU (a:=4) (s:=4) (ag:=true) (o:=0) rfl rfl (zJ (zS h4)) rfl rfl rfl (hOH.set (zoR _) _)
    ·refine zt tT<|zCF rfl hci<|zt (tE (by rfl))<|zQ (r:=i+1) rfl tO ?_;refine zc tF<|zC<|zC<|zQ (r:=i+1) rfl tO<|zHW how<|za (v:=[.int .i64 2,zL k,.int .i64 ↑(i+1),.str acc]) rfl ?_;refine zM (v:=AV.agg [.int .i64 2,zL k,.int .i64 ↑(i+1),.str acc]) (AV.cells (.agg [.int .i64 2,zL k,.int .i64 ↑(i+1),.str acc])) h4 rfl rfl rfl rfl ?_
     exact zAU (a:=4) (s:=4) (ag:=true) (o:=0) rfl rfl (zJ (zS h4)) rfl rfl rfl (hOH.set (zoR _) _)
  ·have hn:c.toNat≠34:=fun e=>h34 (zoi.1 e);rw [zZn h34,zoH] at hq;refine zt tT<|zCF rfl hci<|zc tN<|zCF rfl hci<|zAA (vs':=[zq c]) rfl rfl ?_;refine zA0 (H0:=H++[ABlk.box zV2]) (how.push _) (hO.push _) zAR tO (by simp only [zoU,zoN,zoT];omega) zS_ fun v' H' ho' hH' hb' hf=>?_;refine zQ (r:=i+1) rfl tO ?_;refine zAJ (KSt.mk (i+1) v' (acc++[c])) rfl ⟨by rw [zov];exact ho',hH',by simp only;omega,by simp only [zoP,zoN,zoT];omega, ?_⟩ (by simp only;omega)
   rw [<-hq];simp only [zou,zmV];rfl
 by_cases h35:c=35
 ·subst h35;rw [zj9 hc];clear hW;refine zt tT<|zCF rfl hc<|zD<|zc (tN (by first|decide|omega))<|zc (tN (by first|decide|omega))<|zCF rfl hc ?_;refine zI (hw _)<|zc (tN (by first|decide|omega))<|zc (tN (by first|decide|omega))<|zt (tE (by rfl))<|zI (hR _) ?_
  obtain ⟨r,hr⟩:∃ r,bdV k (zKK (s.drop k) wrongs 1)=r:=⟨_,rfl⟩;rw [hr];have hwl:(List.map AV.str wrL).length=7:=rfl;refine zAr (fun i:Nat=>[(4,pR H.length),(11,zL i),(10,.lst (some false) 1 (wrL.map AV.str)),(1,zL k),(0,.str s)]) (fun i H'=>H'=H++[.box zV2]/\1<=i/\i<=7/\bdV k (zKK (s.drop k) (wrongs.drop (i-1)) i)=r) (fun i=>7-i) 1 rfl ⟨rfl,by omega,by omega,hr⟩ (fun i H1 ⟨e,h1,hi,hq⟩=>?_);subst e;clear hw hR hr
  try dsimp only
  by_cases hlt7:i<7
  ·obtain ⟨t,ht⟩:∃ t,wrL[i]?=some t:=⟨_,zoO hlt7⟩;have htm:(wrL.map AV.str)[i]?=some (.str t):=by rw [zoX,ht];rfl
   have htl:t.length<=10:=by
    rcases i with _|_|_|_|_|_|_|i
    all_goals first|(cases ht;decide)|omega
   have hdr:wrongs.drop (i-1)=t::wrongs.drop i:=by
    obtain ⟨j,rfl⟩:∃ j,i=j+1:=⟨i-1,by omega⟩;rw [zmT,zmF (by have:wrongs.length=6:=rfl;omega)];have ht':wrongs[j]?=some t:=ht;rw [(zg ht').2]
   have hgd:wrongs.getD (i-1) []=t:=by
    obtain ⟨j,rfl⟩:∃ j,i=j+1:=⟨i-1,by omega⟩;have ht':wrongs[j]?=some t:=ht;rw [zmT,zmd,ht'];rfl
   rw [hdr] at hq;unfold zKK at hq;have hnx:wrongs.drop i=wrongs.drop (i+1-1):=rfl;by_cases hle:k+t.length<=s.length
   ·have hsl:=zEB s k (k+t.length) tO hle;have hst:sub s k (k+t.length)=(s.drop k).take t.length:=by unfold sub;rw [znC]
    rw [hst] at hsl;by_cases he:(s.drop k).take t.length=t
    ·rw [zoQ he] at hq;have hq:kV 3 k (k+t.length) t=r:=by rw [<-hq];show kV 3 k (k+t.length) t=kV 3 k (k+t.length) (wrongs.getD (i-1) []);rw [hgd]
     subst hq;refine zPC<|zt tT<|zSO rfl htm<|z8 (.str t) rfl<|zQ (r:=k+t.length) rfl tO<|zt tT ?_;refine zQ (r:=k+t.length) rfl tO<|za hsl<|zSO rfl htm<|z8 (.str t) rfl<|zD<|zt (tE he) ?_;refine zQ (r:=k+t.length) rfl tO<|zSO rfl htm<|z8 (.str t) rfl<|za (v:=[.int .i64 3,zL k,.int .i64 ↑(k+List.length t),.str t]) rfl<|zM (v:=AV.agg [.int .i64 3,zL k,.int .i64 ↑(k+List.length t),.str t]) (AV.cells (.agg [.int .i64 3,zL k,.int .i64 ↑(k+List.length t),.str t])) zB rfl rfl rfl rfl ?_
     exact zAU (a:=4) (s:=4) (ag:=true) (o:=0) rfl rfl (zJ hP) rfl rfl rfl (((Old.refl _).push _).set (zoR _) _)
    ·rw [zWl he] at hq;refine zPC<|zt tT<|zSO rfl htm<|z8 (.str t) rfl<|zQ (r:=k+t.length) rfl tO<|zt tT ?_;refine zQ (r:=k+t.length) rfl tO<|za hsl<|zSO rfl htm<|z8 (.str t) rfl<|zD<|zc (tN he) ?_;refine zQ (r:=i+1) rfl tO ?_
     exact zAJ (i+1) rfl ⟨rfl,by omega,by omega,hq⟩ tO
   ·have he:¬ (s.drop k).take t.length=t:=fun e=>by
     have:=zod List.length e;rw [zon,zok] at this;omega
    rw [zWl he] at hq;refine zPC<|zt tT<|zSO rfl htm<|z8 (.str t) rfl<|zQ (r:=k+t.length) rfl tO ?_;refine zc tF<|zC<|zC<|zQ (r:=i+1) rfl tO ?_
    exact zAJ (i+1) rfl ⟨rfl,by omega,by omega,hq⟩ tO
  ·have e7:i=7:=by omega
   subst e7;have hq:kV 9 k k []=r:=hq;subst hq;refine zPC<|zc (tF zD_)<|za (v:=[.int .i64 9,zL k,zL k,.str []]) rfl<|zM (v:=AV.agg [.int .i64 9,zL k,zL k,.str []]) (AV.cells (.agg [.int .i64 9,zL k,zL k,.str []])) zB rfl rfl rfl rfl ?_
   exact zAU (a:=4) (s:=4) (ag:=true) (o:=0) rfl rfl (zJ hP) rfl rfl rfl (((Old.refl _).push _).set (zoR _) _)
 rw [zhR hc hwc h34 h35];clear hW hR;have h34':c.toNat≠34:=fun h=>h34 (zoi.1 h);have h35':c.toNat≠35:=fun h=>h35 (zoi.1 h);by_cases h2:k+2<=s.length
 ·obtain ⟨d,hd⟩:∃ d,s[k+1]?=some d:=⟨_,zoO tO⟩;have h2s:=zEB s k (k+2) tO h2;have h1s:=zEB s k (k+1) tO tO;rw [zhS hc hd] at h2s;rw [zaG hc] at h1s;rw [hd];unfold zKp;simp only;by_cases hx:(c=60/\d=62)\/(c=60/\d=61)\/(c=62/\d=61)
  ·rw [zoQ hx];rcases hx with ⟨rfl,rfl⟩|⟨rfl,rfl⟩|⟨rfl,rfl⟩
   ·refine zt tT<|zCF rfl hc<|zD<|zc (tN (by first|decide|omega))<|zc (tN (by first|decide|omega))<|zCF rfl hc ?_;refine zI (hw _)<|zc (tN (by first|decide|omega))<|zc (tN (by first|decide|omega))<|zc (tN (by first|decide|omega))<|zQ (r:=k+2) rfl tO<|zt tT ?_;refine zQ (r:=k+2) rfl tO<|za h2s ?_;refine zD<|zD<|zD<|zD<|zD<|zQ (r:=k+2) rfl tO ?_
    refine za (v:=[.int .i64 4,zL k,.int .i64 ↑(k+2),.str [60,62]]) rfl<|zM (v:=AV.agg [.int .i64 4,zL k,.int .i64 ↑(k+2),.str [60,62]]) (AV.cells (.agg [.int .i64 4,zL k,.int .i64 ↑(k+2),.str [60,62]])) zB rfl rfl rfl rfl ?_
    exact zAU (a:=4) (s:=4) (ag:=true) (o:=0) rfl rfl (zJ hP) rfl rfl rfl (((Old.refl _).push _).set (zoR _) _)
   ·refine zt tT<|zCF rfl hc<|zD<|zc (tN (by first|decide|omega))<|zc (tN (by first|decide|omega))<|zCF rfl hc ?_;refine zI (hw _)<|zc (tN (by first|decide|omega))<|zc (tN (by first|decide|omega))<|zc (tN (by first|decide|omega))<|zQ (r:=k+2) rfl tO<|zt tT ?_;refine zQ (r:=k+2) rfl tO<|za h2s ?_;refine zc (tN (by first|decide|omega))<|zc (tN (by first|decide|omega))<|zD<|zD<|zD<|zQ (r:=k+2) rfl tO ?_
    refine za (v:=[.int .i64 4,zL k,.int .i64 ↑(k+2),.str [60,61]]) rfl<|zM (v:=AV.agg [.int .i64 4,zL k,.int .i64 ↑(k+2),.str [60,61]]) (AV.cells (.agg [.int .i64 4,zL k,.int .i64 ↑(k+2),.str [60,61]])) zB rfl rfl rfl rfl ?_
    exact zAU (a:=4) (s:=4) (ag:=true) (o:=0) rfl rfl (zJ hP) rfl rfl rfl (((Old.refl _).push _).set (zoR _) _)
   ·refine zt tT<|zCF rfl hc<|zD<|zc (tN (by first|decide|omega))<|zc (tN (by first|decide|omega))<|zCF rfl hc ?_;refine zI (hw _)<|zc (tN (by first|decide|omega))<|zc (tN (by first|decide|omega))<|zc (tN (by first|decide|omega))<|zQ (r:=k+2) rfl tO<|zt tT ?_;refine zQ (r:=k+2) rfl tO<|za h2s ?_;refine zc (tN (by first|decide|omega))<|zc (tN (by first|decide|omega))<|zc (tN (by first|decide|omega))<|zc (tN (by first|decide|omega))<|zD<|zQ (r:=k+2) rfl tO ?_
    refine za (v:=[.int .i64 4,zL k,.int .i64 ↑(k+2),.str [62,61]]) rfl<|zM (v:=AV.agg [.int .i64 4,zL k,.int .i64 ↑(k+2),.str [62,61]]) (AV.cells (.agg [.int .i64 4,zL k,.int .i64 ↑(k+2),.str [62,61]])) zB rfl rfl rfl rfl ?_
    exact zAU (a:=4) (s:=4) (ag:=true) (o:=0) rfl rfl (zJ hP) rfl rfl rfl (((Old.refl _).push _).set (zoR _) _)
  ·rw [zWl hx,show k+([c]:Bs).length=k+1 from rfl];have n1:([c,d]==([60,62]:Bs))=false:=tN fun e=>hx (by simp only [zmZ,znQ] at e;exact .inl e);have n2:([c,d]==([60,61]:Bs))=false:=tN fun e=>hx (by simp only [zmZ,znQ] at e;exact .inr (.inl e));have n3:([c,d]==([62,61]:Bs))=false:=tN fun e=>hx (by simp only [zmZ,znQ] at e;exact .inr (.inr e));refine zt tT<|zCF rfl hc<|zD<|zc tN<|zc tN<|zCF rfl hc ?_;refine zI (hw _)<|zC<|zc tN<|zc tN<|zQ (r:=k+2) rfl tO<|zt tT ?_;refine zQ (r:=k+2) rfl tO<|za h2s<|zc n1<|zC<|zc n2<|zC ?_;refine zc n3<|zQ (r:=k+1) rfl tO<|zQ (r:=k+1) rfl tO<|za h1s<|za (v:=[.int .i64 4,zL k,.int .i64 ↑(k+1),.str [c]]) rfl<|zM (v:=AV.agg [.int .i64 4,zL k,.int .i64 ↑(k+1),.str [c]]) (AV.cells (.agg [.int .i64 4,zL k,.int .i64 ↑(k+1),.str [c]])) zB rfl rfl rfl rfl ?_
   exact zAU (a:=4) (s:=4) (ag:=true) (o:=0) rfl rfl (zJ hP) rfl rfl rfl (((Old.refl _).push _).set (zoR _) _)
 ·have h1s:=zEB s k (k+1) tO tO;rw [zaG hc] at h1s;have e:zKp c s[k+1]?=[c]:=by rw [zmA tO];rfl
  rw [e,show k+([c]:Bs).length=k+1 from rfl];refine zt tT<|zCF rfl hc<|zD<|zc tN<|zc tN<|zCF rfl hc ?_;refine zI (hw _)<|zC<|zc tN<|zc tN<|zQ (r:=k+2) rfl tO<|zc tF ?_;refine zQ (r:=k+1) rfl tO<|zQ (r:=k+1) rfl tO<|za h1s<|za (v:=[.int .i64 4,zL k,.int .i64 ↑(k+1),.str [c]]) rfl<|zM (v:=AV.agg [.int .i64 4,zL k,.int .i64 ↑(k+1),.str [c]]) (AV.cells (.agg [.int .i64 4,zL k,.int .i64 ↑(k+1),.str [c]])) zB rfl rfl rfl rfl ?_
  exact zAU (a:=4) (s:=4) (ag:=true) (o:=0) rfl rfl (zJ hP) rfl rfl rfl (((Old.refl _).push _).set (zoR _) _)
end
end Go.AM
