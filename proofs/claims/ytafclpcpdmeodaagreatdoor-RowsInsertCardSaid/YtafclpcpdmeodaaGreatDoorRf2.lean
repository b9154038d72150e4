/- The reference's parser: tokens. Own work. -/
import Derived.Test.YtafclpcpdmeodaaGreatDoorGAm31Rf1
set_option linter.all false
set_option maxRecDepth 20000
namespace Go.AM
def kV (k a e:Nat) (t:Bs):AV:=.agg [zK k,zK a,zK e,.str t]
def tkAt (s:Bs) (q:Nat):AV:=match zBg s q with
 |.fin=>kV 0 q q []
 |.word e t=>kV 1 q e t
 |.txt e t=>kV 2 q e t
 |.bad e k=>kV 3 q e (wrongs.getD (k-1) [])
 |.sign e t=>kV 4 q e t
 |.none=>kV 9 q q []
def tkV (s:Bs) (a:Nat):AV:=tkAt s (skip s a)
theorem tk_word {s:Bs} {q:Nat} {c:UInt8} (hc:s[q]?=some c) (hw:zh c=true):tkAt s q=kV 1 q (zDE s q) (sub s q (zDE s q)):=by
 unfold tkAt zBg;rw [hc];simp only [hw,zQz]
theorem tk_txt {s:Bs} {q:Nat} (hc:s[q]?=some 34):tkAt s q=match quo (s.drop (q+1)) (q+1) with
  |some (t,e)=>kV 2 q e t
  |none=>kV 9 q q []:=by
 unfold tkAt zBg;rw [hc];have hw:zh 34=false:=by decide
 simp only [hw,zQY,zQt,zQz];cases quo (s.drop (q+1)) (q+1) with
 |none=>rfl
 |some x=>rfl
def bdV (q:Nat) (r:Option (Nat×Nat)):AV:=match r with
  |some (k,n)=>kV 3 q (q+n) (wrongs.getD (k-1) [])
  |none=>kV 9 q q []
theorem tk_bad {s:Bs} {q:Nat} (hc:s[q]?=some 35):tkAt s q=bdV q (zKk (s.drop q) wrongs 1):=by
 unfold tkAt zBg bdV;rw [hc];have hw:zh 35=false:=by decide
 have h1:¬ ((35:UInt8)=34):=by decide
 simp only [hw,zQY,zQt,zQz,h1];cases zKk (s.drop q) wrongs 1 with
 |none=>rfl
 |some x=>rfl
theorem tk_sign {s:Bs} {q:Nat} {c:UInt8} (hc:s[q]?=some c) (hw:¬ zh c=true) (h34:c≠34) (h35:c≠35):tkAt s q=kV 4 q (q+(zLE c s[q+1]?).length) (zLE c s[q+1]?):=by
 unfold tkAt zBg zLE;rw [hc];simp only [hw,zQt,h34,h35];cases s[q+1]? with
 |none=>rfl
 |some d=>
  simp only;by_cases hx:(c=60/\d=62)\/(c=60/\d=61)\/(c=62/\d=61)
  ·simp only [zQQ hx];rfl
  ·simp only [zQN hx];rfl
theorem sub_two {s:Bs} {q:Nat} {c d:UInt8} (h1:s[q]?=some c) (h2:s[q+1]?=some d):sub s q (q+2)=[c,d]:=by
 unfold sub;rw [zR4,zBe h1,zBe h2];rfl
theorem sub_one {s:Bs} {q:Nat} {c:UInt8} (h1:s[q]?=some c):sub s q (q+1)=[c]:=by
 unfold sub;rw [zR4,zBe h1];rfl
structure KSt where
 i:Nat
 v:AV
 acc:Bs
section
variable {C:CSpec} {GT:Nat->Option AV}
set_option maxHeartbeats 4000000 in
theorem rtoken_ev (hW:∀ c H,C zCD [byV c] H (.bool (zh c)) H) (hR:∀ H,C zAy [] H (.lst (some false) 1 (wrL.map AV.str)) H)
  (s:Bs) (a:Nat) (H:Heap) (ha:a<=s.length) (hl:s.length<=1000):EFun C GT zGF [.str s,zK a] H (tkV s a) H:=by
 obtain ⟨q,hq⟩:∃ q,skip s a=q:=⟨_,rfl⟩;unfold tkV;rw [hq];refine zI ?_;refine zBB (fun k:Nat=>[(1,zK k),(4,pR H.length),(0,.str s)]) (fun k H'=>H'=H++[.box zV4]/\k<=s.length/\skip s k=q) (fun k=>s.length-k) a rfl ⟨rfl,ha,hq⟩ (fun k H1 ⟨e,hk,hs⟩=>?_);subst e;clear ha hq
 try dsimp only
 by_cases hlt:k<s.length
 case neg=>
  have hkq:k=q:=by rw [zDh (by rw [zQ9 tO];simp)] at hs;exact hs
  have e:tkAt s q=kV 0 q q []:=by
   unfold tkAt zBg;rw [<-hkq,zQ9 tO]
  subst hkq;rw [e];clear hW hR;refine zk tF<|zG<|zG<|zp tE<|zy (v:=[.int .i64 0,zK k,zK k,AV.str []]) rfl<|zL (v:=AV.agg [.int .i64 0,zK k,zK k,AV.str []]) (AV.cells (AV.agg [.int .i64 0,zK k,zK k,AV.str []])) zB rfl rfl rfl rfl ?_
  exact zAV (a:=4) (s:=4) (ag:=true) (o:=0) rfl rfl (zH hP) rfl rfl rfl (((Old.refl _).push _).set (zQU _) _)
 obtain ⟨c,hc⟩:∃ c,s[k]?=some c:=⟨_,zQS hlt⟩;by_cases h32:c=32
 ·subst h32;rw [zNF hc] at hs;clear hW hR;refine zp tT<|zCB rfl hc<|zD<|zp (tE (by rfl))<|zS (r:=k+1) rfl tO ?_
  exact zAP (k+1) rfl ⟨rfl,by omega,hs⟩ tO
 have hkq:k=q:=by rw [zDh (by rw [hc];intro h;exact h32 (zQl h))] at hs;exact hs
 subst hkq;clear hs;have h32':c.toNat≠32:=fun h=>h32 (zQm.1 h);have hw:=hW c;by_cases hwc:zh c=true
 ·rw [tk_word hc hwc];have hge:=zLC s k;have hle:=zJr hk;rw [hwc] at hw;clear hR;refine zp tT<|zCB rfl hc<|zD<|zk tN<|zk tN<|zCB rfl hc ?_;refine zM (hw _)<|zD ?_;refine zBB (fun j:Nat=>[(7,zK j),(4,pR H.length),(1,zK k),(0,.str s)]) (fun j H'=>H'=H++[.box zV4]/\k<=j/\j<=s.length/\zDE s j=zDE s k) (fun j=>s.length-j) k rfl ⟨rfl,zQU _,hk,rfl⟩ (fun j H1 ⟨e,hkj,hj,hs⟩=>?_)
  subst e;clear hw
  try dsimp only
  by_cases hjl:j<s.length
  ·obtain ⟨c2,hc2⟩:∃ c,s[j]?=some c:=⟨_,zQS hjl⟩;have hw2:=hW c2;clear hW;by_cases hwc2:zh c2=true
   ·rw [zHz hc2 hwc2] at hs;rw [hwc2] at hw2;refine zp tT<|zCB rfl hc2<|zM (hw2 _)<|zD<|zD<|zS (r:=j+1) rfl tO ?_
    exact zAP (j+1) rfl ⟨rfl,by omega,by omega,hs⟩ tO
   ·have hwc2:=zRI.2 hwc2;rw [zH0 (fun c' h=>by rw [hc2] at h;cases h;exact hwc2)] at hs;rw [hwc2] at hw2;rw [<-hs];refine zp tT<|zCB rfl hc2<|zM (hw2 _)<|zD<|zG<|zy (zEB s k j hkj hj) ?_;refine zy (v:=[.int .i64 1,zK k,zK j,AV.str (sub s k j)]) rfl<|zL (v:=AV.agg [.int .i64 1,zK k,zK j,AV.str (sub s k j)]) (AV.cells (AV.agg [.int .i64 1,zK k,zK j,AV.str (sub s k j)])) zB rfl rfl rfl rfl ?_
    exact zAV (a:=4) (s:=4) (ag:=true) (o:=0) rfl rfl (zH hP) rfl rfl rfl (((Old.refl _).push _).set (zQU _) _)
  ·rw [zH0 (fun c' h=>by rw [zQ9 tO] at h;cases h)] at hs;rw [<-hs];clear hW;refine zk tF<|zG<|zG<|zy (zEB s k j hkj hj)<|zy (v:=[.int .i64 1,zK k,zK j,AV.str (sub s k j)]) rfl<|zL (v:=AV.agg [.int .i64 1,zK k,zK j,AV.str (sub s k j)]) (AV.cells (AV.agg [.int .i64 1,zK k,zK j,AV.str (sub s k j)])) zB rfl rfl rfl rfl ?_
   exact zAV (a:=4) (s:=4) (ag:=true) (o:=0) rfl rfl (zH hP) rfl rfl rfl (((Old.refl _).push _).set (zQU _) _)
 have hwf:=zRI.2 hwc;rw [hwf] at hw;by_cases h34:c=34
 ·subst h34;rw [tk_txt hc];obtain ⟨r,hr⟩:∃ r,quo (s.drop (k+1)) (k+1)=r:=⟨_,rfl⟩;rw [hr];clear hR hW;refine zp tT<|zCB rfl hc<|zD<|zk (tN (by first|decide|omega))<|zk (tN (by first|decide|omega))<|zCB rfl hc ?_;refine zM (hw _)<|zk (tN (by first|decide|omega))<|zp (tE (by rfl))<|zS (r:=k+1) rfl tO ?_;refine zBB (fun x:KSt=>[(9,zK x.i),(8,x.v),(4,pR H.length),(1,zK k),(0,.str s)])
   (fun x H'=>Owns (H++[ABlk.box zV4]) H' x.v 1 (x.acc.map zo)/\Old (H++[ABlk.box zV4]) H'/\x.i<=s.length/\x.acc.length<=x.i/\(quo (s.drop x.i) x.i).map (fun p=>(x.acc++p.1,p.2))=r)
   (fun x=>s.length-x.i) ⟨k+1,.lst (some true) 0 [],[]⟩ rfl ⟨.inl ⟨rfl,rfl⟩,Old.refl _,by simp only;omega,by simp,by simp only [zRC];rw [hr];cases r <;> rfl⟩ (fun ⟨i,v,acc⟩ H1 ⟨how,hO,hi,hal,hq⟩=>?_)
  dsimp only at how hO hi hal hq ⊢;clear hw hr;have h4:H1[H.length]?=some (.box zV4):=by rw [hO.2 H.length (by simp)];exact zB
  have hOH:Old H H1:=⟨by have:=hO.1;simp at this;omega,fun c hc=>by rw [hO.2 c (by simp;omega)];exact zQc hc⟩;by_cases hil:i<s.length
  case neg=>
   have e:r=none:=by rw [<-hq,zRD tO];rfl
   subst e;refine zk tF<|zy (v:=[.int .i64 9,zK k,zK k,AV.str []]) rfl<|zL (v:=AV.agg [.int .i64 9,zK k,zK k,AV.str []]) (AV.cells (AV.agg [.int .i64 9,zK k,zK k,AV.str []])) h4 rfl rfl rfl rfl ?_
   exact zAV (a:=4) (s:=4) (ag:=true) (o:=0) rfl rfl (zH (zV h4)) rfl rfl rfl (hOH.set (zQU _) _)
  obtain ⟨c,hci⟩:∃ c,s[i]?=some c:=⟨_,zQS hil⟩;rw [zBe hci] at hq;by_cases h34:c=34
  ·subst h34;by_cases hend:i+1<s.length/\s[i+1]?=some 34
   ·obtain ⟨hlt2,hc2⟩:=hend;rw [zBe hc2,quo_dbl,zS8] at hq;refine zp tT<|zCB rfl hci<|zp (tE (by rfl))<|zS (r:=i+1) rfl tO<|zp tT<|zS (r:=i+1) rfl tO ?_;refine zCB rfl hc2<|zD<|zp (tE (by rfl))<|zAW (vs':=[AV.int IntKind.u8 34]) rfl rfl ?_;refine zBt (H0:=H++[ABlk.box zV4]) (how.push _) (hO.push _) zAo tO (by simp only [zQW,zQO,zQV];omega) (by simp) fun v' H' ho' hH' hb' hf=>?_
    refine zS (r:=i+2) rfl tO ?_;refine zAP (KSt.mk (i+2) v' (acc++[34])) rfl ⟨by rw [zQ5];exact ho',hH',by simp only;omega,by simp only [zQR,zQO,zQV];omega, ?_⟩ (by simp only;omega);rw [<-hq];simp only [zQu,zRP];rfl
   ·rw [quo_end (by
     intro e;have hlt2:i+1<s.length:=by
      rcases zRz (i+1) s.length with h|h
      ·exact h
      ·rw [zRD h] at e;cases e
     refine hend ⟨hlt2, ?_⟩;rw [zS5] at e;exact e)] at hq
    subst hq;have e0:(match (Option.map (fun p:Bs×Nat=>(acc++p.1,p.2)) (some ([],i+1))) with
     |some (t,e)=>kV 2 k e t
     |none=>kV 9 k k [])=kV 2 k (i+1) acc:=by simp
    rw [e0];by_cases hlt2:i+1<s.length
    ·obtain ⟨c2,hc2⟩:∃ c,s[i+1]?=some c:=⟨_,zQS hlt2⟩;have hn:c2.toNat≠34:=fun e=>hend ⟨hlt2,by rw [hc2,show c2=34 from zQm.1 e]⟩;refine zp tT<|zCB rfl hci<|zp (tE (by rfl))<|zS (r:=i+1) rfl tO<|zp tT<|zS (r:=i+1) rfl tO ?_;refine zCB rfl hc2<|zD<|zk tN<|zS (r:=i+1) rfl tO<|zHd how<|zy (v:=[.int .i64 2,zK k,.int .i64 ↑(i+1),AV.str acc]) rfl ?_;refine zL (v:=AV.agg [.int .i64 2,zK k,.int .i64 ↑(i+1),AV.str acc]) (AV.cells (AV.agg [.int .i64 2,zK k,.int .i64 ↑(i+1),AV.str acc])) h4 rfl rfl rfl rfl ?_
     exact zAV (a:=4) (s:=4) (ag:=true) (o:=0) rfl rfl (zH (zV h4)) rfl rfl rfl (hOH.set (zQU _) _)
    ·refine zp tT<|zCB rfl hci<|zp (tE (by rfl))<|zS (r:=i+1) rfl tO ?_;refine zk tF<|zG<|zG<|zS (r:=i+1) rfl tO<|zHd how<|zy (v:=[.int .i64 2,zK k,.int .i64 ↑(i+1),AV.str acc]) rfl ?_;refine zL (v:=AV.agg [.int .i64 2,zK k,.int .i64 ↑(i+1),AV.str acc]) (AV.cells (AV.agg [.int .i64 2,zK k,.int .i64 ↑(i+1),AV.str acc])) h4 rfl rfl rfl rfl ?_
     exact zAV (a:=4) (s:=4) (ag:=true) (o:=0) rfl rfl (zH (zV h4)) rfl rfl rfl (hOH.set (zQU _) _)
  ·have hn:c.toNat≠34:=fun e=>h34 (zQm.1 e);rw [quo_chr h34,zS8] at hq;refine zp tT<|zCB rfl hci<|zk tN<|zCB rfl hci<|zAW (vs':=[zo c]) rfl rfl ?_;refine zBt (H0:=H++[ABlk.box zV4]) (how.push _) (hO.push _) zAo tO (by simp only [zQW,zQO,zQV];omega) (by simp) fun v' H' ho' hH' hb' hf=>?_;refine zS (r:=i+1) rfl tO ?_;refine zAP (KSt.mk (i+1) v' (acc++[c])) rfl ⟨by rw [zQ5];exact ho',hH',by simp only;omega,by simp only [zQR,zQO,zQV];omega, ?_⟩ (by simp only;omega)
   rw [<-hq];simp only [zQu,zRP];rfl
 by_cases h35:c=35
 ·subst h35;rw [tk_bad hc];clear hW;refine zp tT<|zCB rfl hc<|zD<|zk (tN (by first|decide|omega))<|zk (tN (by first|decide|omega))<|zCB rfl hc ?_;refine zM (hw _)<|zk (tN (by first|decide|omega))<|zk (tN (by first|decide|omega))<|zp (tE (by rfl))<|zM (hR _) ?_
  obtain ⟨r,hr⟩:∃ r,bdV k (zKk (s.drop k) wrongs 1)=r:=⟨_,rfl⟩;rw [hr];have hwl:(List.map AV.str wrL).length=7:=rfl;refine zBB (fun i:Nat=>[(4,pR H.length),(11,zK i),(10,.lst (some false) 1 (wrL.map AV.str)),(1,zK k),(0,.str s)]) (fun i H'=>H'=H++[.box zV4]/\1<=i/\i<=7/\bdV k (zKk (s.drop k) (wrongs.drop (i-1)) i)=r) (fun i=>7-i) 1 rfl ⟨rfl,by omega,by omega,hr⟩ (fun i H1 ⟨e,h1,hi,hq⟩=>?_);subst e;clear hw hR hr
  try dsimp only
  by_cases hlt7:i<7
  ·obtain ⟨t,ht⟩:∃ t,wrL[i]?=some t:=⟨_,zQS hlt7⟩;have htm:(wrL.map AV.str)[i]?=some (AV.str t):=by rw [zQa,ht];rfl
   have htl:t.length<=10:=by
    rcases i with _|_|_|_|_|_|_|i
    all_goals first|(cases ht;decide)|omega
   have hdr:wrongs.drop (i-1)=t::wrongs.drop i:=by
    obtain ⟨j,rfl⟩:∃ j,i=j+1:=⟨i-1,by omega⟩;rw [zRX,zRU (by have:wrongs.length=6:=rfl;omega)];have ht':wrongs[j]?=some t:=ht;rw [(zg ht').2]
   have hgd:wrongs.getD (i-1) []=t:=by
    obtain ⟨j,rfl⟩:∃ j,i=j+1:=⟨i-1,by omega⟩;have ht':wrongs[j]?=some t:=ht;rw [zRX,zRT,ht'];rfl
   rw [hdr] at hq;unfold zKk at hq;have hnx:wrongs.drop i=wrongs.drop (i+1-1):=rfl;by_cases hle:k+t.length<=s.length
   ·have hsl:=zEB s k (k+t.length) tO hle;have hst:sub s k (k+t.length)=(s.drop k).take t.length:=by unfold sub;rw [zR4]
    rw [hst] at hsl;by_cases he:(s.drop k).take t.length=t
    ·rw [zQQ he] at hq;have hq:kV 3 k (k+t.length) t=r:=by rw [<-hq];show kV 3 k (k+t.length) t=kV 3 k (k+t.length) (wrongs.getD (i-1) []);rw [hgd]
     subst hq;refine sLenL<|zp tT<|sIdx rfl htm<|zA4 (.str t) rfl<|zS (r:=k+t.length) rfl tO<|zp tT ?_;refine zS (r:=k+t.length) rfl tO<|zy hsl<|sIdx rfl htm<|zA4 (.str t) rfl<|zD<|zp (tE he) ?_;refine zS (r:=k+t.length) rfl tO<|sIdx rfl htm<|zA4 (.str t) rfl<|zy (v:=[.int .i64 3,zK k,.int .i64 ↑(k+List.length t),AV.str t]) rfl<|zL (v:=AV.agg [.int .i64 3,zK k,.int .i64 ↑(k+List.length t),AV.str t]) (AV.cells (AV.agg [.int .i64 3,zK k,.int .i64 ↑(k+List.length t),AV.str t])) zB rfl rfl rfl rfl ?_
     exact zAV (a:=4) (s:=4) (ag:=true) (o:=0) rfl rfl (zH hP) rfl rfl rfl (((Old.refl _).push _).set (zQU _) _)
    ·rw [zQN he] at hq;refine sLenL<|zp tT<|sIdx rfl htm<|zA4 (.str t) rfl<|zS (r:=k+t.length) rfl tO<|zp tT ?_;refine zS (r:=k+t.length) rfl tO<|zy hsl<|sIdx rfl htm<|zA4 (.str t) rfl<|zD<|zk (tN he) ?_;refine zS (r:=i+1) rfl tO ?_
     exact zAP (i+1) rfl ⟨rfl,by omega,by omega,hq⟩ tO
   ·have he:¬ (s.drop k).take t.length=t:=fun e=>by
     have:=zQb List.length e;rw [zQk,zQp] at this;omega
    rw [zQN he] at hq;refine sLenL<|zp tT<|sIdx rfl htm<|zA4 (.str t) rfl<|zS (r:=k+t.length) rfl tO ?_;refine zk tF<|zG<|zG<|zS (r:=i+1) rfl tO ?_
    exact zAP (i+1) rfl ⟨rfl,by omega,by omega,hq⟩ tO
  ·have e7:i=7:=by omega
   subst e7;have hq:kV 9 k k []=r:=hq;subst hq;refine sLenL<|zk (tF (by decide))<|zy (v:=[.int .i64 9,zK k,zK k,AV.str []]) rfl<|zL (v:=AV.agg [.int .i64 9,zK k,zK k,AV.str []]) (AV.cells (AV.agg [.int .i64 9,zK k,zK k,AV.str []])) zB rfl rfl rfl rfl ?_
   exact zAV (a:=4) (s:=4) (ag:=true) (o:=0) rfl rfl (zH hP) rfl rfl rfl (((Old.refl _).push _).set (zQU _) _)
 rw [tk_sign hc hwc h34 h35];clear hW hR;have h34':c.toNat≠34:=fun h=>h34 (zQm.1 h);have h35':c.toNat≠35:=fun h=>h35 (zQm.1 h);by_cases h2:k+2<=s.length
 ·obtain ⟨d,hd⟩:∃ d,s[k+1]?=some d:=⟨_,zQS tO⟩;have h2s:=zEB s k (k+2) tO h2;have h1s:=zEB s k (k+1) tO tO;rw [sub_two hc hd] at h2s;rw [sub_one hc] at h1s;rw [hd];unfold zLE;simp only;by_cases hx:(c=60/\d=62)\/(c=60/\d=61)\/(c=62/\d=61)
  ·rw [zQQ hx];rcases hx with ⟨rfl,rfl⟩|⟨rfl,rfl⟩|⟨rfl,rfl⟩
   ·refine zp tT<|zCB rfl hc<|zD<|zk (tN (by first|decide|omega))<|zk (tN (by first|decide|omega))<|zCB rfl hc ?_;refine zM (hw _)<|zk (tN (by first|decide|omega))<|zk (tN (by first|decide|omega))<|zk (tN (by first|decide|omega))<|zS (r:=k+2) rfl tO<|zp tT ?_;refine zS (r:=k+2) rfl tO<|zy h2s ?_;refine zD<|zD<|zD<|zD<|zD<|zS (r:=k+2) rfl tO ?_
    refine zy (v:=[.int .i64 4,zK k,.int .i64 ↑(k+2),AV.str [60,62]]) rfl<|zL (v:=AV.agg [.int .i64 4,zK k,.int .i64 ↑(k+2),AV.str [60,62]]) (AV.cells (AV.agg [.int .i64 4,zK k,.int .i64 ↑(k+2),AV.str [60,62]])) zB rfl rfl rfl rfl ?_
    exact zAV (a:=4) (s:=4) (ag:=true) (o:=0) rfl rfl (zH hP) rfl rfl rfl (((Old.refl _).push _).set (zQU _) _)
   ·refine zp tT<|zCB rfl hc<|zD<|zk (tN (by first|decide|omega))<|zk (tN (by first|decide|omega))<|zCB rfl hc ?_;refine zM (hw _)<|zk (tN (by first|decide|omega))<|zk (tN (by first|decide|omega))<|zk (tN (by first|decide|omega))<|zS (r:=k+2) rfl tO<|zp tT ?_;refine zS (r:=k+2) rfl tO<|zy h2s ?_;refine zk (tN (by first|decide|omega))<|zk (tN (by first|decide|omega))<|zD<|zD<|zD<|zS (r:=k+2) rfl tO ?_
    refine zy (v:=[.int .i64 4,zK k,.int .i64 ↑(k+2),AV.str [60,61]]) rfl<|zL (v:=AV.agg [.int .i64 4,zK k,.int .i64 ↑(k+2),AV.str [60,61]]) (AV.cells (AV.agg [.int .i64 4,zK k,.int .i64 ↑(k+2),AV.str [60,61]])) zB rfl rfl rfl rfl ?_
    exact zAV (a:=4) (s:=4) (ag:=true) (o:=0) rfl rfl (zH hP) rfl rfl rfl (((Old.refl _).push _).set (zQU _) _)
   ·refine zp tT<|zCB rfl hc<|zD<|zk (tN (by first|decide|omega))<|zk (tN (by first|decide|omega))<|zCB rfl hc ?_;refine zM (hw _)<|zk (tN (by first|decide|omega))<|zk (tN (by first|decide|omega))<|zk (tN (by first|decide|omega))<|zS (r:=k+2) rfl tO<|zp tT ?_;refine zS (r:=k+2) rfl tO<|zy h2s ?_;refine zk (tN (by first|decide|omega))<|zk (tN (by first|decide|omega))<|zk (tN (by first|decide|omega))<|zk (tN (by first|decide|omega))<|zD<|zS (r:=k+2) rfl tO ?_
    refine zy (v:=[.int .i64 4,zK k,.int .i64 ↑(k+2),AV.str [62,61]]) rfl<|zL (v:=AV.agg [.int .i64 4,zK k,.int .i64 ↑(k+2),AV.str [62,61]]) (AV.cells (AV.agg [.int .i64 4,zK k,.int .i64 ↑(k+2),AV.str [62,61]])) zB rfl rfl rfl rfl ?_
    exact zAV (a:=4) (s:=4) (ag:=true) (o:=0) rfl rfl (zH hP) rfl rfl rfl (((Old.refl _).push _).set (zQU _) _)
  ·rw [zQN hx,show k+([c]:Bs).length=k+1 from rfl];have n1:([c,d]==([60,62]:Bs))=false:=tN fun e=>hx (by simp only [zRe,zSP] at e;exact .inl e);have n2:([c,d]==([60,61]:Bs))=false:=tN fun e=>hx (by simp only [zRe,zSP] at e;exact .inr (.inl e));have n3:([c,d]==([62,61]:Bs))=false:=tN fun e=>hx (by simp only [zRe,zSP] at e;exact .inr (.inr e));refine zp tT<|zCB rfl hc<|zD<|zk tN<|zk tN<|zCB rfl hc ?_;refine zM (hw _)<|zG<|zk tN<|zk tN<|zS (r:=k+2) rfl tO<|zp tT ?_;refine zS (r:=k+2) rfl tO<|zy h2s<|zk n1<|zG<|zk n2<|zG ?_;refine zk n3<|zS (r:=k+1) rfl tO<|zS (r:=k+1) rfl tO<|zy h1s<|zy (v:=[.int .i64 4,zK k,.int .i64 ↑(k+1),AV.str [c]]) rfl<|zL (v:=AV.agg [.int .i64 4,zK k,.int .i64 ↑(k+1),AV.str [c]]) (AV.cells (AV.agg [.int .i64 4,zK k,.int .i64 ↑(k+1),AV.str [c]])) zB rfl rfl rfl rfl ?_
   exact zAV (a:=4) (s:=4) (ag:=true) (o:=0) rfl rfl (zH hP) rfl rfl rfl (((Old.refl _).push _).set (zQU _) _)
 ·have h1s:=zEB s k (k+1) tO tO;rw [sub_one hc] at h1s;have e:zLE c s[k+1]?=[c]:=by rw [zQ9 tO];rfl
  rw [e,show k+([c]:Bs).length=k+1 from rfl];refine zp tT<|zCB rfl hc<|zD<|zk tN<|zk tN<|zCB rfl hc ?_;refine zM (hw _)<|zG<|zk tN<|zk tN<|zS (r:=k+2) rfl tO<|zk tF ?_;refine zS (r:=k+1) rfl tO<|zS (r:=k+1) rfl tO<|zy h1s<|zy (v:=[.int .i64 4,zK k,.int .i64 ↑(k+1),AV.str [c]]) rfl<|zL (v:=AV.agg [.int .i64 4,zK k,.int .i64 ↑(k+1),AV.str [c]]) (AV.cells (AV.agg [.int .i64 4,zK k,.int .i64 ↑(k+1),AV.str [c]])) zB rfl rfl rfl rfl ?_
  exact zAV (a:=4) (s:=4) (ag:=true) (o:=0) rfl rfl (zH hP) rfl rfl rfl (((Old.refl _).push _).set (zQU _) _)
end
end Go.AM
