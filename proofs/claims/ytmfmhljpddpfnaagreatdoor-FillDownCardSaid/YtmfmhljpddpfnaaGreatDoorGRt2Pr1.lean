/- Texts of mine in one. Own work. -/
import Derived.Test.YtmfmhljpddpfnaaGreatDoorGBu1Rt1
import Derived.Test.YtmfmhljpddpfnaaGreatDoorGAm23Am35
import Derived.Test.YtmfmhljpddpfnaaGreatDoorGRfdGq
import Derived.Test.YtmfmhljpddpfnaaGreatDoorGRf5Rf3
import Derived.Test.YtmfmhljpddpfnaaGreatDoorLc
set_option maxHeartbeats 4000000
set_option maxRecDepth 20000
set_option linter.all false
namespace Go.AM
theorem zS5 {c:Int} (h:1<=c/\c<=26):(UInt8.ofNat (64+c.toNat)).toNat=64+c.toNat:=by simp;omega
theorem zUp {c:Int} (h:1<=c/\c<=26):zO7 (UInt8.ofNat (64+c.toNat))=true:=by
 unfold zO7;rw [zS5 h];simp;omega
theorem zkk {c:UInt8} (h:zGr c=true):c≠36/\c≠32:=by refine ⟨?_, ?_⟩ <;> (rintro rfl;revert h;decide)
theorem zgG {c:UInt8} (h:zO7 c=true):c≠36/\zGr c=false:=by
 refine ⟨?_, ?_⟩
 ·rintro rfl;revert h;decide
 ·unfold zO7 at h;unfold zGr;simp only [zTo,zoY] at h;simp;omega
theorem zHp {r:RefP} (h:okR r):∀ c∈zD3 r,zh c=true:=by
 intro c hc;unfold zD3 at hc;simp only [zmm,zl5] at hc;rcases hc with ((hc|hc)|hc)|hc
 ·split at hc
  ·rw [zl5.1 hc];rfl
  ·cases hc
 ·rw [hc];exact zQL (zUp ⟨h.1,h.2.1⟩)
 ·split at hc
  ·rw [zl5.1 hc];rfl
  ·cases hc
 ·exact zJo (zJn _ c hc)
theorem zMX (r:RefP):zD3 r≠[]:=by unfold zD3;simp
theorem zFF (c:UInt8) (r:Bs):dollar (c::r)=if c=36 then (true,r) else (false,c::r):=rfl
theorem zQO {n:Nat}:dollar (zFz n)=(false,zFz n):=by
 cases e:zFz n with
 |nil=>exact absurd e (zOs n)
 |cons c r=>
  have hc:=zJn n c (by rw [e];simp);rw [zFF,zWl (zkk hc).1]
theorem zet {r:RefP} (h:okR r) (x y:Bool) (col:Int):zdR x col (y,zFz r.row.toNat)=some ⟨col,r.row,x,y⟩:=by
 have h1:=h.2.2;unfold zdR;simp only;rw [zQK (n:=r.row.toNat) tO];simp only;rw [zoQ tO]
 congr 2
 omega
theorem zJU {r:RefP} (h:okR r):zE8 (zD3 r)=some r:=by
 obtain ⟨col,row,fc,fr⟩:=r;have hc:=zUp ⟨h.1,h.2.1⟩;have hn:=zgG hc;have ht:=zS5 ⟨h.1,h.2.1⟩;have hrow:=fun x y cc=>zet h x y cc;simp only at hc hn ht hrow;have e:((64+col.toNat:Nat):Int)-64=col:=by have:=h.1;simp only at this;omega
 unfold zE8 zD3;cases fc <;> cases fr
 ·simp only [zot,zo4,zmR,zmV,zoZ,zFF,zWl hn.1,zRq,hc,zoz,zQO,hrow,ht,e]
 ·simp only [zot,zo4,zou,zmV,zl9,zoZ,zFF,zWl hn.1,zRq,hc,zoz,hrow,ht,e]
 ·simp only [zoz,zmR,zmV,zl9,zo4,zoZ,zot,zFF,zRq,hc,zQO,hrow,ht,e]
 ·simp only [zoz,zmV,zl9,zo4,zFF,zRq,hc,hrow,ht,e]
theorem zX8 {r:RefP} (h:okR r):zCL (zD3 r)=none:=by
 have hm:UInt8.ofNat (64+r.col.toNat)∈zD3 r:=by unfold zD3;simp
 unfold zCL;split
 ·rfl
 ·rw [zWl];intro k;have:=zmE.1 k _ hm;rw [(zgG (zUp ⟨h.1,h.2.1⟩)).2] at this;cases this
theorem zbS:zE8 zFx=none:=by rfl
theorem zX9:zE8 zDS=none:=by rfl
theorem zeu {r:RefP} (h:okR r):zII (zD3 r)=some (zB3 r):=by
 unfold zII;rw [zX8 h];simp only;have h1:zD3 r≠zFx:=fun e=>by
  have:=zJU h;rw [e,zbS] at this;cases this
 have h2:zD3 r≠zDS:=fun e=>by
  have:=zJU h;rw [e,zX9] at this;cases this
 rw [zWl h1,zWl h2,zJU h];rfl
theorem zev {n:Nat} (h:n<=9223372036854775807):zII (zFz n)=some (zJj n):=by
 unfold zII;rw [zQK h]
theorem zew (b:Bool):zII (if b then zFx else zDS)=some (zE3 b):=by cases b <;> rfl
theorem zRZ {s:Bs} {l a d:Nat} {n:Nd} (ha:a<=s.length) (h:Stop l s a):(P s).ll l n a d=some (n,a):=by
 rw [zTf l n d ha];unfold zNV;cases e:zHl s a with
 |none=>rfl
 |some p=>
  obtain ⟨op,e'⟩:=p;simp only;rw [zoQ (h op e' e)]
theorem zS6 {s:Bs} {l a d:Nat} {n:Nd} {e:Nat} (ha:a<=s.length) (h:(P s).one a d=some (n,e)):(P s).loose l a d=(P s).ll l n e d:=by
 rw [zJO l d ha];unfold zEU;rw [h];rfl
theorem zJV (n:Nd):1<=zb n:=by
 unfold zb;split
 ·exact (zDx _).1
 ·omega
theorem zOu {s:Bs} {a:Nat} {c:UInt8} {v:Bs} (h:s.drop a=c::v) (hc:c=44\/c=41) (l:Nat):Stop l s a/\tok s a=.sign (a+1) [c]/\Sep (c::v):=by
 have ht:tok s a=.sign (a+1) [c]:=zE0 h (by rcases hc with rfl|rfl <;> decide) (by unfold zgF;cases v with
  |nil=>rfl
  |cons d r=>rcases hc with rfl|rfl <;> simp)
 refine ⟨fun op e k=>?_,ht,fun d hd=>?_⟩
 ·unfold zHl at k;rw [ht] at k;rcases hc with rfl|rfl <;> cases k
 ·cases hd;rcases hc with rfl|rfl <;> decide
def Rd (n:Nd):Prop:=∀ (s:Bs) (a d:Nat) (v:Bs),s.drop a=txt n++v->a<=s.length->Sep v->d+need n<=30 ->
 (zb n=9->(P s).one a d=some (n,a+(txt n).length))/\∀ l,l<=zb n->Stop (zb n+1) s (a+(txt n).length)->(P s).loose l a d=(P s).ll l n (a+(txt n).length) d
theorem zJW {n:Nd} (ht:zb n=9) (h:∀ (s:Bs) (a d:Nat) (v:Bs),s.drop a=txt n++v->a<=s.length->Sep v->d+need n<=30->(P s).one a d=some (n,a+(txt n).length)):Rd n:=
 fun s a d v hs ha hv hd=>⟨fun _=>h s a d v hs ha hv hd,fun l _ _=>zS6 ha (h s a d v hs ha hv hd)⟩
theorem zUq {n:Nd} (hr:Rd n) (L:Nat) (hL:L<=9) {s:Bs} {a d:Nat} {v:Bs} (h:s.drop a=brk (decide (zb n<L)) (txt n)++v) (ha:a<=s.length) (hv:Sep v) (hd:d+(need n+if zb n<L then 1 else 0)<=30) :
  (L=9->zb n<=9->(P s).one a d=some (n,a+(brk (decide (zb n<L)) (txt n)).length))/\∀ l,l<=L->(zb n<L\/Stop (zb n+1) s (a+(brk (decide (zb n<L)) (txt n)).length)) ->
   (P s).loose l a d=(P s).ll l n (a+(brk (decide (zb n<L)) (txt n)).length) d:=by
 by_cases hb:zb n<L
 ·rw [zoQ hb] at hd;have hbt:brk (decide (zb n<L)) (txt n)=40::txt n++[41]:=by rw [zoj hb];rfl
  rw [hbt] at h ⊢;have h1:s.drop a=40::(txt n++41::v):=by rw [h];simp
  obtain ⟨g1,g2⟩:=zCX h1;have hlt:=zRX h1;have ht:tok s a=.sign (a+1) [40]:=zE0 h1 zD_ (by unfold zgF;split <;> simp);have h3:=zFM g2;obtain ⟨st,tk,sp⟩:=zOu h3 (.inr rfl) (zb n+1);obtain ⟨st1,_,_⟩:=zOu h3 (.inr rfl) 1;have hl:=(hr s (a+1) (d+1) (41::v) g2 tO sp tO).2 1 (zJV n) st;have hle:=zOt g2 tO;rw [zRZ hle st1] at hl;have hlen:a+(40::txt n++[41]).length=a+1+(txt n).length+1:=by simp;omega
  have hone:(P s).one a d=some (n,a+(40::txt n++[41]).length):=by
   rw [zPZ d ha];unfold zB8;rw [ht];simp only;rw [zWl tO,hl];simp only [zmH];rw [tk,hlen];rfl
  exact ⟨fun _ _=>hone,fun l _ _=>zS6 ha hone⟩
 ·rw [zWl hb] at hd;have hbt:brk (decide (zb n<L)) (txt n)=txt n:=by rw [zop hb];rfl
  rw [hbt] at h ⊢;obtain ⟨k1,k2⟩:=hr s a d v h ha hv tO;exact ⟨fun h9 h9'=>k1 tO,fun l hl hs=>k2 l tO (hs.resolve_left hb)⟩
theorem zex {s:Bs} {a:Nat} {v:Bs} (h:s.drop a=v) (hv:Sep v):s[a]?≠some 40/\s[a]?≠some 58:=by
 have:s[a]?=v.head?:=by rw [<-h,zno]
 rw [this];exact ⟨fun e=>(hv _ e).2.2.1 rfl,fun e=>(hv _ e).2.2.2 rfl⟩
theorem zWG {v:Bs} (hv:Sep v):∀ c,v.head?=some c->zh c=false:=fun c h=>(hv c h).1
theorem zUr {n:Nd} {w:Bs} (ht:zb n=9) (hx:txt n=w) (hne:w≠[]) (hw:∀ c∈w,zh c=true) (ha:zII w=some n):Rd n:=by
 refine zJW ht fun s a d v hs hal hv _=>?_;rw [hx] at hs ⊢;have htk:=zGw hs hne hw (zWG hv);have h40:=(zex (zFM hs) hv).1;rw [zPZ d hal];unfold zB8;rw [htk];simp only;rw [zWl fun k=>h40 k.2,ha];rfl
def zey (n:Nd):Prop:=∀ v,Beg (txt n++v)
def zRa (n:Nd):Prop:=∀ (s:Bs) (a:Nat) (v:Bs),s.drop a=txt n++v->Sep v->zDw s a=none
theorem zJp {n:Nd} {w u:Bs} (hx:txt n=w++u) (hne:w≠[]) (hw:∀ c∈w,zh c=true) (hu:∀ v,Sep v->∀ c,(u++v).head?=some c->zh c=false/\c≠58):zRa n:=by
 intro s a v hs hv;rw [hx,zou] at hs;have htk:=zGw hs hne hw fun c hc=>(hu v hv c hc).1;have h58:s[a+w.length]?≠some 58:=by
  have:s[a+w.length]?=(u++v).head?:=by rw [<-zFM hs,zno]
  rw [this];exact fun e=>(hu v hv _ e).2 rfl
 unfold zDw;rw [htk];simp only;cases zE8 w with
 |none=>rfl
 |some r=>simp only;rw [zWl h58]
theorem zOv {n:Nd} (h:∀ (s:Bs) (a:Nat) (v:Bs),s.drop a=txt n++v->Sep v->∀ e t,tok s a≠.word e t):zRa n:=by
 intro s a v hs hv;unfold zDw;split
 ·rename_i e t hk;exact absurd hk (h s a v hs hv e t)
 ·rfl
theorem zLq {w u:Bs} (hne:w≠[]) (hw:∀ c∈w,zh c=true):Beg (w++u):=by
 obtain ⟨c,r,rfl⟩:=zmQ hne;exact ⟨c,r++u,rfl,.inl (hw c zS_)⟩
theorem zbT {n:Nd} (h:zey n) (b:Bool) (v:Bs):Beg (brk b (txt n)++v):=by
 cases b with
 |false=>exact h v
 |true=>exact ⟨40,_,rfl,by simp⟩
theorem zh1 {s:Bs} {a:Nat} (h:Beg (s.drop a)):∀ e,tok s a≠.sign e [41]:=by
 intro e k;obtain ⟨c,r,hr,hc⟩:=h;have hb:c≠32/\c≠41:=by refine ⟨?_, ?_⟩ <;> (rintro rfl;revert hc;decide)
 rw [zQM hr hb.1] at k;unfold zBi at k;rw [(zCX hr).1] at k;simp only at k;split at k
 ·cases k
 ·split at k
  ·split at k <;> cases k
  ·split at k
   ·split at k <;> cases k
   ·split at k
    ·split at k
     ·cases k
     ·simp only [Tok.sign.injEq,zmZ,znQ] at k;exact hb.2 k.2
    ·simp only [Tok.sign.injEq,zmZ,znQ] at k;exact hb.2 k.2
theorem zWH {r:RefP} (h:okR r) {s:Bs} {a:Nat} {v:Bs} (hs:s.drop a=zD3 r++v) (hv:∀ c,v.head?=some c->zh c=false):tok s a=.word (a+(zD3 r).length) (zD3 r)/\zBi s a=.word (a+(zD3 r).length) (zD3 r):=
 ⟨zGw hs (zMX r) (zHp h) hv,zQN hs (zMX r) (zHp h) hv⟩
theorem zez {r o:RefP} (hr:okR r) (ho:okR o) {s:Bs} {a:Nat} {v:Bs} (hs:s.drop a=txt (zAy r o)++v) (hv:Sep v):zDw s a=some (some (zAy r o,a+(txt (zAy r o)).length)):=by
 rw [zOp] at hs ⊢;have hs1:s.drop a=zD3 r++(58::(zD3 o++v)):=by rw [hs];simp
 obtain ⟨t1,_⟩:=zWH hr hs1 (fun c hc=>by cases hc;rfl);obtain ⟨g1,g2⟩:=zCX (zFM hs1);obtain ⟨_,t2⟩:=zWH ho g2 (zWG hv);unfold zDw;rw [t1];simp only;rw [zJU hr];simp only;rw [zoQ g1,t2];simp only;rw [zJU ho];simp only [zoe,zoP,zoN]
 congr 3
 omega
def Kn (x:Bool) (n:Nd):Prop:=(x=true/\∃ r o,n=zAy r o/\okR r/\okR o)\/(Rd n/\zey n/\zRa n)
theorem zgH {x:Bool} {n:Nd} (h:Kn x n):zey n:=by
 rcases h with ⟨_,r,o,rfl,hr,_⟩|⟨_,h,_⟩
 ·intro v;rw [zOp,zou];exact zLq (zMX r) (zHp hr)
 ·exact h
theorem zS7 {l:List Nat} {m:Nat} (h:m∈l):m<=l.foldr max 0:=by
 induction l with
 |nil=>cases h
 |cons x l ih=>
  rw [List.foldr_cons];rcases zmG.1 h with rfl|h
  ·omega
  ·have:=ih h;omega
theorem zS8 (t:Bs) (s:Bs) (d:Nat) (v:Bs):∀ (ks done:List Nd) (a:Nat),ks≠[]->s.drop a=zAx (ks.map txt)++41::v->a<=s.length->(∀ k∈ks,Kn true k/\d+need k<=30) ->
  (P s).args t done a d=some (zAw t (done++ks),a+(zAx (ks.map txt)).length+1)
 |[],_,_,h,_,_,_=>absurd rfl h
 |k::ks,done,a,_,hs,ha,hk=>by
  obtain ⟨hkn,hkd⟩:=hk k zS_;obtain ⟨c,w,hw,hc⟩:∃ (c:UInt8) (w:Bs),s.drop a=txt k++c::w/\((ks=[]/\c=41/\w=v)\/(ks≠[]/\c=44/\w=zAx (ks.map txt)++41::v)):=by
   cases ks with
   |nil=>exact ⟨41,v,hs,.inl ⟨rfl,rfl,rfl⟩⟩
   |cons k2 ks=>
    refine ⟨44,zAx ((k2::ks).map txt)++41::v, ?_,.inr ⟨by simp,rfl,rfl⟩⟩;rw [hs];simp only [zoa,zAx,zou,zl9]
  have hcc:c=44\/c=41:=by rcases hc with ⟨_,h,_⟩|⟨_,h,_⟩ <;> simp [h]
  have h3:=zFM hw;obtain ⟨st,tk,sp⟩:=zOu h3 hcc (zb k+1);obtain ⟨st1,_,_⟩:=zOu h3 hcc 1;have hle:=zOt hw ha;have harg:zFX s (P s) a d=some (k,a+(txt k).length):=by
   unfold zFX;rcases hkn with ⟨_,r,o,rfl,hr,ho⟩|⟨hrd,_,hnb⟩
   ·rw [zez hr ho hw sp]
   ·rw [hnb s a _ hw sp];simp only;rw [(hrd s a d _ hw ha sp hkd).2 1 (zJV k) st,zRZ hle st1]
  rw [zMt t done d ha];unfold zFp;rw [harg];simp only [zmH];rw [tk];rcases hc with ⟨rfl,rfl,rfl⟩|⟨hne,rfl,rfl⟩
  ·rfl
  ·have hg:=(zCX h3).2;have ih:=zS8 t s d v ks (done++[k]) (a+(txt k).length+1) hne hg (zRX h3) (fun x hx=>hk x (by simp [hx]));simp only;rw [ih];have hj:(zAx ((k::ks).map txt)).length=(txt k).length+1+(zAx (ks.map txt)).length:=by
    cases ks with
    |nil=>exact absurd rfl hne
    |cons k2 ks=>simp only [zoa,zAx,zoP,zoN];omega
   rw [hj,zou];simp only [zmV]
   congr 2
   omega
theorem zh2 {t:Bs} {ks:List Nd} (hc:zA3 t=true) (hk:∀ k∈ks,Kn true k):Rd (zAw t ks)/\zey (zAw t ks)/\zRa (zAw t ks):=by
 have hcap:∀ c∈t,zh c=true:=fun c h=>by
  unfold zA3 at hc;simp only [zTo] at hc;exact zQL (zmE.1 hc.2 c h)
 have hne:t≠[]:=by
  rintro rfl;revert hc;decide
 refine ⟨zJW rfl fun s a d v hs ha hv hd=>?_,fun v=>?_, ?_⟩
 ·rw [zCz] at hs ⊢;rw [zLo] at hd;have hs1:s.drop a=t++(40::(zAx (ks.map txt)++41::v)):=by rw [hs];simp
  have tk:=zGw hs1 hne hcap (fun c h=>by cases h;rfl);obtain ⟨g1,g2⟩:=zCX (zFM hs1);have hlt:=zRX (zFM hs1);rw [zPZ d ha];unfold zB8;rw [tk];simp only;rw [zoQ ⟨hc,g1⟩,zWl tO];by_cases h0:ks=[]
  ·subst h0;have g2:s.drop (a+t.length+1)=41::v:=g2;obtain ⟨_,tk2,_⟩:=zOu g2 (.inr rfl) 1;rw [tk2];simp only [zom,zAx,zoP,zoN,zoT]
   all_goals (congr 2 <;> omega)
  ·have hb:Beg (s.drop (a+t.length+1)):=by
    rw [g2];obtain ⟨k,ks',rfl⟩:=zmQ h0;cases ks' with
    |nil=>exact zgH (hk k zS_) _
    |cons k2 ks'=>
     simp only [zoa,zAx,zou];exact zgH (hk k zS_) _
   have h41:=zh1 hb;split
   ·rename_i e2 hq;exact absurd hq (h41 e2)
   ·rw [zS8 t s (d+1) v ks [] (a+t.length+1) h0 g2 tO (fun k hkm=>⟨hk k hkm,by have:=zS7 (zmh (f:=need) hkm);omega⟩)];simp only [zo4,zoP,zoN,zoT]
    congr 2
    omega
 ·rw [zCz,zou,zou];exact zLq hne hcap
 ·refine zJp (w:=t) (u:=40::zAx (ks.map txt)++[41]) (by rw [zCz];simp) hne hcap fun v _ c hc=>?_;cases hc;decide
theorem zbU {op:Nat} (h:1<=op/\op<=11) (v:Bs):Sep (opT op++v):=by
 have k:op=1\/op=2\/op=3\/op=4\/op=5\/op=6\/op=7\/op=8\/op=9\/op=10\/op=11:=by omega
 rcases k with rfl|rfl|rfl|rfl|rfl|rfl|rfl|rfl|rfl|rfl|rfl <;> (intro c hc;cases hc;decide)
theorem zbV (n:Nd):zb n<=9:=by
 unfold zb;split
 ·have:=(zDx n.num.toNat).2;omega
 ·exact zoR _
theorem zkl {op:Nat} {a b:Nd} (hop:1<=op/\op<=11) (ha:Rd a/\zey a/\zRa a) (hb:Rd b/\zey b/\zRa b):Rd (zAn op a b)/\zey (zAn op a b)/\zRa (zAn op a b):=by
 have h4:=zDx op;refine ⟨fun s i d v hs hi hv hd=>?_,fun v=>?_,fun s i v hs hv=>?_⟩
 ·rw [zLp];refine ⟨fun h=>by omega,fun l hl hst=>?_⟩;rw [zEX] at hs hst ⊢;rw [zNb] at hd;have hs1:s.drop i=brk (decide (zb a<tight op)) (txt a)++(opT op++(brk (decide (zb b<tight op+1)) (txt b)++v)):=by
   rw [hs,show decide (zb b<tight op+1)=decide (zb b<=tight op) from znD.2 tO];simp only [zou]
  have g1:=zFM hs1;have hle1:=zOt hs1 hi;have hop1:=zkj hop g1 (zbT hb.2.1 _ v);have g2:=zFM g1;have hle2:=zOt g1 hle1;have st1:zb a<tight op\/Stop (zb a+1) s (i+(brk (decide (zb a<tight op)) (txt a)).length):=by
   by_cases h:zb a<tight op
   ·exact .inl h
   ·refine .inr fun op' e he=>?_;rw [hop1] at he;cases he;omega
  have hA:=(zUq ha.1 (tight op) tO hs1 hi (zbU hop _) (zmK (Nat.add_le_add_left (Nat.le_max_left _ _) d) hd)).2 l hl st1;have e1:(if zb b<tight op+1 then 1 else 0)=(if zb b<=tight op then 1 else 0):=by
   by_cases h:zb b<=tight op
   ·rw [zoQ h,zoQ tO]
   ·rw [zWl h,zWl tO]
  have hB0:=zUq (d:=d) hb.1 (tight op+1) tO g2 hle2 hv (by
   rw [e1];exact zmK (Nat.add_le_add_left (Nat.le_max_right _ _) d) hd)
  have hlen:(brk (decide (zb a<tight op)) (txt a)++opT op++brk (decide (zb b<=tight op)) (txt b)).length=(brk (decide (zb a<tight op)) (txt a)).length+(opT op).length+(brk (decide (zb b<tight op+1)) (txt b)).length:=by
   rw [show decide (zb b<tight op+1)=decide (zb b<=tight op) from znD.2 tO];simp only [zoP]
  rw [hlen] at hst ⊢;generalize (brk (decide (zb a<tight op)) (txt a)).length=la at *;generalize (opT op).length=lo at *;generalize hlb:(brk (decide (zb b<tight op+1)) (txt b)).length=lb at *;have hend:i+(la+lo+lb)=i+la+lo+lb:=by omega
  rw [hend] at hst ⊢;have hle3:=zOt g2 hle2;rw [hlb] at hle3;have stB:zb b<tight op+1\/Stop (zb b+1) s (i+la+lo+lb):=by
   by_cases h:zb b<tight op+1
   ·exact .inl h
   ·refine .inr fun op' e he=>?_;have:=hst op' e he;omega
  have hB:=hB0.2 (tight op+1) (zoR _) stB;rw [zRZ hle3 hst] at hB;rw [hA,zTf l a d hle1];unfold zNV;rw [hop1];simp only;rw [zWl tO,hB];rfl
 ·rw [zEX,zou,zou];exact zbT ha.2.1 _ _
 ·rw [zEX,zou,zou] at hs;by_cases h:zb a<tight op
  ·rw [zoj h] at hs;have h1:s.drop i=40::(txt a++[41]++(opT op++(brk (decide (zb b<=tight op)) (txt b)++v))):=by rw [hs];simp [brk]
   have ht:tok s i=.sign (i+1) [40]:=zE0 h1 zD_ (by unfold zgF;split <;> simp);unfold zDw;rw [ht]
  ·rw [zop h] at hs;exact ha.2.2 s i _ hs (zbU hop _)
theorem ze0 {x:Bool} {n:Nd} (h:Wf x n):Kn x n:=by
 induction h with
 |num x n h=>
  refine .inr ⟨zUr rfl (zKs n) (by rw [zoq];exact zOs n) (fun c hc=>zJo (zJn _ c hc)) (by rw [zoq];exact zev h),fun v=>?_, ?_⟩
  ·rw [zKs];exact zLq (zOs _) fun c hc=>zJo (zJn _ c hc)
  ·exact zJp (w:=zFz (n:Int).toNat) (u:=[]) (by rw [zKs];simp) (zOs _) (fun c hc=>zJo (zJn _ c hc)) fun v hv c hc=>⟨(hv c hc).1,(hv c hc).2.2.2⟩
 |txt x t=>
  have tk:∀ (s:Bs) (a:Nat) (v:Bs),s.drop a=Go.AM.txt (zHG t)++v->Sep v->tok s a=.txt (a+(Go.AM.txt (zHG t)).length) t:=fun s a v hs hv=>by
   rw [zKt] at hs ⊢;exact zUn hs fun e=>(hv _ e).2.1 rfl
  refine .inr ⟨zJW rfl fun s a d v hs ha hv _=>?_,fun v=>⟨34,_,rfl,by simp⟩,zOv fun s a v hs hv e t' k=>?_⟩
  ·rw [zPZ d ha];unfold zB8;rw [tk s a v hs hv]
  ·rw [tk s a v hs hv] at k;cases k
 |tru x b=>
  have hw:∀ c∈(if b then zFx else zDS),zh c=true:=by cases b <;> decide
  have hne:(if b then zFx else zDS)≠[]:=by cases b <;> decide
  refine .inr ⟨zUr (by cases b <;> rfl) (zKu b) hne hw (zew b),fun v=>?_, ?_⟩
  ·rw [zKu];exact zLq hne hw
  ·exact zJp (u:=[]) (by rw [zKu,zmR]) hne hw fun v hv c hc=>⟨(hv c hc).1,(hv c hc).2.2.2⟩
 |bad x k h=>
  have tk:∀ (s:Bs) (a:Nat) (v:Bs),s.drop a=Go.AM.txt (zHJ k)++v->tok s a=.bad (a+(Go.AM.txt (zHJ k)).length) k:=fun s a v hs=>by
   rw [zOo] at hs ⊢;exact zUo h hs
  refine .inr ⟨zJW rfl fun s a d v hs ha hv _=>?_,fun v=>?_,zOv fun s a v hs hv e t' q=>?_⟩
  ·rw [zPZ d ha];unfold zB8;rw [tk s a v hs]
  ·rw [zOo];have:k=1\/k=2\/k=3\/k=4\/k=5\/k=6:=by omega
   rcases this with rfl|rfl|rfl|rfl|rfl|rfl <;> exact ⟨35,_,rfl,by simp⟩
  ·rw [tk s a v hs] at q;cases q
 |ref x r h=>
  refine .inr ⟨zUr rfl (zIQ r) (zMX r) (zHp h) (zeu h),fun v=>?_, ?_⟩
  ·rw [zIQ];exact zLq (zMX r) (zHp h)
  ·exact zJp (u:=[]) (by rw [zIQ,zmR]) (zMX r) (zHp h) fun v hv c hc=>⟨(hv c hc).1,(hv c hc).2.2.2⟩
 |box r o h k=>exact .inl ⟨rfl,r,o,rfl,h,k⟩
 |neg x n h ih=>
  have ih:Rd n/\zey n/\zRa n:=by
   rcases ih with ⟨h,_⟩|ih
   ·cases h
   ·exact ih
  have tk:∀ (s:Bs) (a:Nat) (v:Bs),s.drop a=Go.AM.txt (zl1 n)++v->tok s a=.sign (a+1) [45]/\s.drop (a+1)=brk (decide (zb n<9)) (Go.AM.txt n)++v/\a<s.length:=fun s a v hs=>by
   rw [zEz,zl9] at hs;exact ⟨zE0 hs zD_ (by unfold zgF;split <;> simp),(zCX hs).2,zRX hs⟩
  refine .inr ⟨zJW rfl fun s a d v hs ha hv hd=>?_,fun v=>⟨45,_,rfl,by simp⟩,zOv fun s a v hs hv e t' q=>?_⟩
  ·obtain ⟨t1,t2,t3⟩:=tk s a v hs;rw [zNa] at hd;have hu:=(zUq (d:=d+1) ih.1 9 (zoR _) t2 tO hv tO).1 rfl (zbV n);rw [zPZ d ha];unfold zB8;rw [t1];simp only;rw [zWl tO,hu];simp only [zoe,zEz,zoN]
   congr 2
   omega
  ·rw [(tk s a v hs).1] at q;cases q
 |two x op a b h ha hb iha ihb=>
  refine .inr (zkl h ?_ ?_)
  ·rcases iha with ⟨h,_⟩|ih
   ·cases h
   ·exact ih
  ·rcases ihb with ⟨h,_⟩|ih
   ·cases h
   ·exact ih
 |call x t ks h hk ih=>exact .inr (zh2 h ih)
theorem zS9 {n:Nd} (h:Wf false n) (hd:need n<=30) (hl:(txt n).length<=199):zAj (61::txt n)=some n:=by
 have hk:Rd n/\zey n/\zRa n:=by
  rcases ze0 h with ⟨h,_⟩|h
  ·cases h
  ·exact h
 have hs:(61::txt n).drop 1=txt n++[]:=by simp
 have hf:=zer (zFM hs);have hst:∀ l,Stop l (61::txt n) (1+(txt n).length):=fun l op e k=>by
  unfold zHl at k;rw [hf] at k;cases k
 have h1:=(hk.1 (61::txt n) 1 0 [] hs zS_ (fun c hc=>by cases hc) tO).2 1 (zJV n) (hst _);rw [zRZ (by simp only [zoN];omega) (hst 1)] at h1;unfold zAj;rw [zoQ ⟨by simp only [zoN];omega,rfl⟩,h1];simp only [zmH];rw [hf]
theorem zRb:∀ (l:Bs) (i:Nat) (t:Bs) (e:Nat),quo l i=some (t,e)->i+(esc t).length+1<=e
 |[],_,_,_,h=>by simp [quo] at h
 |[c],i,t,e,h=>by
  simp only [quo] at h;split at h
  ·simp only [zoS,zob] at h;obtain ⟨rfl,rfl⟩:=h;simp [esc]
  ·cases h
 |c::d::r,i,t,e,h=>by
  simp only [quo] at h;split at h
  ·split at h
   ·rw [zoV] at h;obtain ⟨⟨t',e'⟩,h1,h2⟩:=h;simp only [zob] at h2;obtain ⟨rfl,rfl⟩:=h2;have:=zRb r (i+2) t' e' h1;simp only [esc,zoz,zoN];omega
   ·simp only [zoS,zob] at h;obtain ⟨rfl,rfl⟩:=h;simp [esc]
  ·rename_i hc;rw [zoV] at h;obtain ⟨⟨t',e'⟩,h1,h2⟩:=h;simp only [zob] at h2;obtain ⟨rfl,rfl⟩:=h2;have:=zRb (d::r) (i+1) t' e' h1;simp only [esc,zWl hc,zoN];omega
theorem zbW:∀ (l:Bs) (ts:List Bs) (k:Nat) (p:Nat×Nat),zKK l ts k=some p->k<=p.1/\p.1<k+ts.length/\p.2=(ts.getD (p.1-k) []).length
 |_,[],_,_,h=>by simp [zKK] at h
 |l,t::ts,k,p,h=>by
  simp only [zKK] at h;split at h
  ·simp only [zoS] at h;subst h;simp
  ·obtain ⟨h1,h2,h3⟩:=zbW l ts (k+1) p h;refine ⟨by omega,by simp only [zoN];omega, ?_⟩;rw [h3];obtain ⟨j,hj⟩:∃ j,p.1-k=j+1:=⟨p.1-k-1,by omega⟩;rw [hj,show p.1-(k+1)=j by omega];rfl
def Tok.wants:Tok->Nat
 |.word _ t=>t.length
 |.txt _ t=>(34::esc t++[34]).length
 |.bad _ k=>(wrongs.getD (k-1) []).length
 |.sign _ t=>t.length
 |_=>0
def Tok.upTo (a:Nat):Tok->Prop
 |.word e t=>a+t.length<=e
 |.txt e t=>a+(34::esc t++[34]).length<=e
 |.bad e k=>a+(wrongs.getD (k-1) []).length<=e/\1<=k/\k<=6
 |.sign e t=>a+t.length<=e
 |_=>True
theorem zQP (s:Bs) (a:Nat):(zBi s a).upTo a:=by
 unfold zBi;cases e:s[a]? with
 |none=>trivial
 |some c=>
  simp only;split
  ·have:=zKn s a;show a+(sub s a (zlz s a)).length<=zlz s a;unfold sub;rw [zon];omega
  ·split
   ·split
    ·rename_i t e' hq;have:=zRb _ _ _ _ hq;show a+(34::esc t++[34]).length<=e';simp only [zoP,zoN,zoT];omega
    ·trivial
   ·split
    ·split
     ·rename_i k n hb;obtain ⟨h1,h2,h3⟩:=zbW _ _ _ _ hb;simp only at h1 h2 h3;refine ⟨?_,h1, ?_⟩
      ·rw [h3];exact zoR _
      ·have:wrongs.length=6:=rfl;omega
     ·trivial
    ·split
     ·split <;> exact zoR _
     ·exact zoR _
theorem zJq (s:Bs) (a:Nat):(tok s a).upTo a:=by
 have h:=zQP s (skip s a);have h2:=zFg s a;unfold tok;revert h;cases zBi s (skip s a) <;> simp only [Tok.upTo] <;> first|exact fun _=>trivial|(intro h;omega)
theorem ze1 (l:Bs) (h:∀ c∈l,zGr c=true):zDl l<10^l.length:=by
 have gen:∀ (l:Bs) (x:Nat),(∀ c∈l,zGr c=true)->l.foldl (fun n c=>n*10+(c.toNat-48)) x<(x+1)*10^l.length:=by
  intro l;induction l with
  |nil=>intro x _;simp
  |cons c l ih=>
   intro x h;have hc:=h c zS_;unfold zGr at hc;simp only [zTo,zoY] at hc;rw [znm,zoN,zmP];refine zo3 (ih _ fun d hd=>h d (by simp [hd])) ?_;rw [zme (10^l.length) 10,<-Nat.mul_assoc];exact zo2 _ tO
 have:=gen l 0 h;simpa [zDl] using this
theorem zWI {t:Bs} {v:Int} (h:zCL t=some v):∃ n:Nat,v=n/\n<=9223372036854775807/\(zFz n).length<=t.length/\t≠[]:=by
 unfold zCL at h;split at h
 ·cases h
 ·rename_i h0;split at h
  ·rename_i hd;split at h
   ·rename_i hm;cases h;have hne:t≠[]:=fun e=>h0 (.inl e);refine ⟨_,rfl,hm, ?_,hne⟩;have hl:1<=t.length:=by
     cases t with
     |nil=>exact absurd rfl hne
     |cons _ _=>simp
    unfold zFz;split
    ·simpa using hl
    ·rw [zmy];exact zRV _ _ (ze1 t (zmE.1 hd))
   ·cases h
  ·cases h
theorem zQQ (t:Bs):(dollar t).2.length+(if (dollar t).1 then 1 else 0)=t.length:=by
 cases t with
 |nil=>rfl
 |cons c r=>
  rw [zFF];split <;> simp
theorem zUs {t:Bs} {r:RefP} (h:zE8 t=some r):okR r/\(zD3 r).length<=t.length:=by
 have hd:=zQQ t;unfold zE8 zRq at h;generalize dollar t=p at h hd;obtain ⟨fc,u⟩:=p;simp only at h hd;cases u with
 |nil=>cases h
 |cons c u=>
  simp only at h;split at h
  ·rename_i hc;have hd2:=zQQ u;generalize dollar u=p2 at h hd2;obtain ⟨fr,w⟩:=p2;unfold zdR at h;simp only at h hd2;cases hw:zCL w with
   |none=>rw [hw] at h;cases h
   |some v=>
    rw [hw] at h;simp only at h;split at h
    ·rename_i hv;cases h;obtain ⟨n,rfl,_,hn,_⟩:=zWI hw;unfold zO7 at hc;simp only [zTo,zoY] at hc;refine ⟨⟨by simp only;omega,by simp only;omega,by simp only;omega,by simp only;omega⟩, ?_⟩;unfold zD3;simp only [zoP,zmp,zoq];simp only [zoN] at hd;have e1:(if fc=true then [36] else ([]:Bs)).length=if fc=true then 1 else 0:=by cases fc <;> rfl
     have e2:(if fr=true then [36] else ([]:Bs)).length=if fr=true then 1 else 0:=by cases fr <;> rfl
     rw [e1,e2];omega
    ·cases h
  ·cases h
theorem zh3 {t:Bs} {n:Nd} (h:zII t=some n):Wf false n/\zb n=9/\need n=0/\(txt n).length<=t.length:=by
 unfold zII at h;cases hw:zCL t with
 |some v=>
  rw [hw] at h;cases h;obtain ⟨n,rfl,h1,h2,_⟩:=zWI hw;exact ⟨.num _ n h1,rfl,rfl,by rw [zKs,zoq];exact h2⟩
 |none=>
  rw [hw] at h;simp only at h;split at h
  ·rename_i e;cases h;exact ⟨.tru _ _,rfl,rfl,by rw [zKu,e];exact zoR _⟩
  ·split at h
   ·rename_i e;cases h;exact ⟨.tru _ _,rfl,rfl,by rw [zKu,e];exact zoR _⟩
   ·obtain ⟨r,hr,rfl⟩:=zoV.1 h;obtain ⟨h1,h2⟩:=zUs hr;exact ⟨.ref _ r h1,rfl,rfl,by rw [zIQ];exact h2⟩
theorem zh4 {t:Bs} {op:Nat} (h:zCE t=op) (h0:op≠0):1<=op/\op<=11/\(opT op).length=t.length:=by
 unfold zCE at h;subst h;revert h0
 repeat' split
 all_goals first|(rename_i e;subst e;intro _;decide)|(intro h;exact absurd rfl h)
theorem ze2 {s:Bs} {a op e:Nat} (h:zHl s a=some (op,e)):1<=op/\op<=11/\a+(opT op).length<=e:=by
 have ht:=zJq s a;unfold zHl at h;split at h
 ·rename_i e' t hk;rw [hk] at ht;split at h
  ·cases h
  ·rename_i h0;simp only [zoS,zob] at h;obtain ⟨rfl,rfl⟩:=h;obtain ⟨h1,h2,h3⟩:=zh4 rfl h0;exact ⟨h1,h2,by rw [h3];exact ht⟩
 ·cases h
theorem zBj (b:Bool) (t:Bs):(brk b t).length=t.length+if b then 2 else 0:=by cases b <;> simp [brk]
def Fit (l d a e:Nat) (n:Nd):Prop:=a+(txt n).length+(if zb n<l then 2 else 0)<=e/\d+need n+(if zb n<l then 1 else 0)<=30
theorem Fit.mono {l l' d a e:Nat} {n:Nd} (h:Fit l d a e n) (hl:l'<=l):Fit l' d a e n:=by
 unfold Fit at *;by_cases h1:zb n<l'
 ·rw [zoQ h1,zoQ h1];rw [zoQ tO,zoQ tO] at h;exact h
 ·rw [zWl h1,zWl h1];refine ⟨by have:=h.1;omega,by have:=h.2;omega⟩
theorem Fit.end {l d a e e':Nat} {n:Nd} (h:Fit l d a e n) (he:e<=e'):Fit l d a e' n:=⟨by have:=h.1;omega,h.2⟩
theorem zbX {op d a0 a e e':Nat} {x y:Nd} (hx:Fit (tight op) d a0 a x) (ho:a+(opT op).length<=e) (hy:Fit (tight op+1) d e e' y) (l:Nat) (hl:l<=tight op):Fit l d a0 e' (zAn op x y):=by
 unfold Fit;rw [zLp,zWl tO,zWl tO,zEX,zNb];simp only [zoP,zBj];have e1:decide (zb y<=tight op)=decide (zb y<tight op+1):=znD.2 tO;have e2:(if zb y<=tight op then 1 else 0)=(if zb y<tight op+1 then 1 else 0):=by
  by_cases h:zb y<=tight op
  ·rw [zoQ h,zoQ tO]
  ·rw [zWl h,zWl tO]
 rw [e1,e2];obtain ⟨h1,h2⟩:=hx;obtain ⟨h3,h4⟩:=hy;simp only [zoY];refine ⟨?_, ?_⟩
 ·generalize (if zb x<tight op then 2 else 0)=i at *;generalize (if zb y<tight op+1 then 2 else 0)=j at *;omega
 ·generalize (if zb x<tight op then 1 else 0)=i at *;generalize (if zb y<tight op+1 then 1 else 0)=j at *;omega
structure Snd (s:Bs) (q:Ps):Prop where
 one:∀ a d n e,a<=s.length->d<=30->q.one a d=some (n,e)->Wf false n/\Fit 9 d a e n
 loose:∀ l a d n e,a<=s.length->d<=30->q.loose l a d=some (n,e)->l<=9->Wf false n/\Fit l d a e n/\Stop l s e
 ll:∀ l n0 a0 a d n e,a<=s.length->d<=30->q.ll l n0 a d=some (n,e)->l<=9->Wf false n0->Fit l d a0 a n0->(∀ op o,zHl s a=some (op,o)->Fit (tight op) d a0 a n0)->Wf false n/\Fit l d a0 e n/\Stop l s e
 args:∀ t ks a0 a d n e,a<=s.length->d<=30->q.args t ks a d=some (n,e)->(∀ k∈ks,Wf true k/\d+need k<=30)->a0+(ks.map fun k=>(txt k).length+1).sum<=a ->
  ∃ ks',n=zAw t ks'/\ks'≠[]/\(∀ k∈ks',Wf true k/\d+need k<=30)/\a0+(ks'.map fun k=>(txt k).length+1).sum<=e
theorem ze3 {s:Bs} {a:Nat} {n:Nd} {e:Nat} (h:zDw s a=some (some (n,e))):∃ r o,n=zAy r o/\okR r/\okR o/\a+(txt n).length<=e:=by
 have ht:=zJq s a;unfold zDw at h;split at h
 ·rename_i e1 t hk;rw [hk] at ht;split at h
  ·rename_i r hr;split at h
   ·have h2:=zQP s (e1+1);split at h
    ·rename_i e2 t2 hk2;rw [hk2] at h2;simp only [zoS,zoV] at h;obtain ⟨r2,hr2,hp⟩:=h;simp only [zob] at hp;obtain ⟨rfl,rfl⟩:=hp;obtain ⟨k1,k2⟩:=zUs hr;obtain ⟨k3,k4⟩:=zUs hr2;refine ⟨r,r2,rfl,k1,k3, ?_⟩;rw [zOp];simp only [zoP,zoN];simp only [Tok.upTo] at ht h2;omega
    ·cases h
   ·cases h
  ·cases h
 ·cases h
theorem zTA:∀ (ts:List Bs),ts≠[]->(zAx ts).length+1=(ts.map fun t=>t.length+1).sum
 |[],h=>absurd rfl h
 |[t],_=>by simp [zAx]
 |t::u::r,_=>by
  have:=zTA (u::r) zS_;simp only [zAx,zoP,zoN,zoa,List.sum_cons] at this ⊢;omega
theorem ze4 {l:List Nat} {b:Nat} (h:∀ m∈l,m<=b):l.foldr max 0<=b:=by
 induction l with
 |nil=>exact zmB _
 |cons x l ih=>
  rw [List.foldr_cons];have:=h x zS_;have:=ih fun m hm=>h m (by simp [hm]);omega
theorem zh5 {n:Nd} (h:Wf false n):Wf true n:=by
 cases h with
 |num _ n h=>exact .num _ n h
 |txt _ t=>exact .txt _ t
 |tru _ b=>exact .tru _ b
 |bad _ k h=>exact .bad _ k h
 |ref _ r h=>exact .ref _ r h
 |neg _ n h=>exact .neg _ n h
 |two _ op a b h ha hb=>exact .two _ op a b h ha hb
 |call _ t ks h hk=>exact .call _ t ks h hk
theorem zh6 {s:Bs} {q:Ps} (hq:Snd s q) (he:Ends s q) (a d:Nat) (n:Nd) (e:Nat) (ha:a<=s.length) (hd:d<=30) (h:zB8 s q a d=some (n,e)):Wf false n/\Fit 9 d a e n:=by
 have ht:=zJq s a;have hn:=zB7 s a;unfold zB8 at h;split at h
 ·rename_i e1 t hk;rw [hk] at ht hn;simp only [Tok.upTo] at ht;simp only [Tok.endsBy] at hn;split at h
  ·rename_i hc;have hlt:=(zg hc.2).1;split at h
   ·cases h
   ·rename_i h30;have fin:∀ (ks:List Nd) (e:Nat),(∀ k∈ks,Wf true k/\d+1+need k<=30)->a+t.length+1+(zAx (ks.map txt)).length+1<=e->Wf false (zAw t ks)/\Fit 9 d a e (zAw t ks):=fun ks e hk hl=>by
     refine ⟨.call _ t ks hc.1 fun k h=>(hk k h).1, ?_⟩;unfold Fit;have e9:zb (zAw t ks)=9:=rfl;rw [e9,zWl tO,zWl tO,zCz,zLo];simp only [zoP,zoN,zoT];have hm:(ks.map need).foldr max 0<=29-d:=ze4 fun m hm=>by
      obtain ⟨k,hkm,rfl⟩:=zmf.1 hm;have:=(hk k hkm).2;omega
     omega
    split at h
    ·rename_i e2 hk2;have h2:=zJq s (e1+1);rw [hk2] at h2;simp only [Tok.upTo,zmp] at h2;cases h;exact fin [] _ zS_ (by simp only [zom,zAx,zoT];omega)
    ·obtain ⟨ks',rfl,hne,hk',hl⟩:=hq.args t [] (e1+1) (e1+1) (d+1) n e tO tO h zS_ zS_;refine fin ks' e hk' ?_;have:=zTA (ks'.map txt) (by simpa using hne);rw [zm7] at this;have e3:(ks'.map ((fun t=>t.length+1) ∘ txt)).sum=(ks'.map fun k=>(txt k).length+1).sum:=rfl;rw [e3] at this;omega
  ·obtain ⟨m,hm,hp⟩:=zoV.1 h;cases hp;obtain ⟨h1,h2,h3,h4⟩:=zh3 hm;exact ⟨h1,by unfold Fit;rw [h2,h3,zWl tO,zWl tO];omega⟩
 ·rename_i e1 t hk;rw [hk] at ht;cases h;exact ⟨.txt _ t,by
   unfold Fit;have e9:zb (zHG t)=9:=rfl;have e0:need (zHG t)=0:=rfl;rw [e9,e0,zWl tO,zWl tO,zKt];exact ⟨ht,by omega⟩⟩
 ·rename_i e1 k hk;rw [hk] at ht;cases h;obtain ⟨h1,h2,h3⟩:=ht;exact ⟨.bad _ k ⟨h2,h3⟩,by
   unfold Fit;have e9:zb (zHJ k)=9:=rfl;have e0:need (zHJ k)=0:=rfl;rw [e9,e0,zWl tO,zWl tO,zOo];exact ⟨h1,by omega⟩⟩
 ·rename_i e1 hk;rw [hk] at ht hn;simp only [Tok.upTo,zmp] at ht;simp only [Tok.endsBy] at hn;split at h
  ·cases h
  ·obtain ⟨⟨m,e2⟩,hm,hp⟩:=zoV.1 h;cases hp;obtain ⟨h1,h2⟩:=hq.one e1 (d+1) m e2 tO tO hm;refine ⟨.neg _ m h1, ?_⟩;obtain ⟨h3,h4⟩:=h2;unfold Fit;have e9:zb (zl1 m)=9:=rfl;rw [e9,zWl tO,zWl tO,zEz,zNa];simp only [zoN,zBj,zoY];generalize (if zb m<9 then 2 else 0)=i at *;generalize (if zb m<9 then 1 else 0)=j at *;omega
 ·rename_i e1 hk;rw [hk] at ht hn;simp only [Tok.upTo,zmp] at ht;simp only [Tok.endsBy] at hn;split at h
  ·cases h
  ·rename_i h30;obtain ⟨⟨m,e2⟩,hm,hp⟩:=zor.1 h;have hend:=he.loose 1 e1 (d+1) (m,e2) tO hm;obtain ⟨h1,h2,_⟩:=hq.loose 1 e1 (d+1) m e2 tO tO hm tO;have ht2:=zJq s e2;simp only at hp;split at hp
   ·rename_i e3 hk3;rw [hk3] at ht2;simp only [Tok.upTo,zmp] at ht2;cases hp;refine ⟨h1, ?_⟩;obtain ⟨h3,h4⟩:=h2;have h5:=zJV n;rw [zWl tO] at h3 h4;unfold Fit;by_cases h9:zb n<9
    ·rw [zoQ h9,zoQ h9];omega
    ·rw [zWl h9,zWl h9];omega
   ·cases hp
 ·cases h
theorem zkm {s:Bs} {q:Ps} (hq:Snd s q) (he:Ends s q) (l:Nat) (n0:Nd) (a0 a d:Nat) (n:Nd) (e:Nat) (ha:a<=s.length) (hd:d<=30) (h:zNV s q l n0 a d=some (n,e)) (hl:l<=9) (hw:Wf false n0) (hf:Fit l d a0 a n0) (ho:∀ op o,zHl s a=some (op,o)->Fit (tight op) d a0 a n0):Wf false n/\Fit l d a0 e n/\Stop l s e:=by
 unfold zNV at h;cases hop:zHl s a with
 |none=>
  rw [hop] at h;cases h;exact ⟨hw,hf,fun op o k=>by rw [hop] at k;cases k⟩
 |some p=>
  obtain ⟨op,o⟩:=p;rw [hop] at h;simp only at h;split at h
  ·rename_i hlt;cases h;exact ⟨hw,hf,fun op' o' k=>by rw [hop] at k;cases k;exact hlt⟩
  ·rename_i hge;obtain ⟨⟨y,e1⟩,hy,hr⟩:=zor.1 h;obtain ⟨k1,k2,k3⟩:=ze2 hop;have h4:=zDx op;have hoe:=zDh hop;obtain ⟨w1,w2,w3⟩:=hq.loose _ o d y e1 hoe.2 hd hy tO;have hend:=he.loose _ o d (y,e1) hoe.2 hy;simp only at hend hr;exact hq.ll l _ a0 e1 d n e hend.2 hd hr hl (.two _ op n0 y ⟨k1,k2⟩ hw w1) (zbX (ho op o hop) k3 w2 l tO) fun op' o' h'=>zbX (ho op o hop) k3 w2 _ (by have:=w3 op' o' h';omega)
theorem zbY {s:Bs} {q:Ps} (hq:Snd s q) (he:Ends s q) (l a d:Nat) (n:Nd) (e:Nat) (ha:a<=s.length) (hd:d<=30) (h:zEU q l a d=some (n,e)) (hl:l<=9):Wf false n/\Fit l d a e n/\Stop l s e:=by
 unfold zEU at h;obtain ⟨⟨m,e1⟩,hm,hr⟩:=zor.1 h;obtain ⟨h1,h2⟩:=hq.one a d m e1 ha hd hm;have hend:=he.one a d (m,e1) ha hm;simp only at hend hr;exact hq.ll l m a e1 d n e hend.2 hd hr hl h1 (h2.mono hl) fun op o _=>h2.mono (by have:=(zDx op).2;omega)
theorem ze5 {s:Bs} {q:Ps} (hq:Snd s q) (he:Ends s q) (t:Bs) (ks:List Nd) (a0 a d:Nat) (n:Nd) (e:Nat) (ha:a<=s.length) (hd:d<=30) (h:zFp s q t ks a d=some (n,e)) (hk:∀ k∈ks,Wf true k/\d+need k<=30) (hl:a0+(ks.map fun k=>(txt k).length+1).sum<=a) :
  ∃ ks',n=zAw t ks'/\ks'≠[]/\(∀ k∈ks',Wf true k/\d+need k<=30)/\a0+(ks'.map fun k=>(txt k).length+1).sum<=e:=by
 unfold zFp at h;obtain ⟨⟨m,e1⟩,hm,hr⟩:=zor.1 h;have hend:=zHm he a d (m,e1) ha hm;have ham:Wf true m/\d+need m<=30/\a+(txt m).length<=e1:=by
  unfold zFX at hm;cases hb:zDw s a with
  |none=>
   rw [hb] at hm;obtain ⟨h1,h2,_⟩:=hq.loose 1 a d m e1 ha hd hm tO;obtain ⟨h3,h4⟩:=h2;have h5:=zJV m;rw [zWl tO] at h3 h4;exact ⟨zh5 h1,by omega,by omega⟩
  |some r=>
   rw [hb] at hm;simp only at hm;subst hm;obtain ⟨r,o,rfl,h1,h2,h3⟩:=ze3 hb;exact ⟨.box r o h1 h2,by have:need (zAy r o)=0:=rfl;omega,h3⟩
 have hk2:∀ k∈ks++[m],Wf true k/\d+need k<=30:=fun k h=>by
  rcases zmm.1 h with h|h
  ·exact hk k h
  ·rw [zl5.1 h];exact ⟨ham.1,ham.2.1⟩
 have hsum:((ks++[m]).map fun k=>(txt k).length+1).sum=(ks.map fun k=>(txt k).length+1).sum+((txt m).length+1):=by simp
 have ht:=zJq s e1;have hn:=zB7 s e1;simp only at hr hend;split at hr
 ·rename_i e2 hk3;rw [hk3] at ht hn;simp only [Tok.upTo,zmp] at ht;simp only [Tok.endsBy] at hn;exact hq.args t (ks++[m]) a0 e2 d n e tO hd hr hk2 (by rw [hsum];omega)
 ·rename_i e2 hk3;rw [hk3] at ht;simp only [Tok.upTo,zmp] at ht;cases hr;exact ⟨ks++[m],rfl,by simp,hk2,by rw [hsum];omega⟩
 ·cases hr
theorem zTB (s:Bs):∀ N,Snd s (ps s N)
 |0=>⟨fun _ _ _ _ _ _ h=>(by cases h),fun _ _ _ _ _ _ _ h=>(by cases h),fun _ _ _ _ _ _ _ _ _ h=>(by cases h),fun _ _ _ _ _ _ _ _ _ h=>(by cases h)⟩
 |N+1=>⟨fun a d n e=>zh6 (zTB s N) (zKo s N) a d n e,fun l a d n e=>zbY (zTB s N) (zKo s N) l a d n e,fun l n0 a0 a d n e=>zkm (zTB s N) (zKo s N) l n0 a0 a d n e,fun t ks a0 a d n e=>ze5 (zTB s N) (zKo s N) t ks a0 a d n e⟩
theorem ze6 {s:Bs} {n:Nd} (h:zAj s=some n):Wf false n/\need n<=30/\(txt n).length+1<=s.length:=by
 unfold zAj at h;split at h
 ·rename_i h0;obtain ⟨⟨m,e⟩,hm,hr⟩:=zor.1 h;have h1:1<=s.length:=by
   cases s with
   |nil=>cases h0.2
   |cons _ _=>simp
  have hend:=(zCr s).loose 1 1 0 (m,e) h1 hm;obtain ⟨w,f,_⟩:=(zTB s _).loose 1 1 0 m e h1 tO hm tO;simp only at hr;split at hr
  ·cases hr;obtain ⟨f1,f2⟩:=f;have:=zJV n;rw [zWl tO] at f1 f2;simp only at hend;exact ⟨w,by omega,by omega⟩
  ·cases hr
 ·cases h
section
variable {C:CSpec} {GT:zG_}
def zGZ (n:Nd):AV:=.lst (some n.kq) n.kk (kxs n)
theorem z7 (n:Nd):zCS (zGZ n) 12 (n.kids.map ndV):=by
 obtain ⟨k,m,t,r,o,ks⟩:=n;unfold zGZ;cases ks with
 |nil=>exact ⟨_,_,rfl,.inr rfl⟩
 |cons x ks=>exact ⟨_,12,by show AV.lst (some false) 12 (zdQ (x::ks))=_;rw [zJi];rfl,.inl rfl⟩
theorem zF0:∀ (ts:List Bs),ts.length<=(zAx ts).length+1/\∀ t∈ts,t.length<=(zAx ts).length
 |[]=>⟨by simp,by simp⟩
 |[t]=>⟨by simp,by simp [zAx]⟩
 |t::u::r=>by
  obtain ⟨h1,h2⟩:=zF0 (u::r);simp only [zAx,zoP,zoN] at h1 ⊢;refine ⟨by omega,fun x hx=>?_⟩;rcases zmG.1 hx with rfl|hx
  ·omega
  ·have:=h2 x hx;omega
theorem zbZ (hWb:WbH C) (n:Nd) (hTi:∀ H,C zBz [ndV n] H (zK (zEa n)) H) (hBr:BrH C n) (H0:Heap) (b:Nat) (u:Bs) (H:Heap) (hB:BAt H0 H b u) (hO:Old H0 H) (hl:u.length+(txt (zl1 n)).length<=1000000) (hb:b<H.length) :
  zDv C GT zGQ [bR b,ndV (zl1 n)] H (wrQ H0 H b (u++txt (zl1 n))):=by
 have hx:decide ((zEa n:Int)<5)=decide (zb n<9):=by
  rw [znD,<-zbH n];omega
 rw [zEz] at hl ⊢;rw [<-hx] at hl ⊢;rw [zoN] at hl;obtain ⟨H2,hw2,h2⟩:=hWb H0 b u 45 _ (hB.push (.box (ndV (zl1 n)).cells)) (hO.push _) tO;have hn2:H2[H.length]?=some (.box (ndV (zl1 n)).cells):=h2.2.2.2 _ _ tO (by intro xs e;cases e) zB;obtain ⟨H3,hw3,h3⟩:=hBr (decide ((zEa n:Int)<5)) H0 b _ _ h2.1 h2.2.1 h2.1.lt (by simp only [zoP,zoN,zoT];omega);have e:u++45::brk (decide ((zEa n:Int)<5)) (txt n)=u++[45]++brk (decide ((zEa n:Int)<5)) (txt n):=by simp
 rw [e];clear hWb hBr;unfold zDv;refine sX ?_;refine zBg 0 (ndV n) (z7 (zl1 n)) rfl rfl<|sX ?_;refine zBg 0 (ndV n) (z7 (zl1 n)) rfl rfl<|sX ?_
 exact zLf (zKq rfl rfl) ⟨rfl,h3.1,h3.2.1,((KpB.push0 b H _).trans h2.2.2).trans h3.2.2⟩
theorem zba (hT:WtH C) (op:Nat) (n m:Nd) (hTi:∀ H,C zBz [ndV n] H (zK (zEa n)) H) (hTm:∀ H,C zBz [ndV m] H (zK (zEa m)) H) (hTt:∀ H,C zBz [ndV (zAn op n m)] H (zK (tight op)) H) (hSg:∀ H,C zEI [zL op] H (.str (opT op)) H) (hBr:BrH C n) (hBm:BrH C m) (H0:Heap) (b:Nat) (u:Bs) (H:Heap) (hB:BAt H0 H b u) (hO:Old H0 H) (hl:u.length+(txt (zAn op n m)).length<=1000000) (hb:b<H.length) :
  zDv C GT zGQ [bR b,ndV (zAn op n m)] H (wrQ H0 H b (u++txt (zAn op n m))):=by
 have ht:=zDx op;have hP:∀ k:Nd,(zEa k=zb k/\zb k<=4)\/(zEa k=5/\zb k=9):=fun k=>by
  unfold zEa zb;split
  ·have:=zDx k.num.toNat;exact .inl ⟨rfl,this.2⟩
  ·exact .inr ⟨rfl,rfl⟩
 have hx:decide ((zEa n:Int)<(tight op:Nat))=decide (zb n<tight op):=by
  rw [znD];have:=hP n;omega
 have hy:decide ((zEa m:Int)<=(tight op:Nat))=decide (zb m<=tight op):=by
  rw [znD];have:=hP m;omega
 rw [zEX] at hl ⊢;rw [<-hx,<-hy] at hl ⊢;simp only [zoP] at hl;obtain ⟨H2,hw2,h2⟩:=hBr (decide ((zEa n:Int)<(tight op:Nat))) H0 b u _ (hB.push (.box (ndV (zAn op n m)).cells)) (hO.push _) (by rw [zoP];omega) tO;have hn2:H2[H.length]?=some (.box (ndV (zAn op n m)).cells):=h2.2.2.2 _ _ tO (by intro xs e;cases e) zB;obtain ⟨H3,hw3,h3⟩:=hT H0 b _ (opT op) _ h2.1 h2.2.1 (by simp only [zoP];omega);have hn3:H3[H.length]?=some (.box (ndV (zAn op n m)).cells):=h3.2.2.2 _ _ tO (by intro xs e;cases e) hn2;obtain ⟨H4,hw4,h4⟩:=hBm (decide ((zEa m:Int)<=(tight op:Nat))) H0 b _ _ h3.1 h3.2.1 h3.1.lt (by simp only [zoP];omega);rw [<-List.append_assoc,<-List.append_assoc];clear hT hBr hBm;unfold zDv;refine zAV (x:=ndV (zAn op n m)) rfl<|zA (.int IntKind.i64 (zAn op n m).kind) zB rfl<|sW ?_;refine zA (.lst (some (zAn op n m).kq) (zAn op n m).kk (kxs (zAn op n m))) zB rfl<|zBg 0 (ndV n) (z7 (zAn op n m)) rfl rfl<|sW ?_;refine zA (.lst (some (zAn op n m).kq) (zAn op n m).kk (kxs (zAn op n m))) zB rfl<|zBg 0 (ndV n) (z7 (zAn op n m)) rfl rfl<|z8 (ndV n) rfl<|zI (hTi _)<|zA (ndV (zAn op n m)) zB rfl<|zI (hTt _)<|zBc hw2 (fun h=>nomatch h)<|zA (zL op) hn2 rfl<|zI (hSg _)<|zBc hw3 (fun h=>nomatch h)<|zA (zGZ (zAn op n m)) hn3 rfl<|zBg 1 (ndV m) (z7 (zAn op n m)) rfl rfl<|sW ?_
 refine zA (zGZ (zAn op n m)) hn3 rfl<|zBg 1 (ndV m) (z7 (zAn op n m)) rfl rfl<|z8 (ndV m) rfl<|zI (hTm _)<|zA (ndV (zAn op n m)) hn3 rfl<|zI (hTt _)<|zBc hw4 (fun h=>nomatch h) ?_
 exact zLf (zKq rfl rfl) ⟨rfl,h4.1,h4.2.1,(((KpB.push0 b H _).trans h2.2.2).trans h3.2.2).trans h4.2.2⟩
end
theorem zQR:∀ (l:List Bs) (x:Bs),zAx (l++[x])=if l=[] then x else zAx l++44::x
 |[],x=>by simp [zAx]
 |[a],x=>by simp [zAx]
 |a::c::r,x=>by
  have:=zQR (c::r) x;rw [zWl zS_] at this ⊢;show a++44::zAx ((c::r)++[x])=(a++44::zAx (c::r))++44::x;rw [this];simp
theorem zQS {ks:List Nd} {i:Nat} {k:Nd} (h:ks[i]?=some k):zAx ((ks.take (i+1)).map txt)=if i=0 then txt k else zAx ((ks.take i).map txt)++44::txt k:=by
 have hl:=(zl_ h);rw [zm9,h,znO,zov,zoa,zom,zQR];by_cases e:i=0
 ·subst e;simp
 ·have:(ks.take i).map txt≠[]:=by
   intro h2;have:=zod List.length h2;rw [zoU,zon,zoT,znG tO] at this;exact e this
  rw [zWl this,zWl e]
theorem zLr:∀ (l:List Bs) (i:Nat),(zAx (l.take i)).length<=(zAx l).length
 |[],i=>by simp
 |[a],0=>by simp [zAx]
 |[a],i+1=>by simp
 |a::c::r,0=>by simp [zAx]
 |a::c::r,1=>by simp [zAx]
 |a::c::r,i+2=>by
  have:=zLr (c::r) (i+1);rw [znN] at this ⊢;rw [znN];simp only [zAx,zoP,zoN];omega
theorem zRc {H:Heap} {x y:ABlk}:(H++[x]).set H.length y=H++[y]:=by simp
section
variable {C:CSpec} {GT:zG_}
theorem zYA (hT:WtH C) (hWb:WbH C) (t:Bs) (ks:List Nd) (hW:∀ k∈ks,WrH C k) (H0:Heap) (b:Nat) (u:Bs) (H:Heap) (hB:BAt H0 H b u) (hO:Old H0 H) (hl:u.length+(txt (zAw t ks)).length<=1000000) (hb:b<H.length) (hkl:ks.length<=1000000) :
  zDv C GT zGQ [bR b,ndV (zAw t ks)] H (wrQ H0 H b (u++txt (zAw t ks))):=by
 have hxv:zCS (zGZ (zAw t ks)) 12 (ks.map ndV):=z7 (zAw t ks);have hlm:(ks.map ndV).length=ks.length:=zoU _;rw [zCz] at hl ⊢;simp only [zoP,zoN,zoT] at hl;obtain ⟨H2,hw2,h2⟩:=hT H0 b u (t++[40]) _ (hB.push (.box (ndV (zAw t ks)).cells)) (hO.push _) (by simp;omega);have hn2:H2[H.length]?=some (.box (ndV (zAw t ks)).cells):=h2.2.2.2 _ _ tO (by intro xs e;cases e) zB;clear hT;unfold zDv;refine sX ?_;refine zBA (show t.length+1<=9223372036854775807 by omega)<|sX ?_;refine zAr (fun i:Nat=>[(130,zL i),(0,bR b),(128,zGZ (zAw t ks)),(129,zL ks.length)]) (fun i H'=>BTo H0 H2 H' b (u++(t++[40])++zAx ((ks.take i).map txt))/\i<=ks.length) (fun i=>ks.length-i) 0 rfl ⟨?_,by omega⟩ (fun i H1 hi=>?_)
 ·have:BTo H0 H2 H2 b (u++(t++[40])++[]):=by rw [zmR];exact ⟨h2.1,h2.2.1,KpB.refl b _⟩
  exact this
 obtain ⟨hB1,hi⟩:=hi;dsimp only;have hjl:(zAx ((ks.take i).map txt)).length<=(zAx (ks.map txt)).length:=by rw [List.map_take];exact zLr _ i
 by_cases hlt:i<ks.length
 ·obtain ⟨k,hk⟩:∃ k,ks[i]?=some k:=⟨_,zoO hlt⟩;have hkm:(ks.map ndV)[i]?=some (ndV k):=by rw [zoX,hk];rfl
  have hWk:=hW k (zoc hk);have hjk:=zQS hk;have hjl2:(zAx ((ks.take (i+1)).map txt)).length<=(zAx (ks.map txt)).length:=by rw [List.map_take];exact zLr _ (i+1)
  have hBk:BAt H0 ((H1++[ABlk.box (ndC zU)]).set H1.length (.box (ndV k).cells)) b (u++(t++[40])++zAx ((ks.take i).map txt)):=by rw [zRc];exact hB1.1.push _
  have hOk:Old H0 ((H1++[ABlk.box (ndC zU)]).set H1.length (.box (ndV k).cells)):=by rw [zRc];exact hB1.2.1.push _
  have hKk:KpB b H2 ((H1++[ABlk.box (ndC zU)]).set H1.length (.box (ndV k).cells)):=by rw [zRc];exact hB1.2.2.push _
  have hbk:=hB1.1.lt;clear hW;by_cases h0:i=0
  ·rw [zoQ h0] at hjk;have hj0:zAx ((ks.take i).map txt)=[]:=by rw [h0];rfl
   rw [hj0] at hBk;obtain ⟨H3,hw3,h3⟩:=hWk H0 b _ _ hBk hOk hBk.lt (by rw [hjk] at hjl2;simp;omega);refine sX ?_;refine sSA (ndV k) ?_;refine zc (tF)<|sX ?_;refine zQ (r:=i+1) rfl tO ?_;refine zAJ (i+1) rfl ⟨?_,by omega⟩ tO
   rw [hjk];rw [zmR] at h3;exact ⟨h3.1,h3.2.1,hKk.trans h3.2.2⟩
  ·rw [zWl h0] at hjk;obtain ⟨H3,hw3,h3⟩:=hWb H0 b _ 44 _ hBk hOk (by simp only [zoP,zoN,zoT];omega);have hn3:H3[H1.length]?=some (.box (ndV k).cells):=h3.2.2.2 _ _ tO (by intro xs e;cases e) hP;obtain ⟨H4,hw4,h4⟩:=hWk H0 b _ _ h3.1 h3.2.1 h3.1.lt (by rw [hjk] at hjl2;simp only [zoP,zoN,zoT] at hjl2 ⊢;omega);clear hWb hWk;refine sX ?_;refine sSA (ndV k) ?_;refine sX ?_;refine zQ (r:=i+1) rfl tO ?_;refine zAJ (i+1) rfl ⟨?_,by omega⟩ tO;have e:u++(t++[40])++zAx ((ks.take (i+1)).map txt)=u++(t++[40])++zAx ((ks.take i).map txt)++[44]++txt k:=by rw [hjk];simp
   rw [e];exact ⟨h4.1,h4.2.1,(hKk.trans h3.2.2).trans h4.2.2⟩
 ·have ei:i=ks.length:=by omega
  rw [ei,zmg] at hB1;obtain ⟨H3,hw3,h3⟩:=hWb H0 b _ 41 _ hB1.1 hB1.2.1 (by simp;omega);have e:u++(t++40::zAx (ks.map txt)++[41])=u++(t++[40])++zAx (ks.map txt)++[41]:=by simp
  rw [e];clear hWb hW;refine sX ?_;exact zLf (zKq rfl rfl) ⟨rfl,h3.1,h3.2.1,(((KpB.push0 b H _).trans h2.2.2).trans hB1.2.2).trans h3.2.2⟩
end
theorem zUt {x:Bool} {n:Nd} (h:Wf x n):n.kind=8->1<=n.num/\n.num<=11:=by
 cases h with
 |two _ op a b h=>intro _;have e:(zAn op a b).num=(op:Int):=rfl;rw [e];omega
 |num|txt|tru|bad|ref|box|neg|call=>intro e;cases e
theorem zYB (op:Nat) (a b:Nd):zEa (zAn op a b)=tight op:=by show tight (op:Int).toNat=_;rw [zoq]
theorem zbb:∀ t:Bs,t.length<=(esc t).length
 |[]=>zoR _
 |c::r=>by
  have:=zbb r;unfold esc;split <;> simp only [zoN] <;> omega
section
variable {C:CSpec} {GT:zG_}
structure ShowH (C:CSpec):Prop where
 num:∀ (m:Nat) H,C zH4 [zL m] H (v3 1 m) H
 snum:∀ (m:Nat),m<=9223372036854775807->∀ H,C zCp [v3 1 m] H (.str (zFz m)) H
 rep:∀ t:Bs,t.length<=1000000->∀ H,C zBI [.str t,.str [34],.str [34,34]] H (.str (esc t)) H
 is:∀ (x:Bool) H,C zDs [.bool x] H (v3 3 (if x=true then 1 else 0)) H
 stru:∀ (x:Bool) H,C zCp [v3 3 (if x=true then 1 else 0)] H (.str (if x then zFx else zDS)) H
 wrong:∀ (k:Nat) H,C zCt [zL k] H (v3 4 k) H
 sbad:∀ (k:Nat),1<=k/\k<=6->∀ H,C zCp [v3 4 k] H (.str (wrongs.getD (k-1) [])) H
 ref:∀ (r:RefP),okR r->∀ H,C zDC [rV r] H (.tup [.str (zD3 r),.nili]) H
 tight:∀ (n:Nd),(n.kind=8->1<=n.num/\n.num<=11)->∀ H,C zBz [ndV n] H (zK (zEa n)) H
 sign:∀ (k:Nat),1<=k/\k<=11->∀ H,C zEI [zL k] H (.str (opT k)) H
theorem zbc (S:ShowH C) (hT:WtH C) (hWb:WbH C)
  (hmk:∀ n,(∀ H0 b u H,BAt H0 H b u->Old H0 H->b<H.length->u.length+(txt n).length<=1000000->zDv C GT zGQ [bR b,ndV n] H (wrQ H0 H b (u++txt n)))->WrH C n)
  (hmb:∀ n,(∀ x H0 b u H,BAt H0 H b u->Old H0 H->b<H.length->u.length+(brk x (txt n)).length<=1000000->zDv C GT zMW [bR b,ndV n,.bool x] H (wrQ H0 H b (u++brk x (txt n))))->BrH C n)
  {x:Bool} {n:Nd} (h:Wf x n):(txt n).length<=1000000->WrH C n:=by
 have hbr:∀ m,WrH C m->BrH C m:=fun m hm=>hmb m fun x H0 b u H hB hO hb hl=>zUm hWb m hm x H0 b u H hB hO hl hb;induction h with
 |num _ m h=>exact fun _=>hmk _ fun H0 b u H hB hO hb hl=>zbL hT m (S.num m) (S.snum m h) H0 b u H hB hO (by rwa [zKs,zoq] at hl)
 |txt _ t=>
  intro h1;rw [zKt] at h1;simp only [zoP,zoN,zoT] at h1;have:=zbb t;exact hmk _ fun H0 b u H hB hO hb hl=>zbM hT t (S.rep t tO) H0 b u H hB hO (by rw [zKt] at hl;simp only [zoP,zoN,zoT] at hl;omega)
 |tru _ b=>
  exact fun _=>hmk _ fun H0 c u H hB hO hb hl=>by
   rw [zKu] at hl ⊢;exact zbN hT b (S.is b) (S.stru b) H0 c u H hB hO hl
 |bad _ k h=>
  exact fun _=>hmk _ fun H0 b u H hB hO hb hl=>by
   rw [zOo] at hl ⊢;exact zbO hT k _ (S.wrong k) (S.sbad k h) H0 b u H hB hO hl
 |ref _ r h=>exact fun _=>hmk _ fun H0 b u H hB hO hb hl=>zbP hT r (S.ref r h) H0 b u H hB hO hl hb
 |box r o h k=>exact fun _=>hmk _ fun H0 b u H hB hO hb hl=>zbQ hT r o (S.ref r h) (S.ref o k) H0 b u H hB hO hl hb
 |neg _ m h ih=>
  intro h1;rw [zEz] at h1;simp only [zoN,zBj] at h1;have hm:=ih tO;exact hmk _ fun H0 b u H hB hO hb hl=>zbZ hWb m (S.tight m (zUt h)) (hbr m hm) H0 b u H hB hO hl hb
 |two _ op a c h ha hc iha ihc=>
  intro h1;rw [zEX] at h1;simp only [zoP,zBj] at h1;have h2:=iha tO;have h3:=ihc tO;exact hmk _ fun H0 b u H hB hO hb hl=>zba hT op a c (S.tight a (zUt ha)) (S.tight c (zUt hc)) (by have:=S.tight (zAn op a c) (zUt (Wf.two true op a c h ha hc));rwa [zYB] at this) (S.sign op h) (hbr a h2) (hbr c h3) H0 b u H hB hO hl hb
 |call _ t ks h hk ih=>
  intro h1;have h4:=h1;rw [zCz] at h1;simp only [zoP,zoN] at h1;have hj:=zF0 (ks.map txt);have hm:∀ k∈ks,WrH C k:=fun k hk=>ih k hk (by have:=hj.2 (txt k) (zmh hk);omega);exact hmk _ fun H0 b u H hB hO hb hl=>zYA hT hWb t ks hm H0 b u H hB hO hl hb (by have:=hj.1;rw [zoU] at this;omega)
def zh7 (n:Nd) (k:Nat):Bool:=((n.kids.length:Int)==(k:Int))&&(n.text==([]:Bs))
theorem zbd (n:Nd) (k c:Nat) (H:Heap) (hc:H[c]?=some (.box (ndV n).cells)):EFun C GT zHY [zL k,bR c] H (.bool (zh7 n k)) H:=by
 have hxv:=z7 n;have hlm:(n.kids.map ndV).length=n.kids.length:=zoU _;unfold zh7;refine zH ?_;cases e1:((n.kids.length:Int)==(k:Int)) with
 |true=>
  refine sX ?_;exact sRv
 |false=>
  refine sX ?_;exact sRv
def FcH (C:CSpec):Prop:=∀ (n:Nd) (k c:Nat) H,H[c]?=some (.box (ndV n).cells)->C zAY [zL k,bR c] H (.bool (zh7 n k)) H
def FmH (C:CSpec) (x:Bool) (n:Nd):Prop:=∀ H,C zBn [ndV n,.bool x] H (.bool true) H
theorem ze7 (hB:FcH C) (x:Bool) (m:Nat) (H:Heap):EFun C GT zAv [ndV (zJj m),.bool x] H (.bool true) H:=by
 have hb:∀ H',(H++[.box (ndV (zJj m)).cells])=H'->C zAY [zL 0,bR H.length] H' (.bool true) H':=fun H' e=>by rw [<-e];exact hB (zJj m) 0 _ _ zB
 clear hB;refine zH<|zAV (x:=ndV (zJj m)) rfl<|zA (.agg [.int .i64 (zJj ↑m).ref.col,.int .i64 (zJj ↑m).ref.row,.bool (zJj ↑m).ref.fc,.bool (zJj ↑m).ref.fr]) zB rfl<|za (v:=zP) rfl<|za rfl<|zD<|zA (.agg [.int .i64 (zJj ↑m).to.col,.int .i64 (zJj ↑m).to.row,.bool (zJj ↑m).to.fc,.bool (zJj ↑m).to.fr]) zB rfl<|za (v:=zP) rfl<|za rfl<|zD<|zA (.int IntKind.i64 (zJj ↑m).kind) zB rfl ?_
 refine zD<|zI (hb _ rfl)<|zD<|zD<|zD<|zA (.int IntKind.i64 (zJj ↑m).num) zB rfl<|zD ?_
 exact sRv
theorem ze8 (x:Bool) (t:Bs) (H:Heap):EFun C GT zAv [ndV (zHG t),.bool x] H (.bool true) H:=by
 refine zH ?_;have hxv:=z7 (zHG t);refine zAV (x:=ndV (zHG t)) rfl<|sW ?_;refine zAk 0 hxv rfl<|sW ?_
 exact zAQ rfl rfl rfl rfl ((Old.refl _).push _)
theorem ze9 (hB:FcH C) (x b:Bool) (H:Heap):EFun C GT zAv [ndV (zE3 b),.bool x] H (.bool true) H:=by
 have hb:∀ H',(H++[.box (ndV (zE3 b)).cells])=H'->C zAY [zL 0,bR H.length] H' (.bool true) H':=fun H' e=>by rw [<-e];exact hB (zE3 b) 0 _ _ zB
 clear hB;refine zH<|zAV (x:=ndV (zE3 b)) rfl ?_
 cases b with
 |true=>
  refine zA (.agg [.int .i64 (zE3 true).ref.col,.int .i64 (zE3 true).ref.row,.bool (zE3 true).ref.fc,.bool (zE3 true).ref.fr]) zB rfl<|za (v:=zP) rfl<|za rfl<|zD<|zA (.agg [.int .i64 (zE3 true).to.col,.int .i64 (zE3 true).to.row,.bool (zE3 true).to.fc,.bool (zE3 true).to.fr]) zB rfl<|za (v:=zP) rfl<|za rfl<|zD<|zA (.int IntKind.i64 (zE3 true).kind) zB rfl ?_
  refine zC<|zC<|zD<|zI (hb _ rfl)<|zD<|zD<|zD<|zA (.int IntKind.i64 (zE3 true).num) zB rfl<|zC<|zA (.int IntKind.i64 (zE3 true).num) zB rfl<|zC<|zD ?_
  exact sRv
 |false=>
  refine zA (.agg [.int .i64 (zE3 false).ref.col,.int .i64 (zE3 false).ref.row,.bool (zE3 false).ref.fc,.bool (zE3 false).ref.fr]) zB rfl<|za (v:=zP) rfl<|za rfl<|zD<|zA (.agg [.int .i64 (zE3 false).to.col,.int .i64 (zE3 false).to.row,.bool (zE3 false).to.fc,.bool (zE3 false).to.fr]) zB rfl<|za (v:=zP) rfl<|za rfl<|zD<|zA (.int IntKind.i64 (zE3 false).kind) zB rfl ?_
  refine zC<|zC<|zD<|zI (hb _ rfl)<|zD<|zD<|zD<|zA (.int IntKind.i64 (zE3 false).num) zB rfl<|zD<|zD<|zD ?_
  exact sRv
theorem zfA (hB:FcH C) (x:Bool) (k:Nat) (h:1<=k/\k<=6) (H:Heap):EFun C GT zAv [ndV (zHJ k),.bool x] H (.bool true) H:=by
 have hb:∀ H',(H++[.box (ndV (zHJ k)).cells])=H'->C zAY [zL 0,bR H.length] H' (.bool true) H':=fun H' e=>by rw [<-e];exact hB (zHJ k) 0 _ _ zB
 clear hB;have c1:decide ((zHJ k).num>=1)=true:=tT (by show (1:Int)<=(k:Int);omega);have c2:decide ((zHJ k).num<=6)=true:=tT (by show (k:Int)<=6;omega);refine zH<|zAV (x:=ndV (zHJ k)) rfl<|zA (.agg [.int .i64 (zHJ k).ref.col,.int .i64 (zHJ k).ref.row,.bool (zHJ k).ref.fc,.bool (zHJ k).ref.fr]) zB rfl<|za (v:=zP) rfl<|za rfl<|zD<|zA (.agg [.int .i64 (zHJ k).to.col,.int .i64 (zHJ k).to.row,.bool (zHJ k).to.fc,.bool (zHJ k).to.fr]) zB rfl<|za (v:=zP) rfl<|za rfl<|zD<|zA (.int IntKind.i64 (zHJ k).kind) zB rfl ?_
 refine zC<|zC<|zC<|zD<|zI (hb _ rfl)<|zD<|zD<|zD<|zA (.int IntKind.i64 (zHJ k).num) zB rfl<|zD<|zt c1<|zA (.int IntKind.i64 (zHJ k).num) zB rfl<|zD ?_
 exact zMB (v0:=.bool (decide ((zHJ k).num<=6))) (by rw [c2]) rfl rfl rfl rfl hO
theorem zfB (hB:FcH C) (hA:∀ c r,okC c r=true->∀ H,C zAg [ze c r] H .nili H) (x:Bool) (r:RefP) (h:okC r.col r.row=true) (H:Heap):EFun C GT zAv [ndV (zB3 r),.bool x] H (.bool true) H:=by
 have hb:∀ H',(H++[.box (ndV (zB3 r)).cells])=H'->C zAY [zL 0,bR H.length] H' (.bool true) H':=fun H' e=>by rw [<-e];exact hB (zB3 r) 0 _ _ zB
 have ha:=hA r.col r.row h;have h0:(r.col==(0:Int))=false:=by
  unfold okC at h;simp only [zTo,zoY] at h;exact tN
 have c1:zL9 false ((r.col==0)&&((r.row==0)&&((r.fc==false)&&((r.fr==false)&&true))))=false:=by rw [h0];rfl
 clear hB hA;refine zH<|zAV (x:=ndV (zB3 r)) rfl<|zA (.agg [.int .i64 (zB3 r).ref.col,.int .i64 (zB3 r).ref.row,.bool (zB3 r).ref.fc,.bool (zB3 r).ref.fr]) zB rfl<|za (v:=zP) rfl<|za rfl<|zc c1<|zC<|zA (.int IntKind.i64 (zB3 r).kind) zB rfl<|zC<|zC<|zC<|zC<|zD<|zI (hb _ rfl)<|zD<|zA (.int IntKind.i64 (zB3 r).num) zB rfl<|zD<|zD<|zA (.agg [.int .i64 (zB3 r).to.col,.int .i64 (zB3 r).to.row,.bool (zB3 r).to.fc,.bool (zB3 r).to.fr]) zB rfl ?_
 refine za (v:=zP) rfl<|za rfl<|zD<|zD<|zA (.agg [.int .i64 (zB3 r).ref.col,.int .i64 (zB3 r).ref.row]) zB rfl<|zI (ha _)<|za rfl<|zD ?_
 exact sRv
theorem zfC (hB:FcH C) (hA:∀ c r,okC c r=true->∀ H,C zAg [ze c r] H .nili H) (r o:RefP) (h:okC r.col r.row=true) (h2:okC o.col o.row=true) (H:Heap):EFun C GT zAv [ndV (zAy r o),.bool true] H (.bool true) H:=by
 have hb:∀ H',(H++[.box (ndV (zAy r o)).cells])=H'->C zAY [zL 0,bR H.length] H' (.bool true) H':=fun H' e=>by rw [<-e];exact hB (zAy r o) 0 _ _ zB
 have ha:=hA r.col r.row h;have h0:(r.col==(0:Int))=false:=by
  unfold okC at h;simp only [zTo,zoY] at h;exact tN
 have c1:zL9 false ((r.col==0)&&((r.row==0)&&((r.fc==false)&&((r.fr==false)&&true))))=false:=by rw [h0];rfl
 have ha2:=hA o.col o.row h2;clear hB hA;refine zH<|zAV (x:=ndV (zAy r o)) rfl<|zA (.agg [.int .i64 (zAy r o).ref.col,.int .i64 (zAy r o).ref.row,.bool (zAy r o).ref.fc,.bool (zAy r o).ref.fr]) zB rfl<|za (v:=zP) rfl<|za rfl<|zc c1<|zC<|zA (.int IntKind.i64 (zAy r o).kind) zB rfl<|zC<|zC<|zC<|zC<|zC<|zD<|zD<|zI (hb _ rfl)<|zD<|zD<|zA (.int IntKind.i64 (zAy r o).num) zB rfl<|zD<|zD<|zA (.agg [.int .i64 (zAy r o).ref.col,.int .i64 (zAy r o).ref.row]) zB rfl ?_
 refine zI (ha _)<|za rfl<|zD<|zD<|zA (.agg [.int .i64 (zAy r o).to.col,.int .i64 (zAy r o).to.row]) zB rfl<|zI (ha2 _)<|za rfl<|zD ?_
 exact sRv
theorem zfD (hB:FcH C) (x:Bool) (n:Nd) (hF:FmH C false n) (H:Heap):EFun C GT zAv [ndV (zl1 n),.bool x] H (.bool true) H:=by
 have hb:∀ H',(H++[.box (ndV (zl1 n)).cells])=H'->C zAY [zL 1,bR H.length] H' (.bool true) H':=fun H' e=>by rw [<-e];exact hB (zl1 n) 1 _ _ zB
 have hf:∀ H,C zBn [ndV n,.bool false] H (.bool true) H:=hF;have hxv:=z7 (zl1 n);have hk:((zl1 n).kids.map ndV)[0]?=some (ndV n):=rfl;clear hB hF;refine zH<|zAV (x:=ndV (zl1 n)) rfl<|zA (.agg [.int .i64 (zl1 n).ref.col,.int .i64 (zl1 n).ref.row,.bool (zl1 n).ref.fc,.bool (zl1 n).ref.fr]) zB rfl<|za (v:=zP) rfl<|za rfl<|zD<|zA (.agg [.int .i64 (zl1 n).to.col,.int .i64 (zl1 n).to.row,.bool (zl1 n).to.fc,.bool (zl1 n).to.fr]) zB rfl<|za (v:=zP) rfl<|za rfl<|zD<|zA (.int IntKind.i64 (zl1 n).kind) zB rfl ?_
 refine zC<|zC<|zC<|zC<|zC<|zC<|zD<|zI (hb _ rfl)<|zD<|zD<|zD<|zA (.int IntKind.i64 (zl1 n).num) zB rfl<|zD<|zD<|zA (.lst (some (zl1 n).kq) (zl1 n).kk (kxs (zl1 n))) zB rfl<|zBg 0 (ndV n) hxv rfl hk<|z8 (ndV n) rfl<|zI (hf _)<|zD ?_
 exact sRv
theorem zfE (hB:FcH C) (x:Bool) (op:Nat) (a b:Nd) (h:1<=op/\op<=11) (hFa:FmH C false a) (hFb:FmH C false b) (H:Heap):EFun C GT zAv [ndV (zAn op a b),.bool x] H (.bool true) H:=by
 have hb:∀ H',(H++[.box (ndV (zAn op a b)).cells])=H'->C zAY [zL 2,bR H.length] H' (.bool true) H':=fun H' e=>by rw [<-e];exact hB (zAn op a b) 2 _ _ zB
 have hf:∀ H,C zBn [ndV a,.bool false] H (.bool true) H:=hFa;have hf2:∀ H,C zBn [ndV b,.bool false] H (.bool true) H:=hFb;have hxv:=z7 (zAn op a b);have hk:((zAn op a b).kids.map ndV)[0]?=some (ndV a):=rfl;have hk2:((zAn op a b).kids.map ndV)[1]?=some (ndV b):=rfl;clear hB hFa hFb;have c1:decide ((zAn op a b).num>=1)=true:=tT (by show (1:Int)<=(op:Int);omega);have c2:decide ((zAn op a b).num<=11)=true:=tT (by show (op:Int)<=11;omega);refine zH<|zAV (x:=ndV (zAn op a b)) rfl<|zA (.agg [.int .i64 (zAn op a b).ref.col,.int .i64 (zAn op a b).ref.row,.bool (zAn op a b).ref.fc,.bool (zAn op a b).ref.fr]) zB rfl<|za (v:=zP) rfl<|za rfl<|zD<|zA (.agg [.int .i64 (zAn op a b).to.col,.int .i64 (zAn op a b).to.row,.bool (zAn op a b).to.fc,.bool (zAn op a b).to.fr]) zB rfl<|za (v:=zP) rfl<|za rfl ?_
 refine zD<|zA (.int IntKind.i64 (zAn op a b).kind) zB rfl<|zC<|zC<|zC<|zC<|zC<|zC<|zC<|zD<|zI (hb _ rfl)<|zD<|zD<|zD<|zA (.int IntKind.i64 (zAn op a b).num) zB rfl<|zD<|zt c1<|zA (.int IntKind.i64 (zAn op a b).num) zB rfl<|zD<|zt c2<|zA (.lst (some (zAn op a b).kq) (zAn op a b).kk (kxs (zAn op a b))) zB rfl<|zBg 0 (ndV a) hxv rfl hk<|z8 (ndV a) rfl<|zI (hf _)<|zD<|zD<|zA (.lst (some (zAn op a b).kq) (zAn op a b).kk (kxs (zAn op a b))) zB rfl<|zBg 1 (ndV b) hxv rfl hk2<|z8 (ndV b) rfl<|zI (hf2 _) ?_
 refine zD ?_;exact sRv
theorem zbe (hC:∀ t,t.length<=1000->∀ H,C zBL [.str t] H (.bool (zA3 t)) H) (x:Bool) (t:Bs) (ks:List Nd) (hc:zA3 t=true) (ht:t.length<=1000) (hkl:ks.length<=1000000) (hF:∀ k∈ks,FmH C true k) (H:Heap):EFun C GT zAv [ndV (zAw t ks),.bool x] H (.bool true) H:=by
 have hca:=hC t ht;rw [hc] at hca;have hxv:zCS (zGZ (zAw t ks)) 12 (ks.map ndV):=z7 (zAw t ks);have hlm:(ks.map ndV).length=ks.length:=zoU _;clear hC;refine zH<|sX ?_;refine zAr (fun i:Nat=>[(198,zL i),(196,zGZ (zAw t ks)),(197,zL ks.length)]) (fun i H'=>Old H H'/\i<=ks.length) (fun i=>ks.length-i) 0 rfl ⟨(Old.refl _).push _,by omega⟩ (fun i H1 hi=>?_)
 obtain ⟨hO,hi⟩:=hi;dsimp only;by_cases hlt:i<ks.length
 ·obtain ⟨k,hk⟩:∃ k,ks[i]?=some k:=⟨_,zoO hlt⟩;have hkm:(ks.map ndV)[i]?=some (ndV k):=by rw [zoX,hk];rfl
  have hs:∀ H,C zBn [ndV k,.bool true] H (.bool true) H:=hF k (zoc hk);clear hF;refine sX ?_;refine sSA (ndV k) ?_;refine sX ?_;refine zQ (r:=i+1) rfl tO ?_;refine zAJ (i+1) rfl ⟨(hO.push _).set hO.1 _,by omega⟩ tO
 ·refine sX ?_;exact sRv
end
end Go.AM
