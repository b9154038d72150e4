/- Several texts of mine in one (Rt2, Rt3, Rt4, Rtw, Kd). Own work. -/
import Derived.Test.YtkeblfepjkdleaaGreatDoorGBu2Rt1
import Derived.Test.YtkeblfepjkdleaaGreatDoorGAm30Fp1
import Derived.Test.YtkeblfepjkdleaaGreatDoorGMgcSk0
import Derived.Test.YtkeblfepjkdleaaGreatDoorGRffRfi
import Derived.Test.YtkeblfepjkdleaaGreatDoorGRf5Rf3
import Derived.Test.YtkeblfepjkdleaaGreatDoorAc
set_option maxRecDepth 20000
set_option linter.all false
namespace Go.AM
theorem zUx {c:Int} (h:1<=c/\c<=26):(UInt8.ofNat (64+c.toNat)).toNat=64+c.toNat:=by simp;omega
theorem zWV {c:Int} (h:1<=c/\c<=26):zQj (UInt8.ofNat (64+c.toNat))=true:=by
 unfold zQj;rw [zUx h];simp;omega
theorem zki {c:UInt8} (h:zHE c=true):c≠36/\c≠32:=by refine ⟨?_, ?_⟩ <;> (rintro rfl;revert h;decide)
theorem zgv {c:UInt8} (h:zQj c=true):c≠36/\zHE c=false:=by
 refine ⟨?_, ?_⟩
 ·rintro rfl;revert h;decide
 ·unfold zQj at h;unfold zHE;simp only [zlG,zlV] at h;simp;omega
theorem zIO {r:RefP} (h:okR r):∀ c∈zEA r,zh c=true:=by
 intro c hc;unfold zEA at hc;simp only [zm4,zls] at hc;rcases hc with ((hc|hc)|hc)|hc
 ·split at hc
  ·rw [zls.1 hc];rfl
  ·cases hc
 ·rw [hc];exact zR2 (zWV ⟨h.1,h.2.1⟩)
 ·split at hc
  ·rw [zls.1 hc];rfl
  ·cases hc
 ·exact zKT (zKS _ c hc)
theorem zNl (r:RefP):zEA r≠[]:=by unfold zEA;simp
theorem zFO (c:UInt8) (r:Bs):dollar (c::r)=if c=36 then (true,r) else (false,c::r):=rfl
theorem zR5 {n:Nat}:dollar (zGC n)=(false,zGC n):=by
 cases e:zGC n with
 |nil=>exact absurd e (zQZ n)
 |cons c r=>
  have hc:=zKS n c (by rw [e];simp);rw [zFO,zlD (zki hc).1]
theorem zfd {r:RefP} (h:okR r) (x y:Bool) (col:Int):zd7 x col (y,zGC r.row.toNat)=some ⟨col,r.row,x,y⟩:=by
 have h1:=h.2.2;unfold zd7;simp only;rw [zR1 (n:=r.row.toNat) tO];simp only;rw [zlF tO]
 congr 2
 omega
theorem zKG {r:RefP} (h:okR r):zFG (zEA r)=some r:=by
 obtain ⟨col,row,fc,fr⟩:=r;have hc:=zWV ⟨h.1,h.2.1⟩;have hn:=zgv hc;have ht:=zUx ⟨h.1,h.2.1⟩;have hrow:=fun x y cc=>zfd h x y cc;simp only at hc hn ht hrow;have e:((64+col.toNat:Nat):Int)-64=col:=by have:=h.1;simp only at this;omega
 unfold zFG zEA;cases fc <;> cases fr
 ·simp only [zlj,zl2,zma,zmG,zlO,zFO,zlD hn.1,zTb,hc,zlp,zR5,hrow,ht,e]
 ·simp only [zlj,zl2,zlk,zmG,zl5,zlO,zFO,zlD hn.1,zTb,hc,zlp,hrow,ht,e]
 ·simp only [zlp,zma,zmG,zl5,zl2,zlO,zlj,zFO,zTb,hc,zR5,hrow,ht,e]
 ·simp only [zlp,zmG,zl5,zl2,zFO,zTb,hc,hrow,ht,e]
theorem zZM {r:RefP} (h:okR r):zCQ (zEA r)=none:=by
 have hm:UInt8.ofNat (64+r.col.toNat)∈zEA r:=by unfold zEA;simp
 unfold zCQ;split
 ·rfl
 ·rw [zlD];intro k;have:=zmE.1 k _ hm;rw [(zgv (zWV ⟨h.1,h.2.1⟩)).2] at this;cases this
theorem zcV:zFG zGA=none:=by rfl
theorem zZN:zFG zDc=none:=by rfl
theorem zfe {r:RefP} (h:okR r):zIu (zEA r)=some (zB3 r):=by
 unfold zIu;rw [zZM h];simp only;have h1:zEA r≠zGA:=fun e=>by
  have:=zKG h;rw [e,zcV] at this;cases this
 have h2:zEA r≠zDc:=fun e=>by
  have:=zKG h;rw [e,zZN] at this;cases this
 rw [zlD h1,zlD h2,zKG h];rfl
theorem zff {n:Nat} (h:n<=9223372036854775807):zIu (zGC n)=some (zKP n):=by
 unfold zIu;rw [zR1 h]
theorem zfg (b:Bool):zIu (if b then zGA else zDc)=some (zFC b):=by cases b <;> rfl
theorem zTL {s:Bs} {l a d:Nat} {n:Nd} (ha:a<=s.length) (h:Stop l s a):(P s).ll l n a d=some (n,a):=by
 rw [zVR l n d ha];unfold zOz;cases e:zIK s a with
 |none=>rfl
 |some p=>
  obtain ⟨op,e'⟩:=p;simp only;rw [zlF (h op e' e)]
theorem zUy {s:Bs} {l a d:Nat} {n:Nd} {e:Nat} (ha:a<=s.length) (h:(P s).one a d=some (n,e)):(P s).loose l a d=(P s).ll l n e d:=by
 rw [zJ9 l d ha];unfold zEd;rw [h];rfl
theorem zIP (n:Nd):1<=zf n:=by
 unfold zf;split
 ·exact (zD2 _).1
 ·omega
theorem zQb {s:Bs} {a:Nat} {c:UInt8} {v:Bs} (h:s.drop a=c::v) (hc:c=44\/c=41) (l:Nat):Stop l s a/\tok s a=.sign (a+1) [c]/\Sep (c::v):=by
 have ht:tok s a=.sign (a+1) [c]:=zFA h (by rcases hc with rfl|rfl <;> decide) (by unfold zgu;cases v with
  |nil=>rfl
  |cons d r=>rcases hc with rfl|rfl <;> simp)
 refine ⟨fun op e k=>?_,ht,fun d hd=>?_⟩
 ·unfold zIK at k;rw [ht] at k;rcases hc with rfl|rfl <;> cases k
 ·cases hd;rcases hc with rfl|rfl <;> decide
def Rd (n:Nd):Prop:=∀ (s:Bs) (a d:Nat) (v:Bs),s.drop a=txt n++v->a<=s.length->Sep v->d+need n<=30 ->
 (zf n=9->(P s).one a d=some (n,a+(txt n).length))/\∀ l,l<=zf n->Stop (zf n+1) s (a+(txt n).length)->(P s).loose l a d=(P s).ll l n (a+(txt n).length) d
theorem zKH {n:Nd} (ht:zf n=9) (h:∀ (s:Bs) (a d:Nat) (v:Bs),s.drop a=txt n++v->a<=s.length->Sep v->d+need n<=30->(P s).one a d=some (n,a+(txt n).length)):Rd n:=
 fun s a d v hs ha hv hd=>⟨fun _=>h s a d v hs ha hv hd,fun l _ _=>zUy ha (h s a d v hs ha hv hd)⟩
theorem zWW {n:Nd} (hr:Rd n) (L:Nat) (hL:L<=9) {s:Bs} {a d:Nat} {v:Bs} (h:s.drop a=brk (decide (zf n<L)) (txt n)++v) (ha:a<=s.length) (hv:Sep v) (hd:d+(need n+if zf n<L then 1 else 0)<=30) :
  (L=9->zf n<=9->(P s).one a d=some (n,a+(brk (decide (zf n<L)) (txt n)).length))/\∀ l,l<=L->(zf n<L\/Stop (zf n+1) s (a+(brk (decide (zf n<L)) (txt n)).length)) ->
   (P s).loose l a d=(P s).ll l n (a+(brk (decide (zf n<L)) (txt n)).length) d:=by
 by_cases hb:zf n<L
 ·rw [zlF hb] at hd;have hbt:brk (decide (zf n<L)) (txt n)=40::txt n++[41]:=by rw [zlY hb];rfl
  rw [hbt] at h ⊢;have h1:s.drop a=40::(txt n++41::v):=by rw [h];simp
  obtain ⟨g1,g2⟩:=zCd h1;have hlt:=zTJ h1;have ht:tok s a=.sign (a+1) [40]:=zFA h1 zD_ (by unfold zgu;split <;> simp);have h3:=zFX g2;obtain ⟨st,tk,sp⟩:=zQb h3 (.inr rfl) (zf n+1);obtain ⟨st1,_,_⟩:=zQb h3 (.inr rfl) 1;have hl:=(hr s (a+1) (d+1) (41::v) g2 tO sp tO).2 1 (zIP n) st;have hle:=zQa g2 tO;rw [zTL hle st1] at hl;have hlen:a+(40::txt n++[41]).length=a+1+(txt n).length+1:=by simp;omega
  have hone:(P s).one a d=some (n,a+(40::txt n++[41]).length):=by
   rw [zRL d ha];unfold zB8;rw [ht];simp only;rw [zlD tO,hl];simp only [zmF];rw [tk,hlen];rfl
  exact ⟨fun _ _=>hone,fun l _ _=>zUy ha hone⟩
 ·rw [zlD hb] at hd;have hbt:brk (decide (zf n<L)) (txt n)=txt n:=by rw [zlf hb];rfl
  rw [hbt] at h ⊢;obtain ⟨k1,k2⟩:=hr s a d v h ha hv tO;exact ⟨fun h9 h9'=>k1 tO,fun l hl hs=>k2 l tO (hs.resolve_left hb)⟩
theorem zfh {s:Bs} {a:Nat} {v:Bs} (h:s.drop a=v) (hv:Sep v):s[a]?≠some 40/\s[a]?≠some 58:=by
 have:s[a]?=v.head?:=by rw [<-h,znw]
 rw [this];exact ⟨fun e=>(hv _ e).2.2.1 rfl,fun e=>(hv _ e).2.2.2 rfl⟩
theorem zXh {v:Bs} (hv:Sep v):∀ c,v.head?=some c->zh c=false:=fun c h=>(hv c h).1
theorem zWX {n:Nd} {w:Bs} (ht:zf n=9) (hx:txt n=w) (hne:w≠[]) (hw:∀ c∈w,zh c=true) (ha:zIu w=some n):Rd n:=by
 refine zKH ht fun s a d v hs hal hv _=>?_;rw [hx] at hs ⊢;have htk:=zHJ hs hne hw (zXh hv);have h40:=(zfh (zFX hs) hv).1;rw [zRL d hal];unfold zB8;rw [htk];simp only;rw [zlD fun k=>h40 k.2,ha];rfl
def zfi (n:Nd):Prop:=∀ v,Beg (txt n++v)
def zTM (n:Nd):Prop:=∀ (s:Bs) (a:Nat) (v:Bs),s.drop a=txt n++v->Sep v->zD1 s a=none
theorem zKV {n:Nd} {w u:Bs} (hx:txt n=w++u) (hne:w≠[]) (hw:∀ c∈w,zh c=true) (hu:∀ v,Sep v->∀ c,(u++v).head?=some c->zh c=false/\c≠58):zTM n:=by
 intro s a v hs hv;rw [hx,zlk] at hs;have htk:=zHJ hs hne hw fun c hc=>(hu v hv c hc).1;have h58:s[a+w.length]?≠some 58:=by
  have:s[a+w.length]?=(u++v).head?:=by rw [<-zFX hs,znw]
  rw [this];exact fun e=>(hu v hv _ e).2 rfl
 unfold zD1;rw [htk];simp only;cases zFG w with
 |none=>rfl
 |some r=>simp only;rw [zlD h58]
theorem zQc {n:Nd} (h:∀ (s:Bs) (a:Nat) (v:Bs),s.drop a=txt n++v->Sep v->∀ e t,tok s a≠.word e t):zTM n:=by
 intro s a v hs hv;unfold zD1;split
 ·rename_i e t hk;exact absurd hk (h s a v hs hv e t)
 ·rfl
theorem zMr {w u:Bs} (hne:w≠[]) (hw:∀ c∈w,zh c=true):Beg (w++u):=by
 obtain ⟨c,r,rfl⟩:=zmD hne;exact ⟨c,r++u,rfl,.inl (hw c zS_)⟩
theorem zcW {n:Nd} (h:zfi n) (b:Bool) (v:Bs):Beg (brk b (txt n)++v):=by
 cases b with
 |false=>exact h v
 |true=>exact ⟨40,_,rfl,by simp⟩
theorem zic {s:Bs} {a:Nat} (h:Beg (s.drop a)):∀ e,tok s a≠.sign e [41]:=by
 intro e k;obtain ⟨c,r,hr,hc⟩:=h;have hb:c≠32/\c≠41:=by refine ⟨?_, ?_⟩ <;> (rintro rfl;revert hc;decide)
 rw [zR3 hr hb.1] at k;unfold zBk at k;rw [(zCd hr).1] at k;simp only at k;split at k
 ·cases k
 ·split at k
  ·split at k <;> cases k
  ·split at k
   ·split at k <;> cases k
   ·split at k
    ·split at k
     ·cases k
     ·simp only [Tok.sign.injEq,zmU,znE] at k;exact hb.2 k.2
    ·simp only [Tok.sign.injEq,zmU,znE] at k;exact hb.2 k.2
theorem zXi {r:RefP} (h:okR r) {s:Bs} {a:Nat} {v:Bs} (hs:s.drop a=zEA r++v) (hv:∀ c,v.head?=some c->zh c=false):tok s a=.word (a+(zEA r).length) (zEA r)/\zBk s a=.word (a+(zEA r).length) (zEA r):=
 ⟨zHJ hs (zNl r) (zIO h) hv,zR4 hs (zNl r) (zIO h) hv⟩
theorem zfj {r o:RefP} (hr:okR r) (ho:okR o) {s:Bs} {a:Nat} {v:Bs} (hs:s.drop a=txt (zA2 r o)++v) (hv:Sep v):zD1 s a=some (some (zA2 r o,a+(txt (zA2 r o)).length)):=by
 rw [zQW] at hs ⊢;have hs1:s.drop a=zEA r++(58::(zEA o++v)):=by rw [hs];simp
 obtain ⟨t1,_⟩:=zXi hr hs1 (fun c hc=>by cases hc;rfl);obtain ⟨g1,g2⟩:=zCd (zFX hs1);obtain ⟨_,t2⟩:=zXi ho g2 (zXh hv);unfold zD1;rw [t1];simp only;rw [zKG hr];simp only;rw [zlF g1,t2];simp only;rw [zKG ho];simp only [zlW,zlH,zlE]
 congr 3
 omega
def Kn (x:Bool) (n:Nd):Prop:=(x=true/\∃ r o,n=zA2 r o/\okR r/\okR o)\/(Rd n/\zfi n/\zTM n)
theorem zgw {x:Bool} {n:Nd} (h:Kn x n):zfi n:=by
 rcases h with ⟨_,r,o,rfl,hr,_⟩|⟨_,h,_⟩
 ·intro v;rw [zQW,zlk];exact zMr (zNl r) (zIO hr)
 ·exact h
theorem zUz {l:List Nat} {m:Nat} (h:m∈l):m<=l.foldr max 0:=by
 induction l with
 |nil=>cases h
 |cons x l ih=>
  rw [List.foldr_cons];rcases zmC.1 h with rfl|h
  ·omega
  ·have:=ih h;omega
theorem zU0 (t:Bs) (s:Bs) (d:Nat) (v:Bs):∀ (ks done:List Nd) (a:Nat),ks≠[]->s.drop a=zA1 (ks.map txt)++41::v->a<=s.length->(∀ k∈ks,Kn true k/\d+need k<=30) ->
  (P s).args t done a d=some (zA0 t (done++ks),a+(zA1 (ks.map txt)).length+1)
 |[],_,_,h,_,_,_=>absurd rfl h
 |k::ks,done,a,_,hs,ha,hk=>by
  obtain ⟨hkn,hkd⟩:=hk k zS_;obtain ⟨c,w,hw,hc⟩:∃ (c:UInt8) (w:Bs),s.drop a=txt k++c::w/\((ks=[]/\c=41/\w=v)\/(ks≠[]/\c=44/\w=zA1 (ks.map txt)++41::v)):=by
   cases ks with
   |nil=>exact ⟨41,v,hs,.inl ⟨rfl,rfl,rfl⟩⟩
   |cons k2 ks=>
    refine ⟨44,zA1 ((k2::ks).map txt)++41::v, ?_,.inr ⟨by simp,rfl,rfl⟩⟩;rw [hs];simp only [zlU,zA1,zlk,zl5]
  have hcc:c=44\/c=41:=by rcases hc with ⟨_,h,_⟩|⟨_,h,_⟩ <;> simp [h]
  have h3:=zFX hw;obtain ⟨st,tk,sp⟩:=zQb h3 hcc (zf k+1);obtain ⟨st1,_,_⟩:=zQb h3 hcc 1;have hle:=zQa hw ha;have harg:zFk s (P s) a d=some (k,a+(txt k).length):=by
   unfold zFk;rcases hkn with ⟨_,r,o,rfl,hr,ho⟩|⟨hrd,_,hnb⟩
   ·rw [zfj hr ho hw sp]
   ·rw [hnb s a _ hw sp];simp only;rw [(hrd s a d _ hw ha sp hkd).2 1 (zIP k) st,zTL hle st1]
  rw [zN7 t done d ha];unfold zF0;rw [harg];simp only [zmF];rw [tk];rcases hc with ⟨rfl,rfl,rfl⟩|⟨hne,rfl,rfl⟩
  ·rfl
  ·have hg:=(zCd h3).2;have ih:=zU0 t s d v ks (done++[k]) (a+(txt k).length+1) hne hg (zTJ h3) (fun x hx=>hk x (by simp [hx]));simp only;rw [ih];have hj:(zA1 ((k::ks).map txt)).length=(txt k).length+1+(zA1 (ks.map txt)).length:=by
    cases ks with
    |nil=>exact absurd rfl hne
    |cons k2 ks=>simp only [zlU,zA1,zlH,zlE];omega
   rw [hj,zlk];simp only [zmG]
   congr 2
   omega
theorem zid {t:Bs} {ks:List Nd} (hc:zA8 t=true) (hk:∀ k∈ks,Kn true k):Rd (zA0 t ks)/\zfi (zA0 t ks)/\zTM (zA0 t ks):=by
 have hcap:∀ c∈t,zh c=true:=fun c h=>by
  unfold zA8 at hc;simp only [zlG] at hc;exact zR2 (zmE.1 hc.2 c h)
 have hne:t≠[]:=by
  rintro rfl;revert hc;decide
 refine ⟨zKH rfl fun s a d v hs ha hv hd=>?_,fun v=>?_, ?_⟩
 ·rw [zDH] at hs ⊢;rw [zMp] at hd;have hs1:s.drop a=t++(40::(zA1 (ks.map txt)++41::v)):=by rw [hs];simp
  have tk:=zHJ hs1 hne hcap (fun c h=>by cases h;rfl);obtain ⟨g1,g2⟩:=zCd (zFX hs1);have hlt:=zTJ (zFX hs1);rw [zRL d ha];unfold zB8;rw [tk];simp only;rw [zlF ⟨hc,g1⟩,zlD tO];by_cases h0:ks=[]
  ·subst h0;have g2:s.drop (a+t.length+1)=41::v:=g2;obtain ⟨_,tk2,_⟩:=zQb g2 (.inr rfl) 1;rw [tk2];simp only [zln,zA1,zlH,zlE,zlL]
   all_goals (congr 2 <;> omega)
  ·have hb:Beg (s.drop (a+t.length+1)):=by
    rw [g2];obtain ⟨k,ks',rfl⟩:=zmD h0;cases ks' with
    |nil=>exact zgw (hk k zS_) _
    |cons k2 ks'=>
     simp only [zlU,zA1,zlk];exact zgw (hk k zS_) _
   have h41:=zic hb;split
   ·rename_i e2 hq;exact absurd hq (h41 e2)
   ·rw [zU0 t s (d+1) v ks [] (a+t.length+1) h0 g2 tO (fun k hkm=>⟨hk k hkm,by have:=zUz (zmV (f:=need) hkm);omega⟩)];simp only [zl2,zlH,zlE,zlL]
    congr 2
    omega
 ·rw [zDH,zlk,zlk];exact zMr hne hcap
 ·refine zKV (w:=t) (u:=40::zA1 (ks.map txt)++[41]) (by rw [zDH];simp) hne hcap fun v _ c hc=>?_;cases hc;decide
theorem zcX {op:Nat} (h:1<=op/\op<=11) (v:Bs):Sep (opT op++v):=by
 have k:op=1\/op=2\/op=3\/op=4\/op=5\/op=6\/op=7\/op=8\/op=9\/op=10\/op=11:=by omega
 rcases k with rfl|rfl|rfl|rfl|rfl|rfl|rfl|rfl|rfl|rfl|rfl <;> (intro c hc;cases hc;decide)
theorem zcY (n:Nd):zf n<=9:=by
 unfold zf;split
 ·have:=(zD2 n.num.toNat).2;omega
 ·exact zlK _
theorem zkj {op:Nat} {a b:Nd} (hop:1<=op/\op<=11) (ha:Rd a/\zfi a/\zTM a) (hb:Rd b/\zfi b/\zTM b):Rd (zAr op a b)/\zfi (zAr op a b)/\zTM (zAr op a b):=by
 have h4:=zD2 op;refine ⟨fun s i d v hs hi hv hd=>?_,fun v=>?_,fun s i v hs hv=>?_⟩
 ·rw [zMq];refine ⟨fun h=>by omega,fun l hl hst=>?_⟩;rw [zEg] at hs hst ⊢;rw [zO5] at hd;have hs1:s.drop i=brk (decide (zf a<tight op)) (txt a)++(opT op++(brk (decide (zf b<tight op+1)) (txt b)++v)):=by
   rw [hs,show decide (zf b<tight op+1)=decide (zf b<=tight op) from zmh.2 tO];simp only [zlk]
  have g1:=zFX hs1;have hle1:=zQa hs1 hi;have hop1:=zkh hop g1 (zcW hb.2.1 _ v);have g2:=zFX g1;have hle2:=zQa g1 hle1;have st1:zf a<tight op\/Stop (zf a+1) s (i+(brk (decide (zf a<tight op)) (txt a)).length):=by
   by_cases h:zf a<tight op
   ·exact .inl h
   ·refine .inr fun op' e he=>?_;rw [hop1] at he;cases he;omega
  have hA:=(zWW ha.1 (tight op) tO hs1 hi (zcX hop _) (zmR (Nat.add_le_add_left (Nat.le_max_left _ _) d) hd)).2 l hl st1;have e1:(if zf b<tight op+1 then 1 else 0)=(if zf b<=tight op then 1 else 0):=by
   by_cases h:zf b<=tight op
   ·rw [zlF h,zlF tO]
   ·rw [zlD h,zlD tO]
  have hB0:=zWW (d:=d) hb.1 (tight op+1) tO g2 hle2 hv (by
   rw [e1];exact zmR (Nat.add_le_add_left (Nat.le_max_right _ _) d) hd)
  have hlen:(brk (decide (zf a<tight op)) (txt a)++opT op++brk (decide (zf b<=tight op)) (txt b)).length=(brk (decide (zf a<tight op)) (txt a)).length+(opT op).length+(brk (decide (zf b<tight op+1)) (txt b)).length:=by
   rw [show decide (zf b<tight op+1)=decide (zf b<=tight op) from zmh.2 tO];simp only [zlH]
  rw [hlen] at hst ⊢;generalize (brk (decide (zf a<tight op)) (txt a)).length=la at *;generalize (opT op).length=lo at *;generalize hlb:(brk (decide (zf b<tight op+1)) (txt b)).length=lb at *;have hend:i+(la+lo+lb)=i+la+lo+lb:=by omega
  rw [hend] at hst ⊢;have hle3:=zQa g2 hle2;rw [hlb] at hle3;have stB:zf b<tight op+1\/Stop (zf b+1) s (i+la+lo+lb):=by
   by_cases h:zf b<tight op+1
   ·exact .inl h
   ·refine .inr fun op' e he=>?_;have:=hst op' e he;omega
  have hB:=hB0.2 (tight op+1) (zlK _) stB;rw [zTL hle3 hst] at hB;rw [hA,zVR l a d hle1];unfold zOz;rw [hop1];simp only;rw [zlD tO,hB];rfl
 ·rw [zEg,zlk,zlk];exact zcW ha.2.1 _ _
 ·rw [zEg,zlk,zlk] at hs;by_cases h:zf a<tight op
  ·rw [zlY h] at hs;have h1:s.drop i=40::(txt a++[41]++(opT op++(brk (decide (zf b<=tight op)) (txt b)++v))):=by rw [hs];simp [brk]
   have ht:tok s i=.sign (i+1) [40]:=zFA h1 zD_ (by unfold zgu;split <;> simp);unfold zD1;rw [ht]
  ·rw [zlf h] at hs;exact ha.2.2 s i _ hs (zcX hop _)
theorem zfk {x:Bool} {n:Nd} (h:Wf x n):Kn x n:=by
 induction h with
 |num x n h=>
  refine .inr ⟨zWX rfl (zLY n) (by rw [zlo];exact zQZ n) (fun c hc=>zKT (zKS _ c hc)) (by rw [zlo];exact zff h),fun v=>?_, ?_⟩
  ·rw [zLY];exact zMr (zQZ _) fun c hc=>zKT (zKS _ c hc)
  ·exact zKV (w:=zGC (n:Int).toNat) (u:=[]) (by rw [zLY];simp) (zQZ _) (fun c hc=>zKT (zKS _ c hc)) fun v hv c hc=>⟨(hv c hc).1,(hv c hc).2.2.2⟩
 |txt x t=>
  have tk:∀ (s:Bs) (a:Nat) (v:Bs),s.drop a=Go.AM.txt (zHd t)++v->Sep v->tok s a=.txt (a+(Go.AM.txt (zHd t)).length) t:=fun s a v hs hv=>by
   rw [zLZ] at hs ⊢;exact zWT hs fun e=>(hv _ e).2.1 rfl
  refine .inr ⟨zKH rfl fun s a d v hs ha hv _=>?_,fun v=>⟨34,_,rfl,by simp⟩,zQc fun s a v hs hv e t' k=>?_⟩
  ·rw [zRL d ha];unfold zB8;rw [tk s a v hs hv]
  ·rw [tk s a v hs hv] at k;cases k
 |tru x b=>
  have hw:∀ c∈(if b then zGA else zDc),zh c=true:=by cases b <;> decide
  have hne:(if b then zGA else zDc)≠[]:=by cases b <;> decide
  refine .inr ⟨zWX (by cases b <;> rfl) (zLa b) hne hw (zfg b),fun v=>?_, ?_⟩
  ·rw [zLa];exact zMr hne hw
  ·exact zKV (u:=[]) (by rw [zLa,zma]) hne hw fun v hv c hc=>⟨(hv c hc).1,(hv c hc).2.2.2⟩
 |bad x k h=>
  have tk:∀ (s:Bs) (a:Nat) (v:Bs),s.drop a=Go.AM.txt (zHg k)++v->tok s a=.bad (a+(Go.AM.txt (zHg k)).length) k:=fun s a v hs=>by
   rw [zQV] at hs ⊢;exact zWU h hs
  refine .inr ⟨zKH rfl fun s a d v hs ha hv _=>?_,fun v=>?_,zQc fun s a v hs hv e t' q=>?_⟩
  ·rw [zRL d ha];unfold zB8;rw [tk s a v hs]
  ·rw [zQV];have:k=1\/k=2\/k=3\/k=4\/k=5\/k=6:=by omega
   rcases this with rfl|rfl|rfl|rfl|rfl|rfl <;> exact ⟨35,_,rfl,by simp⟩
  ·rw [tk s a v hs] at q;cases q
 |ref x r h=>
  refine .inr ⟨zWX rfl (zI2 r) (zNl r) (zIO h) (zfe h),fun v=>?_, ?_⟩
  ·rw [zI2];exact zMr (zNl r) (zIO h)
  ·exact zKV (u:=[]) (by rw [zI2,zma]) (zNl r) (zIO h) fun v hv c hc=>⟨(hv c hc).1,(hv c hc).2.2.2⟩
 |box r o h k=>exact .inl ⟨rfl,r,o,rfl,h,k⟩
 |neg x n h ih=>
  have ih:Rd n/\zfi n/\zTM n:=by
   rcases ih with ⟨h,_⟩|ih
   ·cases h
   ·exact ih
  have tk:∀ (s:Bs) (a:Nat) (v:Bs),s.drop a=Go.AM.txt (zDO n)++v->tok s a=.sign (a+1) [45]/\s.drop (a+1)=brk (decide (zf n<9)) (Go.AM.txt n)++v/\a<s.length:=fun s a v hs=>by
   rw [zE9,zl5] at hs;exact ⟨zFA hs zD_ (by unfold zgu;split <;> simp),(zCd hs).2,zTJ hs⟩
  refine .inr ⟨zKH rfl fun s a d v hs ha hv hd=>?_,fun v=>⟨45,_,rfl,by simp⟩,zQc fun s a v hs hv e t' q=>?_⟩
  ·obtain ⟨t1,t2,t3⟩:=tk s a v hs;rw [zO4] at hd;have hu:=(zWW (d:=d+1) ih.1 9 (zlK _) t2 tO hv tO).1 rfl (zcY n);rw [zRL d ha];unfold zB8;rw [t1];simp only;rw [zlD tO,hu];simp only [zlW,zE9,zlE]
   congr 2
   omega
  ·rw [(tk s a v hs).1] at q;cases q
 |two x op a b h ha hb iha ihb=>
  refine .inr (zkj h ?_ ?_)
  ·rcases iha with ⟨h,_⟩|ih
   ·cases h
   ·exact ih
  ·rcases ihb with ⟨h,_⟩|ih
   ·cases h
   ·exact ih
 |call x t ks h hk ih=>exact .inr (zid h ih)
theorem zU1 {n:Nd} (h:Wf false n) (hd:need n<=30) (hl:(txt n).length<=199):zAn (61::txt n)=some n:=by
 have hk:Rd n/\zfi n/\zTM n:=by
  rcases zfk h with ⟨h,_⟩|h
  ·cases h
  ·exact h
 have hs:(61::txt n).drop 1=txt n++[]:=by simp
 have hf:=zfb (zFX hs);have hst:∀ l,Stop l (61::txt n) (1+(txt n).length):=fun l op e k=>by
  unfold zIK at k;rw [hf] at k;cases k
 have h1:=(hk.1 (61::txt n) 1 0 [] hs zS_ (fun c hc=>by cases hc) tO).2 1 (zIP n) (hst _);rw [zTL (by simp only [zlE];omega) (hst 1)] at h1;unfold zAn;rw [zlF ⟨by simp only [zlE];omega,rfl⟩,h1];simp only [zmF];rw [hf]
theorem zTN:∀ (l:Bs) (i:Nat) (t:Bs) (e:Nat),quo l i=some (t,e)->i+(esc t).length+1<=e
 |[],_,_,_,h=>by simp [quo] at h
 |[c],i,t,e,h=>by
  simp only [quo] at h;split at h
  ·simp only [zlJ,zlT] at h;obtain ⟨rfl,rfl⟩:=h;simp [esc]
  ·cases h
 |c::d::r,i,t,e,h=>by
  simp only [quo] at h;split at h
  ·split at h
   ·rw [zlN] at h;obtain ⟨⟨t',e'⟩,h1,h2⟩:=h;simp only [zlT] at h2;obtain ⟨rfl,rfl⟩:=h2;have:=zTN r (i+2) t' e' h1;simp only [esc,zlp,zlE];omega
   ·simp only [zlJ,zlT] at h;obtain ⟨rfl,rfl⟩:=h;simp [esc]
  ·rename_i hc;rw [zlN] at h;obtain ⟨⟨t',e'⟩,h1,h2⟩:=h;simp only [zlT] at h2;obtain ⟨rfl,rfl⟩:=h2;have:=zTN (d::r) (i+1) t' e' h1;simp only [esc,zlD hc,zlE];omega
theorem zcZ:∀ (l:Bs) (ts:List Bs) (k:Nat) (p:Nat×Nat),zK1 l ts k=some p->k<=p.1/\p.1<k+ts.length/\p.2=(ts.getD (p.1-k) []).length
 |_,[],_,_,h=>by simp [zK1] at h
 |l,t::ts,k,p,h=>by
  simp only [zK1] at h;split at h
  ·simp only [zlJ] at h;subst h;simp
  ·obtain ⟨h1,h2,h3⟩:=zcZ l ts (k+1) p h;refine ⟨by omega,by simp only [zlE];omega, ?_⟩;rw [h3];obtain ⟨j,hj⟩:∃ j,p.1-k=j+1:=⟨p.1-k-1,by omega⟩;rw [hj,show p.1-(k+1)=j by omega];rfl
def Tok.wants:Tok->Nat
 |.word _ t=>t.length
 |.txt _ t=>(34::esc t++[34]).length
 |.bad _ k=>(wrongs.getD (k-1) []).length
 |.sign _ t=>t.length
 |_=>0
def Tok.upTo (a:Nat):Tok->Prop
 |.word e t=>a+t.length<=e
 |.txt e t=>a+(34::esc t++[34]).length<=e
 |.bad e k=>a+(wrongs.getD (k-1) []).length<=e/\1<=k/\k<=6
 |.sign e t=>a+t.length<=e
 |_=>True
theorem zR6 (s:Bs) (a:Nat):(zBk s a).upTo a:=by
 unfold zBk;cases e:s[a]? with
 |none=>trivial
 |some c=>
  simp only;split
  ·have:=zLU s a;show a+(sub s a (zDI s a)).length<=zDI s a;unfold sub;rw [zla];omega
  ·split
   ·split
    ·rename_i t e' hq;have:=zTN _ _ _ _ hq;show a+(34::esc t++[34]).length<=e';simp only [zlH,zlE,zlL];omega
    ·trivial
   ·split
    ·split
     ·rename_i k n hb;obtain ⟨h1,h2,h3⟩:=zcZ _ _ _ _ hb;simp only at h1 h2 h3;refine ⟨?_,h1, ?_⟩
      ·rw [h3];exact zlK _
      ·have:wrongs.length=6:=rfl;omega
     ·trivial
    ·split
     ·split <;> exact zlK _
     ·exact zlK _
theorem zKW (s:Bs) (a:Nat):(tok s a).upTo a:=by
 have h:=zR6 s (skip s a);have h2:=zFt s a;unfold tok;revert h;cases zBk s (skip s a) <;> simp only [Tok.upTo] <;> first|exact fun _=>trivial|(intro h;omega)
theorem zfl (l:Bs) (h:∀ c∈l,zHE c=true):zDp l<10^l.length:=by
 have gen:∀ (l:Bs) (x:Nat),(∀ c∈l,zHE c=true)->l.foldl (fun n c=>n*10+(c.toNat-48)) x<(x+1)*10^l.length:=by
  intro l;induction l with
  |nil=>intro x _;simp
  |cons c l ih=>
   intro x h;have hc:=h c zS_;unfold zHE at hc;simp only [zlG,zlV] at hc;rw [znf,zlE,zmI];refine zl4 (ih _ fun d hd=>h d (by simp [hd])) ?_;rw [zmZ (10^l.length) 10,<-Nat.mul_assoc];exact zl1 _ tO
 have:=gen l 0 h;simpa [zDp] using this
theorem zXj {t:Bs} {v:Int} (h:zCQ t=some v):∃ n:Nat,v=n/\n<=9223372036854775807/\(zGC n).length<=t.length/\t≠[]:=by
 unfold zCQ at h;split at h
 ·cases h
 ·rename_i h0;split at h
  ·rename_i hd;split at h
   ·rename_i hm;cases h;have hne:t≠[]:=fun e=>h0 (.inl e);refine ⟨_,rfl,hm, ?_,hne⟩;have hl:1<=t.length:=by
     cases t with
     |nil=>exact absurd rfl hne
     |cons _ _=>simp
    unfold zGC;split
    ·simpa using hl
    ·rw [zmx];exact zTH _ _ (zfl t (zmE.1 hd))
   ·cases h
  ·cases h
theorem zR7 (t:Bs):(dollar t).2.length+(if (dollar t).1 then 1 else 0)=t.length:=by
 cases t with
 |nil=>rfl
 |cons c r=>
  rw [zFO];split <;> simp
theorem zWY {t:Bs} {r:RefP} (h:zFG t=some r):okR r/\(zEA r).length<=t.length:=by
 have hd:=zR7 t;unfold zFG zTb at h;generalize dollar t=p at h hd;obtain ⟨fc,u⟩:=p;simp only at h hd;cases u with
 |nil=>cases h
 |cons c u=>
  simp only at h;split at h
  ·rename_i hc;have hd2:=zR7 u;generalize dollar u=p2 at h hd2;obtain ⟨fr,w⟩:=p2;unfold zd7 at h;simp only at h hd2;cases hw:zCQ w with
   |none=>rw [hw] at h;cases h
   |some v=>
    rw [hw] at h;simp only at h;split at h
    ·rename_i hv;cases h;obtain ⟨n,rfl,_,hn,_⟩:=zXj hw;unfold zQj at hc;simp only [zlG,zlV] at hc;refine ⟨⟨by simp only;omega,by simp only;omega,by simp only;omega,by simp only;omega⟩, ?_⟩;unfold zEA;simp only [zlH,zmQ,zlo];simp only [zlE] at hd;have e1:(if fc=true then [36] else ([]:Bs)).length=if fc=true then 1 else 0:=by cases fc <;> rfl
     have e2:(if fr=true then [36] else ([]:Bs)).length=if fr=true then 1 else 0:=by cases fr <;> rfl
     rw [e1,e2];omega
    ·cases h
  ·cases h
theorem zie {t:Bs} {n:Nd} (h:zIu t=some n):Wf false n/\zf n=9/\need n=0/\(txt n).length<=t.length:=by
 unfold zIu at h;cases hw:zCQ t with
 |some v=>
  rw [hw] at h;cases h;obtain ⟨n,rfl,h1,h2,_⟩:=zXj hw;exact ⟨.num _ n h1,rfl,rfl,by rw [zLY,zlo];exact h2⟩
 |none=>
  rw [hw] at h;simp only at h;split at h
  ·rename_i e;cases h;exact ⟨.tru _ _,rfl,rfl,by rw [zLa,e];exact zlK _⟩
  ·split at h
   ·rename_i e;cases h;exact ⟨.tru _ _,rfl,rfl,by rw [zLa,e];exact zlK _⟩
   ·obtain ⟨r,hr,rfl⟩:=zlN.1 h;obtain ⟨h1,h2⟩:=zWY hr;exact ⟨.ref _ r h1,rfl,rfl,by rw [zI2];exact h2⟩
theorem zif {t:Bs} {op:Nat} (h:zCE t=op) (h0:op≠0):1<=op/\op<=11/\(opT op).length=t.length:=by
 unfold zCE at h;subst h;revert h0
 repeat' split
 all_goals first|(rename_i e;subst e;intro _;decide)|(intro h;exact absurd rfl h)
theorem zfm {s:Bs} {a op e:Nat} (h:zIK s a=some (op,e)):1<=op/\op<=11/\a+(opT op).length<=e:=by
 have ht:=zKW s a;unfold zIK at h;split at h
 ·rename_i e' t hk;rw [hk] at ht;split at h
  ·cases h
  ·rename_i h0;simp only [zlJ,zlT] at h;obtain ⟨rfl,rfl⟩:=h;obtain ⟨h1,h2,h3⟩:=zif rfl h0;exact ⟨h1,h2,by rw [h3];exact ht⟩
 ·cases h
theorem zBl (b:Bool) (t:Bs):(brk b t).length=t.length+if b then 2 else 0:=by cases b <;> simp [brk]
def Fit (l d a e:Nat) (n:Nd):Prop:=a+(txt n).length+(if zf n<l then 2 else 0)<=e/\d+need n+(if zf n<l then 1 else 0)<=30
theorem Fit.mono {l l' d a e:Nat} {n:Nd} (h:Fit l d a e n) (hl:l'<=l):Fit l' d a e n:=by
 unfold Fit at *;by_cases h1:zf n<l'
 ·rw [zlF h1,zlF h1];rw [zlF tO,zlF tO] at h;exact h
 ·rw [zlD h1,zlD h1];refine ⟨by have:=h.1;omega,by have:=h.2;omega⟩
theorem Fit.end {l d a e e':Nat} {n:Nd} (h:Fit l d a e n) (he:e<=e'):Fit l d a e' n:=⟨by have:=h.1;omega,h.2⟩
theorem zca {op d a0 a e e':Nat} {x y:Nd} (hx:Fit (tight op) d a0 a x) (ho:a+(opT op).length<=e) (hy:Fit (tight op+1) d e e' y) (l:Nat) (hl:l<=tight op):Fit l d a0 e' (zAr op x y):=by
 unfold Fit;rw [zMq,zlD tO,zlD tO,zEg,zO5];simp only [zlH,zBl];have e1:decide (zf y<=tight op)=decide (zf y<tight op+1):=zmh.2 tO;have e2:(if zf y<=tight op then 1 else 0)=(if zf y<tight op+1 then 1 else 0):=by
  by_cases h:zf y<=tight op
  ·rw [zlF h,zlF tO]
  ·rw [zlD h,zlD tO]
 rw [e1,e2];obtain ⟨h1,h2⟩:=hx;obtain ⟨h3,h4⟩:=hy;simp only [zlV];refine ⟨?_, ?_⟩
 ·generalize (if zf x<tight op then 2 else 0)=i at *;generalize (if zf y<tight op+1 then 2 else 0)=j at *;omega
 ·generalize (if zf x<tight op then 1 else 0)=i at *;generalize (if zf y<tight op+1 then 1 else 0)=j at *;omega
structure Snd (s:Bs) (q:Ps):Prop where
 one:∀ a d n e,a<=s.length->d<=30->q.one a d=some (n,e)->Wf false n/\Fit 9 d a e n
 loose:∀ l a d n e,a<=s.length->d<=30->q.loose l a d=some (n,e)->l<=9->Wf false n/\Fit l d a e n/\Stop l s e
 ll:∀ l n0 a0 a d n e,a<=s.length->d<=30->q.ll l n0 a d=some (n,e)->l<=9->Wf false n0->Fit l d a0 a n0->(∀ op o,zIK s a=some (op,o)->Fit (tight op) d a0 a n0)->Wf false n/\Fit l d a0 e n/\Stop l s e
 args:∀ t ks a0 a d n e,a<=s.length->d<=30->q.args t ks a d=some (n,e)->(∀ k∈ks,Wf true k/\d+need k<=30)->a0+(ks.map fun k=>(txt k).length+1).sum<=a ->
  ∃ ks',n=zA0 t ks'/\ks'≠[]/\(∀ k∈ks',Wf true k/\d+need k<=30)/\a0+(ks'.map fun k=>(txt k).length+1).sum<=e
theorem zfn {s:Bs} {a:Nat} {n:Nd} {e:Nat} (h:zD1 s a=some (some (n,e))):∃ r o,n=zA2 r o/\okR r/\okR o/\a+(txt n).length<=e:=by
 have ht:=zKW s a;unfold zD1 at h;split at h
 ·rename_i e1 t hk;rw [hk] at ht;split at h
  ·rename_i r hr;split at h
   ·have h2:=zR6 s (e1+1);split at h
    ·rename_i e2 t2 hk2;rw [hk2] at h2;simp only [zlJ,zlN] at h;obtain ⟨r2,hr2,hp⟩:=h;simp only [zlT] at hp;obtain ⟨rfl,rfl⟩:=hp;obtain ⟨k1,k2⟩:=zWY hr;obtain ⟨k3,k4⟩:=zWY hr2;refine ⟨r,r2,rfl,k1,k3, ?_⟩;rw [zQW];simp only [zlH,zlE];simp only [Tok.upTo] at ht h2;omega
    ·cases h
   ·cases h
  ·cases h
 ·cases h
theorem zU2:∀ (ts:List Bs),ts≠[]->(zA1 ts).length+1=(ts.map fun t=>t.length+1).sum
 |[],h=>absurd rfl h
 |[t],_=>by simp [zA1]
 |t::u::r,_=>by
  have:=zU2 (u::r) zS_;simp only [zA1,zlH,zlE,zlU,List.sum_cons] at this ⊢;omega
theorem zfo {l:List Nat} {b:Nat} (h:∀ m∈l,m<=b):l.foldr max 0<=b:=by
 induction l with
 |nil=>exact zl6 _
 |cons x l ih=>
  rw [List.foldr_cons];have:=h x zS_;have:=ih fun m hm=>h m (by simp [hm]);omega
theorem zig {n:Nd} (h:Wf false n):Wf true n:=by
 cases h with
 |num _ n h=>exact .num _ n h
 |txt _ t=>exact .txt _ t
 |tru _ b=>exact .tru _ b
 |bad _ k h=>exact .bad _ k h
 |ref _ r h=>exact .ref _ r h
 |neg _ n h=>exact .neg _ n h
 |two _ op a b h ha hb=>exact .two _ op a b h ha hb
 |call _ t ks h hk=>exact .call _ t ks h hk
theorem zih {s:Bs} {q:Ps} (hq:Snd s q) (he:Ends s q) (a d:Nat) (n:Nd) (e:Nat) (ha:a<=s.length) (hd:d<=30) (h:zB8 s q a d=some (n,e)):Wf false n/\Fit 9 d a e n:=by
 have ht:=zKW s a;have hn:=zB7 s a;unfold zB8 at h;split at h
 ·rename_i e1 t hk;rw [hk] at ht hn;simp only [Tok.upTo] at ht;simp only [Tok.endsBy] at hn;split at h
  ·rename_i hc;have hlt:=(zg hc.2).1;split at h
   ·cases h
   ·rename_i h30;have fin:∀ (ks:List Nd) (e:Nat),(∀ k∈ks,Wf true k/\d+1+need k<=30)->a+t.length+1+(zA1 (ks.map txt)).length+1<=e->Wf false (zA0 t ks)/\Fit 9 d a e (zA0 t ks):=fun ks e hk hl=>by
     refine ⟨.call _ t ks hc.1 fun k h=>(hk k h).1, ?_⟩;unfold Fit;have e9:zf (zA0 t ks)=9:=rfl;rw [e9,zlD tO,zlD tO,zDH,zMp];simp only [zlH,zlE,zlL];have hm:(ks.map need).foldr max 0<=29-d:=zfo fun m hm=>by
      obtain ⟨k,hkm,rfl⟩:=zmn.1 hm;have:=(hk k hkm).2;omega
     omega
    split at h
    ·rename_i e2 hk2;have h2:=zKW s (e1+1);rw [hk2] at h2;simp only [Tok.upTo,zmQ] at h2;cases h;exact fin [] _ zS_ (by simp only [zln,zA1,zlL];omega)
    ·obtain ⟨ks',rfl,hne,hk',hl⟩:=hq.args t [] (e1+1) (e1+1) (d+1) n e tO tO h zS_ zS_;refine fin ks' e hk' ?_;have:=zU2 (ks'.map txt) (by simpa using hne);rw [zm5] at this;have e3:(ks'.map ((fun t=>t.length+1) ∘ txt)).sum=(ks'.map fun k=>(txt k).length+1).sum:=rfl;rw [e3] at this;omega
  ·obtain ⟨m,hm,hp⟩:=zlN.1 h;cases hp;obtain ⟨h1,h2,h3,h4⟩:=zie hm;exact ⟨h1,by unfold Fit;rw [h2,h3,zlD tO,zlD tO];omega⟩
 ·rename_i e1 t hk;rw [hk] at ht;cases h;exact ⟨.txt _ t,by
   unfold Fit;have e9:zf (zHd t)=9:=rfl;have e0:need (zHd t)=0:=rfl;rw [e9,e0,zlD tO,zlD tO,zLZ];exact ⟨ht,by omega⟩⟩
 ·rename_i e1 k hk;rw [hk] at ht;cases h;obtain ⟨h1,h2,h3⟩:=ht;exact ⟨.bad _ k ⟨h2,h3⟩,by
   unfold Fit;have e9:zf (zHg k)=9:=rfl;have e0:need (zHg k)=0:=rfl;rw [e9,e0,zlD tO,zlD tO,zQV];exact ⟨h1,by omega⟩⟩
 ·rename_i e1 hk;rw [hk] at ht hn;simp only [Tok.upTo,zmQ] at ht;simp only [Tok.endsBy] at hn;split at h
  ·cases h
  ·obtain ⟨⟨m,e2⟩,hm,hp⟩:=zlN.1 h;cases hp;obtain ⟨h1,h2⟩:=hq.one e1 (d+1) m e2 tO tO hm;refine ⟨.neg _ m h1, ?_⟩;obtain ⟨h3,h4⟩:=h2;unfold Fit;have e9:zf (zDO m)=9:=rfl;rw [e9,zlD tO,zlD tO,zE9,zO4];simp only [zlE,zBl,zlV];generalize (if zf m<9 then 2 else 0)=i at *;generalize (if zf m<9 then 1 else 0)=j at *;omega
 ·rename_i e1 hk;rw [hk] at ht hn;simp only [Tok.upTo,zmQ] at ht;simp only [Tok.endsBy] at hn;split at h
  ·cases h
  ·rename_i h30;obtain ⟨⟨m,e2⟩,hm,hp⟩:=zlq.1 h;have hend:=he.loose 1 e1 (d+1) (m,e2) tO hm;obtain ⟨h1,h2,_⟩:=hq.loose 1 e1 (d+1) m e2 tO tO hm tO;have ht2:=zKW s e2;simp only at hp;split at hp
   ·rename_i e3 hk3;rw [hk3] at ht2;simp only [Tok.upTo,zmQ] at ht2;cases hp;refine ⟨h1, ?_⟩;obtain ⟨h3,h4⟩:=h2;have h5:=zIP n;rw [zlD tO] at h3 h4;unfold Fit;by_cases h9:zf n<9
    ·rw [zlF h9,zlF h9];omega
    ·rw [zlD h9,zlD h9];omega
   ·cases hp
 ·cases h
theorem zkk {s:Bs} {q:Ps} (hq:Snd s q) (he:Ends s q) (l:Nat) (n0:Nd) (a0 a d:Nat) (n:Nd) (e:Nat) (ha:a<=s.length) (hd:d<=30) (h:zOz s q l n0 a d=some (n,e)) (hl:l<=9) (hw:Wf false n0) (hf:Fit l d a0 a n0) (ho:∀ op o,zIK s a=some (op,o)->Fit (tight op) d a0 a n0):Wf false n/\Fit l d a0 e n/\Stop l s e:=by
 unfold zOz at h;cases hop:zIK s a with
 |none=>
  rw [hop] at h;cases h;exact ⟨hw,hf,fun op o k=>by rw [hop] at k;cases k⟩
 |some p=>
  obtain ⟨op,o⟩:=p;rw [hop] at h;simp only at h;split at h
  ·rename_i hlt;cases h;exact ⟨hw,hf,fun op' o' k=>by rw [hop] at k;cases k;exact hlt⟩
  ·rename_i hge;obtain ⟨⟨y,e1⟩,hy,hr⟩:=zlq.1 h;obtain ⟨k1,k2,k3⟩:=zfm hop;have h4:=zD2 op;have hoe:=zDn hop;obtain ⟨w1,w2,w3⟩:=hq.loose _ o d y e1 hoe.2 hd hy tO;have hend:=he.loose _ o d (y,e1) hoe.2 hy;simp only at hend hr;exact hq.ll l _ a0 e1 d n e hend.2 hd hr hl (.two _ op n0 y ⟨k1,k2⟩ hw w1) (zca (ho op o hop) k3 w2 l tO) fun op' o' h'=>zca (ho op o hop) k3 w2 _ (by have:=w3 op' o' h';omega)
theorem zcb {s:Bs} {q:Ps} (hq:Snd s q) (he:Ends s q) (l a d:Nat) (n:Nd) (e:Nat) (ha:a<=s.length) (hd:d<=30) (h:zEd q l a d=some (n,e)) (hl:l<=9):Wf false n/\Fit l d a e n/\Stop l s e:=by
 unfold zEd at h;obtain ⟨⟨m,e1⟩,hm,hr⟩:=zlq.1 h;obtain ⟨h1,h2⟩:=hq.one a d m e1 ha hd hm;have hend:=he.one a d (m,e1) ha hm;simp only at hend hr;exact hq.ll l m a e1 d n e hend.2 hd hr hl h1 (h2.mono hl) fun op o _=>h2.mono (by have:=(zD2 op).2;omega)
theorem zfp {s:Bs} {q:Ps} (hq:Snd s q) (he:Ends s q) (t:Bs) (ks:List Nd) (a0 a d:Nat) (n:Nd) (e:Nat) (ha:a<=s.length) (hd:d<=30) (h:zF0 s q t ks a d=some (n,e)) (hk:∀ k∈ks,Wf true k/\d+need k<=30) (hl:a0+(ks.map fun k=>(txt k).length+1).sum<=a) :
  ∃ ks',n=zA0 t ks'/\ks'≠[]/\(∀ k∈ks',Wf true k/\d+need k<=30)/\a0+(ks'.map fun k=>(txt k).length+1).sum<=e:=by
 unfold zF0 at h;obtain ⟨⟨m,e1⟩,hm,hr⟩:=zlq.1 h;have hend:=zIL he a d (m,e1) ha hm;have ham:Wf true m/\d+need m<=30/\a+(txt m).length<=e1:=by
  unfold zFk at hm;cases hb:zD1 s a with
  |none=>
   rw [hb] at hm;obtain ⟨h1,h2,_⟩:=hq.loose 1 a d m e1 ha hd hm tO;obtain ⟨h3,h4⟩:=h2;have h5:=zIP m;rw [zlD tO] at h3 h4;exact ⟨zig h1,by omega,by omega⟩
  |some r=>
   rw [hb] at hm;simp only at hm;subst hm;obtain ⟨r,o,rfl,h1,h2,h3⟩:=zfn hb;exact ⟨.box r o h1 h2,by have:need (zA2 r o)=0:=rfl;omega,h3⟩
 have hk2:∀ k∈ks++[m],Wf true k/\d+need k<=30:=fun k h=>by
  rcases zm4.1 h with h|h
  ·exact hk k h
  ·rw [zls.1 h];exact ⟨ham.1,ham.2.1⟩
 have hsum:((ks++[m]).map fun k=>(txt k).length+1).sum=(ks.map fun k=>(txt k).length+1).sum+((txt m).length+1):=by simp
 have ht:=zKW s e1;have hn:=zB7 s e1;simp only at hr hend;split at hr
 ·rename_i e2 hk3;rw [hk3] at ht hn;simp only [Tok.upTo,zmQ] at ht;simp only [Tok.endsBy] at hn;exact hq.args t (ks++[m]) a0 e2 d n e tO hd hr hk2 (by rw [hsum];omega)
 ·rename_i e2 hk3;rw [hk3] at ht;simp only [Tok.upTo,zmQ] at ht;cases hr;exact ⟨ks++[m],rfl,by simp,hk2,by rw [hsum];omega⟩
 ·cases hr
theorem zU3 (s:Bs):∀ N,Snd s (ps s N)
 |0=>⟨fun _ _ _ _ _ _ h=>(by cases h),fun _ _ _ _ _ _ _ h=>(by cases h),fun _ _ _ _ _ _ _ _ _ h=>(by cases h),fun _ _ _ _ _ _ _ _ _ h=>(by cases h)⟩
 |N+1=>⟨fun a d n e=>zih (zU3 s N) (zLV s N) a d n e,fun l a d n e=>zcb (zU3 s N) (zLV s N) l a d n e,fun l n0 a0 a d n e=>zkk (zU3 s N) (zLV s N) l n0 a0 a d n e,fun t ks a0 a d n e=>zfp (zU3 s N) (zLV s N) t ks a0 a d n e⟩
theorem zfq {s:Bs} {n:Nd} (h:zAn s=some n):Wf false n/\need n<=30/\(txt n).length+1<=s.length:=by
 unfold zAn at h;split at h
 ·rename_i h0;obtain ⟨⟨m,e⟩,hm,hr⟩:=zlq.1 h;have h1:1<=s.length:=by
   cases s with
   |nil=>cases h0.2
   |cons _ _=>simp
  have hend:=(zDA s).loose 1 1 0 (m,e) h1 hm;obtain ⟨w,f,_⟩:=(zU3 s _).loose 1 1 0 m e h1 tO hm tO;simp only at hr;split at hr
  ·cases hr;obtain ⟨f1,f2⟩:=f;have:=zIP n;rw [zlD tO] at f1 f2;simp only at hend;exact ⟨w,by omega,by omega⟩
  ·cases hr
 ·cases h
theorem sRetW {F:AF} {H H1 H2 H':Heap} {fr:Fr} {v0 v:AV} (hk:F.keep=false) (hr:(zBh fr H1 F.results).map tupled=some v0) (hf:zEM H.length v0 H1=some (v,H2)) (hb:v.bel H.length=true) (ho:zXw H H2) (hH:H'=H2.take H.length):retP F H fr H1 v H':=by
 refine zgd ?_;unfold zHj;cases hs:zBh fr H1 F.results with
 |none=>rw [hs] at hr;cases hr
 |some vs=>
  rw [hs] at hr;simp only [zlW,zlJ] at hr;subst hr;simp only [hk,hf,zlO,zlj];exact ⟨hb,ho,trivial,hH⟩
theorem zcc {n0 b k off len:Nat} {q:Option Bool} {H:Heap} (h:b<n0):zEM n0 (.sl q b k off len) H=some (.sl q b k off len,H):=by simp only [zEM];rw [zlF h]
theorem zU4 {n:Nat} {v v' y:AV} {H H':Heap} (h:zEM n v H=some (v',H')) (hy:∀ H,zEM n y H=some (y,H)):zEM n (.tup [v,y]) H=some (.tup [v',y],H'):=by
 simp only [zEM,zLg,h,hy]
theorem zfr (n k:Nat) (xs:List AV):(AV.tup [zQi k xs,.nili]).bel n=true:=by simp [AV.bel,AV.belL,zSS]
section
variable {C:CSpec} {GT:zG_}
def zGw (n:Nd):AV:=.lst (some n.kq) n.kk (kxs n)
theorem zAE (n:Nd):zDe (zGw n) 12 (n.kids.map ndV):=by
 obtain ⟨k,m,t,r,o,ks⟩:=n;unfold zGw;cases ks with
 |nil=>exact ⟨_,_,rfl,.inr rfl⟩
 |cons x ks=>exact ⟨_,12,by show AV.lst (some false) 12 (zd6 (x::ks))=_;rw [zKO];rfl,.inl rfl⟩
theorem zGD:∀ (ts:List Bs),ts.length<=(zA1 ts).length+1/\∀ t∈ts,t.length<=(zA1 ts).length
 |[]=>⟨by simp,by simp⟩
 |[t]=>⟨by simp,by simp [zA1]⟩
 |t::u::r=>by
  obtain ⟨h1,h2⟩:=zGD (u::r);simp only [zA1,zlH,zlE] at h1 ⊢;refine ⟨by omega,fun x hx=>?_⟩;rcases zmC.1 hx with rfl|hx
  ·omega
  ·have:=h2 x hx;omega
def zWZ (row:Bool):Nat:=if row then 1 else 0
theorem zfs (b:Nat) (row:Bool) (cs:List AV) (H:Heap) (hb:H[b]?=some (.box cs)):EFun C GT zN0 [.ref b 0 0 0,.bool row] H (.ref b 0 0 (zWZ row)) H:=by
 have hbl:=(zl_ hb);refine zJ ?_;cases row with
 |true=>
  refine sX ?_;exact zAv rfl rfl rfl (by simp [AV.bel,hbl]) hO
 |false=>
  refine sX ?_;exact zAv rfl rfl rfl (by simp [AV.bel,hbl]) hO
theorem zii (row:Bool) (a m:Int) (H:Heap):EFun C GT zPb [.bool row,zH a,zH m] H (.bool (decide (1<=a/\a<=(if row then 99 else 26)/\0<=m/\m<=(if row then 99 else 26)))) H:=by
 refine zJ ?_;cases row with
 |true=>
  by_cases h1:1<=a
  ·by_cases h2:a<=99
   ·by_cases h3:0<=m
    ·by_cases h4:m<=99
     ·rw [tT (by simp;omega)];refine zE<|zn (tT)<|zE<|zn (tT)<|zE<|zn (tT)<|sX ?_
      exact zHO (v0:=.bool (decide (m<=99))) (by rw [zlY h4]) rfl rfl rfl rfl hO
     ·rw [tF (by simp;omega)];refine zE<|zn (tT)<|zE<|zn (tT)<|zE<|zn (tT)<|sX ?_
      exact zHO (v0:=.bool (decide (m<=99))) (by rw [zlf h4]) rfl rfl rfl rfl hO
    ·rw [tF (by simp;omega)];refine zE<|zn (tT)<|zE<|zn (tT)<|zE<|zi (tF)<|sX ?_
     exact sRv
   ·rw [tF (by simp;omega)];refine zE<|zn (tT)<|zE<|zi (tF)<|sX ?_
    exact sRv
  ·rw [tF (by simp;omega)];refine zE<|zi (tF)<|sX ?_
   exact sRv
 |false=>
  by_cases h1:1<=a
  ·by_cases h2:a<=26
   ·by_cases h3:0<=m
    ·by_cases h4:m<=26
     ·rw [tT (by simp;omega)];refine zG<|zn (tT)<|zE<|zn (tT)<|zE<|zn (tT)<|sX ?_
      exact zHO (v0:=.bool (decide (m<=26))) (by rw [zlY h4]) rfl rfl rfl rfl hO
     ·rw [tF (by simp;omega)];refine zG<|zn (tT)<|zE<|zn (tT)<|zE<|zn (tT)<|sX ?_
      exact zHO (v0:=.bool (decide (m<=26))) (by rw [zlf h4]) rfl rfl rfl rfl hO
    ·rw [tF (by simp;omega)];refine zG<|zn (tT)<|zE<|zn (tT)<|zE<|zi (tF)<|sX ?_
     exact sRv
   ·rw [tF (by simp;omega)];refine zG<|zn (tT)<|zE<|zi (tF)<|sX ?_
    exact sRv
  ·rw [tF (by simp;omega)];refine zG<|zi (tF)<|sX ?_
   exact sRv
theorem zft (row:Bool) (a m:Int) (H:Heap):EFun C GT zKu [.bool row,zH a,zH m] H (.bool (decide (1<=a/\a<=(if row then 99 else 26)/\0<=m/\m<=(if row then 99 else 26)))) H:=by
 refine zJ ?_;cases row with
 |true=>
  by_cases h1:1<=a
  ·by_cases h2:a<=99
   ·by_cases h3:0<=m
    ·by_cases h4:m<=99
     ·rw [tT (by simp;omega)];refine zE<|zn (tT)<|zE<|zn (tT)<|zE<|zn (tT)<|sX ?_
      exact zHO (v0:=.bool (decide (m<=99))) (by rw [zlY h4]) rfl rfl rfl rfl hO
     ·rw [tF (by simp;omega)];refine zE<|zn (tT)<|zE<|zn (tT)<|zE<|zn (tT)<|sX ?_
      exact zHO (v0:=.bool (decide (m<=99))) (by rw [zlf h4]) rfl rfl rfl rfl hO
    ·rw [tF (by simp;omega)];refine zE<|zn (tT)<|zE<|zn (tT)<|zE<|zi (tF)<|sX ?_
     exact sRv
   ·rw [tF (by simp;omega)];refine zE<|zn (tT)<|zE<|zi (tF)<|sX ?_
    exact sRv
  ·rw [tF (by simp;omega)];refine zE<|zi (tF)<|sX ?_
   exact sRv
 |false=>
  by_cases h1:1<=a
  ·by_cases h2:a<=26
   ·by_cases h3:0<=m
    ·by_cases h4:m<=26
     ·rw [tT (by simp;omega)];refine zG<|zn (tT)<|zE<|zn (tT)<|zE<|zn (tT)<|sX ?_
      exact zHO (v0:=.bool (decide (m<=26))) (by rw [zlY h4]) rfl rfl rfl rfl hO
     ·rw [tF (by simp;omega)];refine zG<|zn (tT)<|zE<|zn (tT)<|zE<|zn (tT)<|sX ?_
      exact zHO (v0:=.bool (decide (m<=26))) (by rw [zlf h4]) rfl rfl rfl rfl hO
    ·rw [tF (by simp;omega)];refine zG<|zn (tT)<|zE<|zn (tT)<|zE<|zi (tF)<|sX ?_
     exact sRv
   ·rw [tF (by simp;omega)];refine zG<|zn (tT)<|zE<|zi (tF)<|sX ?_
    exact sRv
  ·rw [tF (by simp;omega)];refine zG<|zi (tF)<|sX ?_
   exact sRv
def zNm (row:Bool) (a m:Int):Bool:=decide (1<=a/\a<=(if row then 99 else 26)/\0<=m/\m<=(if row then 99 else 26))
theorem zij {H:Heap} {b:Nat} (hb:b<H.length) (k:Nat) (ys:List AV):zXw H (H.set b (.row k ys))/\H.set b (.row k ys)=(H.set b (.row k ys)).take H.length:=by
 refine ⟨fun c hc=>?_,(zlw zS_).symm⟩;by_cases e:b=c
 ·subst e;exact .inr ⟨_,zli hb,rfl⟩
 ·exact .inl (zlm e)
theorem zcd (hS:∀ (b:Nat) (xs:List Fil) H,H[b]?=some (.row 3 (xs.map zl))->xs≠[]->xs.length<=1000->(xs.map zLh).Nodup->C zAc [.sl (some true) b 3 0 xs.length,.fn zFn [] []] H (.tup []) (H.set b (.row 3 ((zJa xs).map zl))))
  (b:Nat) (xs:List Fil) (H:Heap) (hb:H[b]?=some (.row 3 (xs.map zl))) (hne:xs≠[]) (hl:xs.length<=1000) (hn:(xs.map zLh).Nodup) :
  EFun C GT zIb [.sl (some true) b 3 0 xs.length] H (.sl (some true) b 3 0 xs.length) (H.set b (.row 3 ((zJa xs).map zl))):=by
 have hs:=hS b xs H hb hne hl hn;have hbl:=(zl_ hb);obtain ⟨h1,h2⟩:=zij hbl 3 ((zJa xs).map zl);clear hS;refine zJ<|sX ?_
 exact sRetW rfl rfl (zcc hbl) (by simp [AV.bel,hbl]) h1 h2
theorem zZO (hS0:∀ H,C zAc [.lst (some true) 0 [],.fn zFn [] []] H (.tup []) H) (H:Heap):EFun C GT zIb [.lst (some true) 0 []] H (.lst (some true) 0 []) H:=by
 refine zJ<|sX ?_
 exact sRv
end
end Go.AM
