/- Several texts of mine in one (Rt2, Rt3, Rt4, Rtw, Kd). Own work. -/
import Derived.Test.YtafclpcpdmeodaaGreatDoorGBu2Rt1
import Derived.Test.YtafclpcpdmeodaaGreatDoorGAm30Fp1
import Derived.Test.YtafclpcpdmeodaaGreatDoorGMgcSk0
import Derived.Test.YtafclpcpdmeodaaGreatDoorGRffRfi
import Derived.Test.YtafclpcpdmeodaaGreatDoorGRf5Rf3
import Derived.Test.YtafclpcpdmeodaaGreatDoorXc
set_option linter.all false
set_option maxRecDepth 20000
namespace Go.AM
theorem col_toNat {c:Int} (h:1<=c/\c<=26):(UInt8.ofNat (64+c.toNat)).toNat=64+c.toNat:=by simp;omega
theorem col_cap {c:Int} (h:1<=c/\c<=26):capB (UInt8.ofNat (64+c.toNat))=true:=by
 unfold capB;rw [col_toNat h];simp;omega
theorem dig_ne {c:UInt8} (h:zG2 c=true):c≠36/\c≠32:=by refine ⟨?_, ?_⟩ <;> (rintro rfl;revert h;decide)
theorem cap_ne {c:UInt8} (h:capB c=true):c≠36/\zG2 c=false:=by
 refine ⟨?_, ?_⟩
 ·rintro rfl;revert h;decide
 ·unfold capB at h;unfold zG2;simp only [zQP,zQf] at h;simp;omega
theorem zH5 {r:RefP} (h:okR r):∀ c∈zD2 r,zh c=true:=by
 intro c hc;unfold zD2 at hc;simp only [zSE,zQ1] at hc;rcases hc with ((hc|hc)|hc)|hc
 ·split at hc
  ·rw [zQ1.1 hc];rfl
  ·cases hc
 ·rw [hc];exact cap_wordly (col_cap ⟨h.1,h.2.1⟩)
 ·split at hc
  ·rw [zQ1.1 hc];rfl
  ·cases hc
 ·exact zKB (zKA _ c hc)
theorem zNN (r:RefP):zD2 r≠[]:=by unfold zD2;simp
theorem zFF (c:UInt8) (r:Bs):dollar (c::r)=if c=36 then (true,r) else (false,c::r):=rfl
theorem dollar_dig {n:Nat}:dollar (zF1 n)=(false,zF1 n):=by
 cases e:zF1 n with
 |nil=>exact absurd e (zQG n)
 |cons c r=>
  have hc:=zKA n c (by rw [e];simp);rw [zFF,zQN (dig_ne hc).1]
theorem rowP_dig {r:RefP} (h:okR r) (x y:Bool) (col:Int):rowP x col (y,zF1 r.row.toNat)=some ⟨col,r.row,x,y⟩:=by
 have h1:=h.2.2;unfold rowP;simp only;rw [whole_digT (n:=r.row.toNat) tO];simp only;rw [zQQ tO]
 congr 2
 omega
theorem zJz {r:RefP} (h:okR r):zE9 (zD2 r)=some r:=by
 obtain ⟨col,row,fc,fr⟩:=r;have hc:=col_cap ⟨h.1,h.2.1⟩;have hn:=cap_ne hc;have ht:=col_toNat ⟨h.1,h.2.1⟩;have hrow:=fun x y cc=>rowP_dig h x y cc;simp only at hc hn ht hrow;have e:((64+col.toNat:Nat):Int)-64=col:=by have:=h.1;simp only at this;omega
 unfold zE9 zD2;cases fc <;> cases fr
 ·simp only [zQt,zRC,zRk,zRP,zQY,zFF,zQN hn.1,colP,hc,zQz,dollar_dig,hrow,ht,e]
 ·simp only [zQt,zRC,zQu,zRP,zRF,zQY,zFF,zQN hn.1,colP,hc,zQz,hrow,ht,e]
 ·simp only [zQz,zRk,zRP,zRF,zRC,zQY,zQt,zFF,colP,hc,dollar_dig,hrow,ht,e]
 ·simp only [zQz,zRP,zRF,zRC,zFF,colP,hc,hrow,ht,e]
theorem whole_refT {r:RefP} (h:okR r):zCL (zD2 r)=none:=by
 have hm:UInt8.ofNat (64+r.col.toNat)∈zD2 r:=by unfold zD2;simp
 unfold zCL;split
 ·rfl
 ·rw [zQN];intro k;have:=zRN.1 k _ hm;rw [(cap_ne (col_cap ⟨h.1,h.2.1⟩)).2] at this;cases this
theorem refP_true:zE9 zFz=none:=by rfl
theorem refP_false:zE9 zDY=none:=by rfl
theorem atom_ref {r:RefP} (h:okR r):zIe (zD2 r)=some (zBz r):=by
 unfold zIe;rw [whole_refT h];simp only;have h1:zD2 r≠zFz:=fun e=>by
  have:=zJz h;rw [e,refP_true] at this;cases this
 have h2:zD2 r≠zDY:=fun e=>by
  have:=zJz h;rw [e,refP_false] at this;cases this
 rw [zQN h1,zQN h2,zJz h];rfl
theorem atom_num {n:Nat} (h:n<=9223372036854775807):zIe (zF1 n)=some (zJ7 n):=by
 unfold zIe;rw [whole_digT h]
theorem atom_tru (b:Bool):zIe (if b then zFz else zDY)=some (zE5 b):=by cases b <;> rfl
end Go.AM
set_option maxRecDepth 20000
namespace Go.AM
theorem ll_stop {s:Bs} {l a d:Nat} {n:Nd} (ha:a<=s.length) (h:Stop l s a):(P s).ll l n a d=some (n,a):=by
 rw [P_ll l n d ha];unfold zOd;cases e:zH1 s a with
 |none=>rfl
 |some p=>
  obtain ⟨op,e'⟩:=p;simp only;rw [zQQ (h op e' e)]
theorem loose_one {s:Bs} {l a d:Nat} {n:Nd} {e:Nat} (ha:a<=s.length) (h:(P s).one a d=some (n,e)):(P s).loose l a d=(P s).ll l n e d:=by
 rw [zJs l d ha];unfold zEV;rw [h];rfl
theorem zH6 (n:Nd):1<=zf n:=by
 unfold zf;split
 ·exact (zDv _).1
 ·omega
theorem zQI {s:Bs} {a:Nat} {c:UInt8} {v:Bs} (h:s.drop a=c::v) (hc:c=44\/c=41) (l:Nat):Stop l s a/\tok s a=.sign (a+1) [c]/\Sep (c::v):=by
 have ht:tok s a=.sign (a+1) [c]:=zE4 h (by rcases hc with rfl|rfl <;> decide) (by unfold oneB;cases v with
  |nil=>rfl
  |cons d r=>rcases hc with rfl|rfl <;> simp)
 refine ⟨fun op e k=>?_,ht,fun d hd=>?_⟩
 ·unfold zH1 at k;rw [ht] at k;rcases hc with rfl|rfl <;> cases k
 ·cases hd;rcases hc with rfl|rfl <;> decide
def Rd (n:Nd):Prop:=∀ (s:Bs) (a d:Nat) (v:Bs),s.drop a=txt n++v->a<=s.length->Sep v->d+need n<=30 ->
 (zf n=9->(P s).one a d=some (n,a+(txt n).length))/\∀ l,l<=zf n->Stop (zf n+1) s (a+(txt n).length)->(P s).loose l a d=(P s).ll l n (a+(txt n).length) d
theorem zJ0 {n:Nd} (ht:zf n=9) (h:∀ (s:Bs) (a d:Nat) (v:Bs),s.drop a=txt n++v->a<=s.length->Sep v->d+need n<=30->(P s).one a d=some (n,a+(txt n).length)):Rd n:=
 fun s a d v hs ha hv hd=>⟨fun _=>h s a d v hs ha hv hd,fun l _ _=>loose_one ha (h s a d v hs ha hv hd)⟩
theorem rd_unit {n:Nd} (hr:Rd n) (L:Nat) (hL:L<=9) {s:Bs} {a d:Nat} {v:Bs} (h:s.drop a=brk (decide (zf n<L)) (txt n)++v) (ha:a<=s.length) (hv:Sep v) (hd:d+(need n+if zf n<L then 1 else 0)<=30) :
  (L=9->zf n<=9->(P s).one a d=some (n,a+(brk (decide (zf n<L)) (txt n)).length))/\∀ l,l<=L->(zf n<L\/Stop (zf n+1) s (a+(brk (decide (zf n<L)) (txt n)).length)) ->
   (P s).loose l a d=(P s).ll l n (a+(brk (decide (zf n<L)) (txt n)).length) d:=by
 by_cases hb:zf n<L
 ·rw [zQQ hb] at hd;have hbt:brk (decide (zf n<L)) (txt n)=40::txt n++[41]:=by rw [zQj hb];rfl
  rw [hbt] at h ⊢;have h1:s.drop a=40::(txt n++41::v):=by rw [h];simp
  obtain ⟨g1,g2⟩:=zCY h1;have hlt:=drop_lt h1;have ht:tok s a=.sign (a+1) [40]:=zE4 h1 (by decide) (by unfold oneB;split <;> simp);have h3:=zFN g2;obtain ⟨st,tk,sp⟩:=zQI h3 (.inr rfl) (zf n+1);obtain ⟨st1,_,_⟩:=zQI h3 (.inr rfl) 1;have hl:=(hr s (a+1) (d+1) (41::v) g2 tO sp tO).2 1 (zH6 n) st;have hle:=zQH g2 tO;rw [ll_stop hle st1] at hl;have hlen:a+(40::txt n++[41]).length=a+1+(txt n).length+1:=by simp;omega
  have hone:(P s).one a d=some (n,a+(40::txt n++[41]).length):=by
   rw [P_one d ha];unfold zB4;rw [ht];simp only;rw [zQN tO,hl];simp only [zRO];rw [tk,hlen];rfl
  exact ⟨fun _ _=>hone,fun l _ _=>loose_one ha hone⟩
 ·rw [zQN hb] at hd;have hbt:brk (decide (zf n<L)) (txt n)=txt n:=by rw [zQs hb];rfl
  rw [hbt] at h ⊢;obtain ⟨k1,k2⟩:=hr s a d v h ha hv tO;exact ⟨fun h9 h9'=>k1 tO,fun l hl hs=>k2 l tO (hs.resolve_left hb)⟩
theorem sep_ne40 {s:Bs} {a:Nat} {v:Bs} (h:s.drop a=v) (hv:Sep v):s[a]?≠some 40/\s[a]?≠some 58:=by
 have:s[a]?=v.head?:=by rw [<-h,zS5]
 rw [this];exact ⟨fun e=>(hv _ e).2.2.1 rfl,fun e=>(hv _ e).2.2.2 rfl⟩
theorem sep_word {v:Bs} (hv:Sep v):∀ c,v.head?=some c->zh c=false:=fun c h=>(hv c h).1
theorem rd_atom {n:Nd} {w:Bs} (ht:zf n=9) (hx:txt n=w) (hne:w≠[]) (hw:∀ c∈w,zh c=true) (ha:zIe w=some n):Rd n:=by
 refine zJ0 ht fun s a d v hs hal hv _=>?_;rw [hx] at hs ⊢;have htk:=zG7 hs hne hw (sep_word hv);have h40:=(sep_ne40 (zFN hs) hv).1;rw [P_one d hal];unfold zB4;rw [htk];simp only;rw [zQN fun k=>h40 k.2,ha];rfl
def BegN (n:Nd):Prop:=∀ v,Beg (txt n++v)
def NoBox (n:Nd):Prop:=∀ (s:Bs) (a:Nat) (v:Bs),s.drop a=txt n++v->Sep v->zDu s a=none
theorem zKD {n:Nd} {w u:Bs} (hx:txt n=w++u) (hne:w≠[]) (hw:∀ c∈w,zh c=true) (hu:∀ v,Sep v->∀ c,(u++v).head?=some c->zh c=false/\c≠58):NoBox n:=by
 intro s a v hs hv;rw [hx,zQu] at hs;have htk:=zG7 hs hne hw fun c hc=>(hu v hv c hc).1;have h58:s[a+w.length]?≠some 58:=by
  have:s[a+w.length]?=(u++v).head?:=by rw [<-zFN hs,zS5]
  rw [this];exact fun e=>(hu v hv _ e).2 rfl
 unfold zDu;rw [htk];simp only;cases zE9 w with
 |none=>rfl
 |some r=>simp only;rw [zQN h58]
theorem zQJ {n:Nd} (h:∀ (s:Bs) (a:Nat) (v:Bs),s.drop a=txt n++v->Sep v->∀ e t,tok s a≠.word e t):NoBox n:=by
 intro s a v hs hv;unfold zDu;split
 ·rename_i e t hk;exact absurd hk (h s a v hs hv e t)
 ·rfl
theorem zMa {w u:Bs} (hne:w≠[]) (hw:∀ c∈w,zh c=true):Beg (w++u):=by
 obtain ⟨c,r,rfl⟩:=zRM hne;exact ⟨c,r++u,rfl,.inl (hw c (by simp))⟩
theorem beg_brk {n:Nd} (h:BegN n) (b:Bool) (v:Bs):Beg (brk b (txt n)++v):=by
 cases b with
 |false=>exact h v
 |true=>exact ⟨40,_,rfl,by simp⟩
theorem beg_tok {s:Bs} {a:Nat} (h:Beg (s.drop a)):∀ e,tok s a≠.sign e [41]:=by
 intro e k;obtain ⟨c,r,hr,hc⟩:=h;have hb:c≠32/\c≠41:=by refine ⟨?_, ?_⟩ <;> (rintro rfl;revert hc;decide)
 rw [tok_nb hr hb.1] at k;unfold zBg at k;rw [(zCY hr).1] at k;simp only at k;split at k
 ·cases k
 ·split at k
  ·split at k <;> cases k
  ·split at k
   ·split at k <;> cases k
   ·split at k
    ·split at k
     ·cases k
     ·simp only [Tok.sign.injEq,zRe,zSP] at k;exact hb.2 k.2
    ·simp only [Tok.sign.injEq,zRe,zSP] at k;exact hb.2 k.2
theorem refT_sep {r:RefP} (h:okR r) {s:Bs} {a:Nat} {v:Bs} (hs:s.drop a=zD2 r++v) (hv:∀ c,v.head?=some c->zh c=false):tok s a=.word (a+(zD2 r).length) (zD2 r)/\zBg s a=.word (a+(zD2 r).length) (zD2 r):=
 ⟨zG7 hs (zNN r) (zH5 h) hv,tokAt_word hs (zNN r) (zH5 h) hv⟩
theorem box_read {r o:RefP} (hr:okR r) (ho:okR o) {s:Bs} {a:Nat} {v:Bs} (hs:s.drop a=txt (zAx r o)++v) (hv:Sep v):zDu s a=some (some (zAx r o,a+(txt (zAx r o)).length)):=by
 rw [zQD] at hs ⊢;have hs1:s.drop a=zD2 r++(58::(zD2 o++v)):=by rw [hs];simp
 obtain ⟨t1,_⟩:=refT_sep hr hs1 (fun c hc=>by cases hc;rfl);obtain ⟨g1,g2⟩:=zCY (zFN hs1);obtain ⟨_,t2⟩:=refT_sep ho g2 (sep_word hv);unfold zDu;rw [t1];simp only;rw [zJz hr];simp only;rw [zQQ g1,t2];simp only;rw [zJz ho];simp only [zQg,zQR,zQO]
 congr 3
 omega
def Kn (x:Bool) (n:Nd):Prop:=(x=true/\∃ r o,n=zAx r o/\okR r/\okR o)\/(Rd n/\BegN n/\NoBox n)
theorem kn_beg {x:Bool} {n:Nd} (h:Kn x n):BegN n:=by
 rcases h with ⟨_,r,o,rfl,hr,_⟩|⟨_,h,_⟩
 ·intro v;rw [zQD,zQu];exact zMa (zNN r) (zH5 hr)
 ·exact h
theorem foldr_max_le {l:List Nat} {m:Nat} (h:m∈l):m<=l.foldr max 0:=by
 induction l with
 |nil=>cases h
 |cons x l ih=>
  rw [List.foldr_cons];rcases zRQ.1 h with rfl|h
  ·omega
  ·have:=ih h;omega
theorem args_read (t:Bs) (s:Bs) (d:Nat) (v:Bs):∀ (ks done:List Nd) (a:Nat),ks≠[]->s.drop a=zAw (ks.map txt)++41::v->a<=s.length->(∀ k∈ks,Kn true k/\d+need k<=30) ->
  (P s).args t done a d=some (zAv t (done++ks),a+(zAw (ks.map txt)).length+1)
 |[],_,_,h,_,_,_=>absurd rfl h
 |k::ks,done,a,_,hs,ha,hk=>by
  obtain ⟨hkn,hkd⟩:=hk k (by simp);obtain ⟨c,w,hw,hc⟩:∃ (c:UInt8) (w:Bs),s.drop a=txt k++c::w/\((ks=[]/\c=41/\w=v)\/(ks≠[]/\c=44/\w=zAw (ks.map txt)++41::v)):=by
   cases ks with
   |nil=>exact ⟨41,v,hs,.inl ⟨rfl,rfl,rfl⟩⟩
   |cons k2 ks=>
    refine ⟨44,zAw ((k2::ks).map txt)++41::v, ?_,.inr ⟨by simp,rfl,rfl⟩⟩;rw [hs];simp only [zQe,zAw,zQu,zRF]
  have hcc:c=44\/c=41:=by rcases hc with ⟨_,h,_⟩|⟨_,h,_⟩ <;> simp [h]
  have h3:=zFN hw;obtain ⟨st,tk,sp⟩:=zQI h3 hcc (zf k+1);obtain ⟨st1,_,_⟩:=zQI h3 hcc 1;have hle:=zQH hw ha;have harg:zFa s (P s) a d=some (k,a+(txt k).length):=by
   unfold zFa;rcases hkn with ⟨_,r,o,rfl,hr,ho⟩|⟨hrd,_,hnb⟩
   ·rw [box_read hr ho hw sp]
   ·rw [hnb s a _ hw sp];simp only;rw [(hrd s a d _ hw ha sp hkd).2 1 (zH6 k) st,ll_stop hle st1]
  rw [zNi t done d ha];unfold zFp;rw [harg];simp only [zRO];rw [tk];rcases hc with ⟨rfl,rfl,rfl⟩|⟨hne,rfl,rfl⟩
  ·rfl
  ·have hg:=(zCY h3).2;have ih:=args_read t s d v ks (done++[k]) (a+(txt k).length+1) hne hg (drop_lt h3) (fun x hx=>hk x (by simp [hx]));simp only;rw [ih];have hj:(zAw ((k::ks).map txt)).length=(txt k).length+1+(zAw (ks.map txt)).length:=by
    cases ks with
    |nil=>exact absurd rfl hne
    |cons k2 ks=>simp only [zQe,zAw,zQR,zQO];omega
   rw [hj,zQu];simp only [zRP]
   congr 2
   omega
theorem rd_call {t:Bs} {ks:List Nd} (hc:zA3 t=true) (hk:∀ k∈ks,Kn true k):Rd (zAv t ks)/\BegN (zAv t ks)/\NoBox (zAv t ks):=by
 have hcap:∀ c∈t,zh c=true:=fun c h=>by
  unfold zA3 at hc;simp only [zQP] at hc;exact cap_wordly (zRN.1 hc.2 c h)
 have hne:t≠[]:=by
  rintro rfl;revert hc;decide
 refine ⟨zJ0 rfl fun s a d v hs ha hv hd=>?_,fun v=>?_, ?_⟩
 ·rw [zDD] at hs ⊢;rw [zMY] at hd;have hs1:s.drop a=t++(40::(zAw (ks.map txt)++41::v)):=by rw [hs];simp
  have tk:=zG7 hs1 hne hcap (fun c h=>by cases h;rfl);obtain ⟨g1,g2⟩:=zCY (zFN hs1);have hlt:=drop_lt (zFN hs1);rw [P_one d ha];unfold zB4;rw [tk];simp only;rw [zQQ ⟨hc,g1⟩,zQN tO];by_cases h0:ks=[]
  ·subst h0;have g2:s.drop (a+t.length+1)=41::v:=g2;obtain ⟨_,tk2,_⟩:=zQI g2 (.inr rfl) 1;rw [tk2];simp only [zQx,zAw,zQR,zQO,zQV]
   all_goals (congr 2 <;> omega)
  ·have hb:Beg (s.drop (a+t.length+1)):=by
    rw [g2];obtain ⟨k,ks',rfl⟩:=zRM h0;cases ks' with
    |nil=>exact kn_beg (hk k (by simp)) _
    |cons k2 ks'=>
     simp only [zQe,zAw,zQu];exact kn_beg (hk k (by simp)) _
   have h41:=beg_tok hb;split
   ·rename_i e2 hq;exact absurd hq (h41 e2)
   ·rw [args_read t s (d+1) v ks [] (a+t.length+1) h0 g2 tO (fun k hkm=>⟨hk k hkm,by have:=foldr_max_le (zRf (f:=need) hkm);omega⟩)];simp only [zRC,zQR,zQO,zQV]
    congr 2
    omega
 ·rw [zDD,zQu,zQu];exact zMa hne hcap
 ·refine zKD (w:=t) (u:=40::zAw (ks.map txt)++[41]) (by rw [zDD];simp) hne hcap fun v _ c hc=>?_;cases hc;decide
theorem opT_beg {op:Nat} (h:1<=op/\op<=11) (v:Bs):Sep (opT op++v):=by
 have k:op=1\/op=2\/op=3\/op=4\/op=5\/op=6\/op=7\/op=8\/op=9\/op=10\/op=11:=by omega
 rcases k with rfl|rfl|rfl|rfl|rfl|rfl|rfl|rfl|rfl|rfl|rfl <;> (intro c hc;cases hc;decide)
theorem tightN_le (n:Nd):zf n<=9:=by
 unfold zf;split
 ·have:=(zDv n.num.toNat).2;omega
 ·exact zQU _
theorem rd_two {op:Nat} {a b:Nd} (hop:1<=op/\op<=11) (ha:Rd a/\BegN a/\NoBox a) (hb:Rd b/\BegN b/\NoBox b):Rd (zAl op a b)/\BegN (zAl op a b)/\NoBox (zAl op a b):=by
 have h4:=zDv op;refine ⟨fun s i d v hs hi hv hd=>?_,fun v=>?_,fun s i v hs hv=>?_⟩
 ·rw [zMZ];refine ⟨fun h=>by omega,fun l hl hst=>?_⟩;rw [zEY] at hs hst ⊢;rw [zOj] at hd;have hs1:s.drop i=brk (decide (zf a<tight op)) (txt a)++(opT op++(brk (decide (zf b<tight op+1)) (txt b)++v)):=by
   rw [hs,show decide (zf b<tight op+1)=decide (zf b<=tight op) from zRr.2 tO];simp only [zQu]
  have g1:=zFN hs1;have hle1:=zQH hs1 hi;have hop1:=op_app hop g1 (beg_brk hb.2.1 _ v);have g2:=zFN g1;have hle2:=zQH g1 hle1;have st1:zf a<tight op\/Stop (zf a+1) s (i+(brk (decide (zf a<tight op)) (txt a)).length):=by
   by_cases h:zf a<tight op
   ·exact .inl h
   ·refine .inr fun op' e he=>?_;rw [hop1] at he;cases he;omega
  have hA:=(rd_unit ha.1 (tight op) tO hs1 hi (opT_beg hop _) (zRb (Nat.add_le_add_left (Nat.le_max_left _ _) d) hd)).2 l hl st1;have e1:(if zf b<tight op+1 then 1 else 0)=(if zf b<=tight op then 1 else 0):=by
   by_cases h:zf b<=tight op
   ·rw [zQQ h,zQQ tO]
   ·rw [zQN h,zQN tO]
  have hB0:=rd_unit (d:=d) hb.1 (tight op+1) tO g2 hle2 hv (by
   rw [e1];exact zRb (Nat.add_le_add_left (Nat.le_max_right _ _) d) hd)
  have hlen:(brk (decide (zf a<tight op)) (txt a)++opT op++brk (decide (zf b<=tight op)) (txt b)).length=(brk (decide (zf a<tight op)) (txt a)).length+(opT op).length+(brk (decide (zf b<tight op+1)) (txt b)).length:=by
   rw [show decide (zf b<tight op+1)=decide (zf b<=tight op) from zRr.2 tO];simp only [zQR]
  rw [hlen] at hst ⊢;generalize (brk (decide (zf a<tight op)) (txt a)).length=la at *;generalize (opT op).length=lo at *;generalize hlb:(brk (decide (zf b<tight op+1)) (txt b)).length=lb at *;have hend:i+(la+lo+lb)=i+la+lo+lb:=by omega
  rw [hend] at hst ⊢;have hle3:=zQH g2 hle2;rw [hlb] at hle3;have stB:zf b<tight op+1\/Stop (zf b+1) s (i+la+lo+lb):=by
   by_cases h:zf b<tight op+1
   ·exact .inl h
   ·refine .inr fun op' e he=>?_;have:=hst op' e he;omega
  have hB:=hB0.2 (tight op+1) (zQU _) stB;rw [ll_stop hle3 hst] at hB;rw [hA,P_ll l a d hle1];unfold zOd;rw [hop1];simp only;rw [zQN tO,hB];rfl
 ·rw [zEY,zQu,zQu];exact beg_brk ha.2.1 _ _
 ·rw [zEY,zQu,zQu] at hs;by_cases h:zf a<tight op
  ·rw [zQj h] at hs;have h1:s.drop i=40::(txt a++[41]++(opT op++(brk (decide (zf b<=tight op)) (txt b)++v))):=by rw [hs];simp [brk]
   have ht:tok s i=.sign (i+1) [40]:=zE4 h1 (by decide) (by unfold oneB;split <;> simp);unfold zDu;rw [ht]
  ·rw [zQs h] at hs;exact ha.2.2 s i _ hs (opT_beg hop _)
theorem kn_of_wf {x:Bool} {n:Nd} (h:Wf x n):Kn x n:=by
 induction h with
 |num x n h=>
  refine .inr ⟨rd_atom rfl (zLH n) (by rw [zQy];exact zQG n) (fun c hc=>zKB (zKA _ c hc)) (by rw [zQy];exact atom_num h),fun v=>?_, ?_⟩
  ·rw [zLH];exact zMa (zQG _) fun c hc=>zKB (zKA _ c hc)
  ·exact zKD (w:=zF1 (n:Int).toNat) (u:=[]) (by rw [zLH];simp) (zQG _) (fun c hc=>zKB (zKA _ c hc)) fun v hv c hc=>⟨(hv c hc).1,(hv c hc).2.2.2⟩
 |txt x t=>
  have tk:∀ (s:Bs) (a:Nat) (v:Bs),s.drop a=Go.AM.txt (zHP t)++v->Sep v->tok s a=.txt (a+(Go.AM.txt (zHP t)).length) t:=fun s a v hs hv=>by
   rw [zLI] at hs ⊢;exact tok_txt_app hs fun e=>(hv _ e).2.1 rfl
  refine .inr ⟨zJ0 rfl fun s a d v hs ha hv _=>?_,fun v=>⟨34,_,rfl,by simp⟩,zQJ fun s a v hs hv e t' k=>?_⟩
  ·rw [P_one d ha];unfold zB4;rw [tk s a v hs hv]
  ·rw [tk s a v hs hv] at k;cases k
 |tru x b=>
  have hw:∀ c∈(if b then zFz else zDY),zh c=true:=by cases b <;> decide
  have hne:(if b then zFz else zDY)≠[]:=by cases b <;> decide
  refine .inr ⟨rd_atom (by cases b <;> rfl) (zLJ b) hne hw (atom_tru b),fun v=>?_, ?_⟩
  ·rw [zLJ];exact zMa hne hw
  ·exact zKD (u:=[]) (by rw [zLJ,zRk]) hne hw fun v hv c hc=>⟨(hv c hc).1,(hv c hc).2.2.2⟩
 |bad x k h=>
  have tk:∀ (s:Bs) (a:Nat) (v:Bs),s.drop a=Go.AM.txt (zHR k)++v->tok s a=.bad (a+(Go.AM.txt (zHR k)).length) k:=fun s a v hs=>by
   rw [zQC] at hs ⊢;exact tok_bad_app h hs
  refine .inr ⟨zJ0 rfl fun s a d v hs ha hv _=>?_,fun v=>?_,zQJ fun s a v hs hv e t' q=>?_⟩
  ·rw [P_one d ha];unfold zB4;rw [tk s a v hs]
  ·rw [zQC];have:k=1\/k=2\/k=3\/k=4\/k=5\/k=6:=by omega
   rcases this with rfl|rfl|rfl|rfl|rfl|rfl <;> exact ⟨35,_,rfl,by simp⟩
  ·rw [tk s a v hs] at q;cases q
 |ref x r h=>
  refine .inr ⟨rd_atom rfl (zIm r) (zNN r) (zH5 h) (atom_ref h),fun v=>?_, ?_⟩
  ·rw [zIm];exact zMa (zNN r) (zH5 h)
  ·exact zKD (u:=[]) (by rw [zIm,zRk]) (zNN r) (zH5 h) fun v hv c hc=>⟨(hv c hc).1,(hv c hc).2.2.2⟩
 |box r o h k=>exact .inl ⟨rfl,r,o,rfl,h,k⟩
 |neg x n h ih=>
  have ih:Rd n/\BegN n/\NoBox n:=by
   rcases ih with ⟨h,_⟩|ih
   ·cases h
   ·exact ih
  have tk:∀ (s:Bs) (a:Nat) (v:Bs),s.drop a=Go.AM.txt (zDJ n)++v->tok s a=.sign (a+1) [45]/\s.drop (a+1)=brk (decide (zf n<9)) (Go.AM.txt n)++v/\a<s.length:=fun s a v hs=>by
   rw [zE3,zRF] at hs;exact ⟨zE4 hs (by decide) (by unfold oneB;split <;> simp),(zCY hs).2,drop_lt hs⟩
  refine .inr ⟨zJ0 rfl fun s a d v hs ha hv hd=>?_,fun v=>⟨45,_,rfl,by simp⟩,zQJ fun s a v hs hv e t' q=>?_⟩
  ·obtain ⟨t1,t2,t3⟩:=tk s a v hs;rw [zOi] at hd;have hu:=(rd_unit (d:=d+1) ih.1 9 (zQU _) t2 tO hv tO).1 rfl (tightN_le n);rw [P_one d ha];unfold zB4;rw [t1];simp only;rw [zQN tO,hu];simp only [zQg,zE3,zQO]
   congr 2
   omega
  ·rw [(tk s a v hs).1] at q;cases q
 |two x op a b h ha hb iha ihb=>
  refine .inr (rd_two h ?_ ?_)
  ·rcases iha with ⟨h,_⟩|ih
   ·cases h
   ·exact ih
  ·rcases ihb with ⟨h,_⟩|ih
   ·cases h
   ·exact ih
 |call x t ks h hk ih=>exact .inr (rd_call h ih)
theorem parse_txt {n:Nd} (h:Wf false n) (hd:need n<=30) (hl:(txt n).length<=199):zAi (61::txt n)=some n:=by
 have hk:Rd n/\BegN n/\NoBox n:=by
  rcases kn_of_wf h with ⟨h,_⟩|h
  ·cases h
  ·exact h
 have hs:(61::txt n).drop 1=txt n++[]:=by simp
 have hf:=tok_finR (zFN hs);have hst:∀ l,Stop l (61::txt n) (1+(txt n).length):=fun l op e k=>by
  unfold zH1 at k;rw [hf] at k;cases k
 have h1:=(hk.1 (61::txt n) 1 0 [] hs (by simp) (fun c hc=>by cases hc) tO).2 1 (zH6 n) (hst _);rw [ll_stop (by simp only [zQO];omega) (hst 1)] at h1;unfold zAi;rw [zQQ ⟨by simp only [zQO];omega,rfl⟩,h1];simp only [zRO];rw [hf]
end Go.AM
set_option maxRecDepth 20000
namespace Go.AM
theorem quo_lenR:∀ (l:Bs) (i:Nat) (t:Bs) (e:Nat),quo l i=some (t,e)->i+(esc t).length+1<=e
 |[],_,_,_,h=>by simp [quo] at h
 |[c],i,t,e,h=>by
  simp only [quo] at h;split at h
  ·simp only [zQT,zQd] at h;obtain ⟨rfl,rfl⟩:=h;simp [esc]
  ·cases h
 |c::d::r,i,t,e,h=>by
  simp only [quo] at h;split at h
  ·split at h
   ·rw [zQX] at h;obtain ⟨⟨t',e'⟩,h1,h2⟩:=h;simp only [zQd] at h2;obtain ⟨rfl,rfl⟩:=h2;have:=quo_lenR r (i+2) t' e' h1;simp only [esc,zQz,zQO];omega
   ·simp only [zQT,zQd] at h;obtain ⟨rfl,rfl⟩:=h;simp [esc]
  ·rename_i hc;rw [zQX] at h;obtain ⟨⟨t',e'⟩,h1,h2⟩:=h;simp only [zQd] at h2;obtain ⟨rfl,rfl⟩:=h2;have:=quo_lenR (d::r) (i+1) t' e' h1;simp only [esc,zQN hc,zQO];omega
theorem badL_is:∀ (l:Bs) (ts:List Bs) (k:Nat) (p:Nat×Nat),zKk l ts k=some p->k<=p.1/\p.1<k+ts.length/\p.2=(ts.getD (p.1-k) []).length
 |_,[],_,_,h=>by simp [zKk] at h
 |l,t::ts,k,p,h=>by
  simp only [zKk] at h;split at h
  ·simp only [zQT] at h;subst h;simp
  ·obtain ⟨h1,h2,h3⟩:=badL_is l ts (k+1) p h;refine ⟨by omega,by simp only [zQO];omega, ?_⟩;rw [h3];obtain ⟨j,hj⟩:∃ j,p.1-k=j+1:=⟨p.1-k-1,by omega⟩;rw [hj,show p.1-(k+1)=j by omega];rfl
def Tok.wants:Tok->Nat
 |.word _ t=>t.length
 |.txt _ t=>(34::esc t++[34]).length
 |.bad _ k=>(wrongs.getD (k-1) []).length
 |.sign _ t=>t.length
 |_=>0
def Tok.upTo (a:Nat):Tok->Prop
 |.word e t=>a+t.length<=e
 |.txt e t=>a+(34::esc t++[34]).length<=e
 |.bad e k=>a+(wrongs.getD (k-1) []).length<=e/\1<=k/\k<=6
 |.sign e t=>a+t.length<=e
 |_=>True
theorem tokAt_upTo (s:Bs) (a:Nat):(zBg s a).upTo a:=by
 unfold zBg;cases e:s[a]? with
 |none=>trivial
 |some c=>
  simp only;split
  ·have:=zLC s a;show a+(sub s a (zDE s a)).length<=zDE s a;unfold sub;rw [zQk];omega
  ·split
   ·split
    ·rename_i t e' hq;have:=quo_lenR _ _ _ _ hq;show a+(34::esc t++[34]).length<=e';simp only [zQR,zQO,zQV];omega
    ·trivial
   ·split
    ·split
     ·rename_i k n hb;obtain ⟨h1,h2,h3⟩:=badL_is _ _ _ _ hb;simp only at h1 h2 h3;refine ⟨?_,h1, ?_⟩
      ·rw [h3];exact zQU _
      ·have:wrongs.length=6:=rfl;omega
     ·trivial
    ·split
     ·split <;> exact zQU _
     ·exact zQU _
theorem zKE (s:Bs) (a:Nat):(tok s a).upTo a:=by
 have h:=tokAt_upTo s (skip s a);have h2:=zFi s a;unfold tok;revert h;cases zBg s (skip s a) <;> simp only [Tok.upTo] <;> first|exact fun _=>trivial|(intro h;omega)
theorem decV_ltR (l:Bs) (h:∀ c∈l,zG2 c=true):zDk l<10^l.length:=by
 have gen:∀ (l:Bs) (x:Nat),(∀ c∈l,zG2 c=true)->l.foldl (fun n c=>n*10+(c.toNat-48)) x<(x+1)*10^l.length:=by
  intro l;induction l with
  |nil=>intro x _;simp
  |cons c l ih=>
   intro x h;have hc:=h c (by simp);unfold zG2 at hc;simp only [zQP,zQf] at hc;rw [zSo,zQO,zRS];refine zRE (ih _ fun d hd=>h d (by simp [hd])) ?_;rw [zRj (10^l.length) 10,<-Nat.mul_assoc];exact zRB _ tO
 have:=gen l 0 h;simpa [zDk] using this
theorem whole_is {t:Bs} {v:Int} (h:zCL t=some v):∃ n:Nat,v=n/\n<=9223372036854775807/\(zF1 n).length<=t.length/\t≠[]:=by
 unfold zCL at h;split at h
 ·cases h
 ·rename_i h0;split at h
  ·rename_i hd;split at h
   ·rename_i hm;cases h;have hne:t≠[]:=fun e=>h0 (.inl e);refine ⟨_,rfl,hm, ?_,hne⟩;have hl:1<=t.length:=by
     cases t with
     |nil=>exact absurd rfl hne
     |cons _ _=>simp
    unfold zF1;split
    ·simpa using hl
    ·rw [zR7];exact decL_len _ _ (decV_ltR t (zRN.1 hd))
   ·cases h
  ·cases h
theorem dollar_len (t:Bs):(dollar t).2.length+(if (dollar t).1 then 1 else 0)=t.length:=by
 cases t with
 |nil=>rfl
 |cons c r=>
  rw [zFF];split <;> simp
theorem refP_is {t:Bs} {r:RefP} (h:zE9 t=some r):okR r/\(zD2 r).length<=t.length:=by
 have hd:=dollar_len t;unfold zE9 colP at h;generalize dollar t=p at h hd;obtain ⟨fc,u⟩:=p;simp only at h hd;cases u with
 |nil=>cases h
 |cons c u=>
  simp only at h;split at h
  ·rename_i hc;have hd2:=dollar_len u;generalize dollar u=p2 at h hd2;obtain ⟨fr,w⟩:=p2;unfold rowP at h;simp only at h hd2;cases hw:zCL w with
   |none=>rw [hw] at h;cases h
   |some v=>
    rw [hw] at h;simp only at h;split at h
    ·rename_i hv;cases h;obtain ⟨n,rfl,_,hn,_⟩:=whole_is hw;unfold capB at hc;simp only [zQP,zQf] at hc;refine ⟨⟨by simp only;omega,by simp only;omega,by simp only;omega,by simp only;omega⟩, ?_⟩;unfold zD2;simp only [zQR,zRZ,zQy];simp only [zQO] at hd;have e1:(if fc=true then [36] else ([]:Bs)).length=if fc=true then 1 else 0:=by cases fc <;> rfl
     have e2:(if fr=true then [36] else ([]:Bs)).length=if fr=true then 1 else 0:=by cases fr <;> rfl
     rw [e1,e2];omega
    ·cases h
  ·cases h
theorem atom_is {t:Bs} {n:Nd} (h:zIe t=some n):Wf false n/\zf n=9/\need n=0/\(txt n).length<=t.length:=by
 unfold zIe at h;cases hw:zCL t with
 |some v=>
  rw [hw] at h;cases h;obtain ⟨n,rfl,h1,h2,_⟩:=whole_is hw;exact ⟨.num _ n h1,rfl,rfl,by rw [zLH,zQy];exact h2⟩
 |none=>
  rw [hw] at h;simp only at h;split at h
  ·rename_i e;cases h;exact ⟨.tru _ _,rfl,rfl,by rw [zLJ,e];exact zQU _⟩
  ·split at h
   ·rename_i e;cases h;exact ⟨.tru _ _,rfl,rfl,by rw [zLJ,e];exact zQU _⟩
   ·obtain ⟨r,hr,rfl⟩:=zQX.1 h;obtain ⟨h1,h2⟩:=refP_is hr;exact ⟨.ref _ r h1,rfl,rfl,by rw [zIm];exact h2⟩
theorem opNo_is {t:Bs} {op:Nat} (h:zCA t=op) (h0:op≠0):1<=op/\op<=11/\(opT op).length=t.length:=by
 unfold zCA at h;subst h;revert h0
 repeat' split
 all_goals first|(rename_i e;subst e;intro _;decide)|(intro h;exact absurd rfl h)
theorem opAt_isR {s:Bs} {a op e:Nat} (h:zH1 s a=some (op,e)):1<=op/\op<=11/\a+(opT op).length<=e:=by
 have ht:=zKE s a;unfold zH1 at h;split at h
 ·rename_i e' t hk;rw [hk] at ht;split at h
  ·cases h
  ·rename_i h0;simp only [zQT,zQd] at h;obtain ⟨rfl,rfl⟩:=h;obtain ⟨h1,h2,h3⟩:=opNo_is rfl h0;exact ⟨h1,h2,by rw [h3];exact ht⟩
 ·cases h
theorem zBh (b:Bool) (t:Bs):(brk b t).length=t.length+if b then 2 else 0:=by cases b <;> simp [brk]
def Fit (l d a e:Nat) (n:Nd):Prop:=a+(txt n).length+(if zf n<l then 2 else 0)<=e/\d+need n+(if zf n<l then 1 else 0)<=30
theorem Fit.mono {l l' d a e:Nat} {n:Nd} (h:Fit l d a e n) (hl:l'<=l):Fit l' d a e n:=by
 unfold Fit at *;by_cases h1:zf n<l'
 ·rw [zQQ h1,zQQ h1];rw [zQQ tO,zQQ tO] at h;exact h
 ·rw [zQN h1,zQN h1];refine ⟨by have:=h.1;omega,by have:=h.2;omega⟩
theorem Fit.end {l d a e e':Nat} {n:Nd} (h:Fit l d a e n) (he:e<=e'):Fit l d a e' n:=⟨by have:=h.1;omega,h.2⟩
theorem fit_two {op d a0 a e e':Nat} {x y:Nd} (hx:Fit (tight op) d a0 a x) (ho:a+(opT op).length<=e) (hy:Fit (tight op+1) d e e' y) (l:Nat) (hl:l<=tight op):Fit l d a0 e' (zAl op x y):=by
 unfold Fit;rw [zMZ,zQN tO,zQN tO,zEY,zOj];simp only [zQR,zBh];have e1:decide (zf y<=tight op)=decide (zf y<tight op+1):=zRr.2 tO;have e2:(if zf y<=tight op then 1 else 0)=(if zf y<tight op+1 then 1 else 0):=by
  by_cases h:zf y<=tight op
  ·rw [zQQ h,zQQ tO]
  ·rw [zQN h,zQN tO]
 rw [e1,e2];obtain ⟨h1,h2⟩:=hx;obtain ⟨h3,h4⟩:=hy;simp only [zQf];refine ⟨?_, ?_⟩
 ·generalize (if zf x<tight op then 2 else 0)=i at *;generalize (if zf y<tight op+1 then 2 else 0)=j at *;omega
 ·generalize (if zf x<tight op then 1 else 0)=i at *;generalize (if zf y<tight op+1 then 1 else 0)=j at *;omega
structure Snd (s:Bs) (q:Ps):Prop where
 one:∀ a d n e,a<=s.length->d<=30->q.one a d=some (n,e)->Wf false n/\Fit 9 d a e n
 loose:∀ l a d n e,a<=s.length->d<=30->q.loose l a d=some (n,e)->l<=9->Wf false n/\Fit l d a e n/\Stop l s e
 ll:∀ l n0 a0 a d n e,a<=s.length->d<=30->q.ll l n0 a d=some (n,e)->l<=9->Wf false n0->Fit l d a0 a n0->(∀ op o,zH1 s a=some (op,o)->Fit (tight op) d a0 a n0)->Wf false n/\Fit l d a0 e n/\Stop l s e
 args:∀ t ks a0 a d n e,a<=s.length->d<=30->q.args t ks a d=some (n,e)->(∀ k∈ks,Wf true k/\d+need k<=30)->a0+(ks.map fun k=>(txt k).length+1).sum<=a ->
  ∃ ks',n=zAv t ks'/\ks'≠[]/\(∀ k∈ks',Wf true k/\d+need k<=30)/\a0+(ks'.map fun k=>(txt k).length+1).sum<=e
theorem boxAt_is {s:Bs} {a:Nat} {n:Nd} {e:Nat} (h:zDu s a=some (some (n,e))):∃ r o,n=zAx r o/\okR r/\okR o/\a+(txt n).length<=e:=by
 have ht:=zKE s a;unfold zDu at h;split at h
 ·rename_i e1 t hk;rw [hk] at ht;split at h
  ·rename_i r hr;split at h
   ·have h2:=tokAt_upTo s (e1+1);split at h
    ·rename_i e2 t2 hk2;rw [hk2] at h2;simp only [zQT,zQX] at h;obtain ⟨r2,hr2,hp⟩:=h;simp only [zQd] at hp;obtain ⟨rfl,rfl⟩:=hp;obtain ⟨k1,k2⟩:=refP_is hr;obtain ⟨k3,k4⟩:=refP_is hr2;refine ⟨r,r2,rfl,k1,k3, ?_⟩;rw [zQD];simp only [zQR,zQO];simp only [Tok.upTo] at ht h2;omega
    ·cases h
   ·cases h
  ·cases h
 ·cases h
theorem joinC_len:∀ (ts:List Bs),ts≠[]->(zAw ts).length+1=(ts.map fun t=>t.length+1).sum
 |[],h=>absurd rfl h
 |[t],_=>by simp [zAw]
 |t::u::r,_=>by
  have:=joinC_len (u::r) (by simp);simp only [zAw,zQR,zQO,zQe,List.sum_cons] at this ⊢;omega
theorem foldr_le {l:List Nat} {b:Nat} (h:∀ m∈l,m<=b):l.foldr max 0<=b:=by
 induction l with
 |nil=>exact zRG _
 |cons x l ih=>
  rw [List.foldr_cons];have:=h x (by simp);have:=ih fun m hm=>h m (by simp [hm]);omega
theorem wf_weak {n:Nd} (h:Wf false n):Wf true n:=by
 cases h with
 |num _ n h=>exact .num _ n h
 |txt _ t=>exact .txt _ t
 |tru _ b=>exact .tru _ b
 |bad _ k h=>exact .bad _ k h
 |ref _ r h=>exact .ref _ r h
 |neg _ n h=>exact .neg _ n h
 |two _ op a b h ha hb=>exact .two _ op a b h ha hb
 |call _ t ks h hk=>exact .call _ t ks h hk
theorem snd_one {s:Bs} {q:Ps} (hq:Snd s q) (he:Ends s q) (a d:Nat) (n:Nd) (e:Nat) (ha:a<=s.length) (hd:d<=30) (h:zB4 s q a d=some (n,e)):Wf false n/\Fit 9 d a e n:=by
 have ht:=zKE s a;have hn:=zB3 s a;unfold zB4 at h;split at h
 ·rename_i e1 t hk;rw [hk] at ht hn;simp only [Tok.upTo] at ht;simp only [Tok.endsBy] at hn;split at h
  ·rename_i hc;have hlt:=(zg hc.2).1;split at h
   ·cases h
   ·rename_i h30;have fin:∀ (ks:List Nd) (e:Nat),(∀ k∈ks,Wf true k/\d+1+need k<=30)->a+t.length+1+(zAw (ks.map txt)).length+1<=e->Wf false (zAv t ks)/\Fit 9 d a e (zAv t ks):=fun ks e hk hl=>by
     refine ⟨.call _ t ks hc.1 fun k h=>(hk k h).1, ?_⟩;unfold Fit;have e9:zf (zAv t ks)=9:=rfl;rw [e9,zQN tO,zQN tO,zDD,zMY];simp only [zQR,zQO,zQV];have hm:(ks.map need).foldr max 0<=29-d:=foldr_le fun m hm=>by
      obtain ⟨k,hkm,rfl⟩:=zRx.1 hm;have:=(hk k hkm).2;omega
     omega
    split at h
    ·rename_i e2 hk2;have h2:=zKE s (e1+1);rw [hk2] at h2;simp only [Tok.upTo,zRZ] at h2;cases h;exact fin [] _ (by simp) (by simp only [zQx,zAw,zQV];omega)
    ·obtain ⟨ks',rfl,hne,hk',hl⟩:=hq.args t [] (e1+1) (e1+1) (d+1) n e tO tO h (by simp) (by simp);refine fin ks' e hk' ?_;have:=joinC_len (ks'.map txt) (by simpa using hne);rw [zSF] at this;have e3:(ks'.map ((fun t=>t.length+1) ∘ txt)).sum=(ks'.map fun k=>(txt k).length+1).sum:=rfl;rw [e3] at this;omega
  ·obtain ⟨m,hm,hp⟩:=zQX.1 h;cases hp;obtain ⟨h1,h2,h3,h4⟩:=atom_is hm;exact ⟨h1,by unfold Fit;rw [h2,h3,zQN tO,zQN tO];omega⟩
 ·rename_i e1 t hk;rw [hk] at ht;cases h;exact ⟨.txt _ t,by
   unfold Fit;have e9:zf (zHP t)=9:=rfl;have e0:need (zHP t)=0:=rfl;rw [e9,e0,zQN tO,zQN tO,zLI];exact ⟨ht,by omega⟩⟩
 ·rename_i e1 k hk;rw [hk] at ht;cases h;obtain ⟨h1,h2,h3⟩:=ht;exact ⟨.bad _ k ⟨h2,h3⟩,by
   unfold Fit;have e9:zf (zHR k)=9:=rfl;have e0:need (zHR k)=0:=rfl;rw [e9,e0,zQN tO,zQN tO,zQC];exact ⟨h1,by omega⟩⟩
 ·rename_i e1 hk;rw [hk] at ht hn;simp only [Tok.upTo,zRZ] at ht;simp only [Tok.endsBy] at hn;split at h
  ·cases h
  ·obtain ⟨⟨m,e2⟩,hm,hp⟩:=zQX.1 h;cases hp;obtain ⟨h1,h2⟩:=hq.one e1 (d+1) m e2 tO tO hm;refine ⟨.neg _ m h1, ?_⟩;obtain ⟨h3,h4⟩:=h2;unfold Fit;have e9:zf (zDJ m)=9:=rfl;rw [e9,zQN tO,zQN tO,zE3,zOi];simp only [zQO,zBh,zQf];generalize (if zf m<9 then 2 else 0)=i at *;generalize (if zf m<9 then 1 else 0)=j at *;omega
 ·rename_i e1 hk;rw [hk] at ht hn;simp only [Tok.upTo,zRZ] at ht;simp only [Tok.endsBy] at hn;split at h
  ·cases h
  ·rename_i h30;obtain ⟨⟨m,e2⟩,hm,hp⟩:=zQ0.1 h;have hend:=he.loose 1 e1 (d+1) (m,e2) tO hm;obtain ⟨h1,h2,_⟩:=hq.loose 1 e1 (d+1) m e2 tO tO hm tO;have ht2:=zKE s e2;simp only at hp;split at hp
   ·rename_i e3 hk3;rw [hk3] at ht2;simp only [Tok.upTo,zRZ] at ht2;cases hp;refine ⟨h1, ?_⟩;obtain ⟨h3,h4⟩:=h2;have h5:=zH6 n;rw [zQN tO] at h3 h4;unfold Fit;by_cases h9:zf n<9
    ·rw [zQQ h9,zQQ h9];omega
    ·rw [zQN h9,zQN h9];omega
   ·cases hp
 ·cases h
theorem snd_ll {s:Bs} {q:Ps} (hq:Snd s q) (he:Ends s q) (l:Nat) (n0:Nd) (a0 a d:Nat) (n:Nd) (e:Nat) (ha:a<=s.length) (hd:d<=30) (h:zOd s q l n0 a d=some (n,e)) (hl:l<=9) (hw:Wf false n0) (hf:Fit l d a0 a n0) (ho:∀ op o,zH1 s a=some (op,o)->Fit (tight op) d a0 a n0):Wf false n/\Fit l d a0 e n/\Stop l s e:=by
 unfold zOd at h;cases hop:zH1 s a with
 |none=>
  rw [hop] at h;cases h;exact ⟨hw,hf,fun op o k=>by rw [hop] at k;cases k⟩
 |some p=>
  obtain ⟨op,o⟩:=p;rw [hop] at h;simp only at h;split at h
  ·rename_i hlt;cases h;exact ⟨hw,hf,fun op' o' k=>by rw [hop] at k;cases k;exact hlt⟩
  ·rename_i hge;obtain ⟨⟨y,e1⟩,hy,hr⟩:=zQ0.1 h;obtain ⟨k1,k2,k3⟩:=opAt_isR hop;have h4:=zDv op;have hoe:=zDi hop;obtain ⟨w1,w2,w3⟩:=hq.loose _ o d y e1 hoe.2 hd hy tO;have hend:=he.loose _ o d (y,e1) hoe.2 hy;simp only at hend hr;exact hq.ll l _ a0 e1 d n e hend.2 hd hr hl (.two _ op n0 y ⟨k1,k2⟩ hw w1) (fit_two (ho op o hop) k3 w2 l tO) fun op' o' h'=>fit_two (ho op o hop) k3 w2 _ (by have:=w3 op' o' h';omega)
theorem snd_loose {s:Bs} {q:Ps} (hq:Snd s q) (he:Ends s q) (l a d:Nat) (n:Nd) (e:Nat) (ha:a<=s.length) (hd:d<=30) (h:zEV q l a d=some (n,e)) (hl:l<=9):Wf false n/\Fit l d a e n/\Stop l s e:=by
 unfold zEV at h;obtain ⟨⟨m,e1⟩,hm,hr⟩:=zQ0.1 h;obtain ⟨h1,h2⟩:=hq.one a d m e1 ha hd hm;have hend:=he.one a d (m,e1) ha hm;simp only at hend hr;exact hq.ll l m a e1 d n e hend.2 hd hr hl h1 (h2.mono hl) fun op o _=>h2.mono (by have:=(zDv op).2;omega)
theorem snd_args {s:Bs} {q:Ps} (hq:Snd s q) (he:Ends s q) (t:Bs) (ks:List Nd) (a0 a d:Nat) (n:Nd) (e:Nat) (ha:a<=s.length) (hd:d<=30) (h:zFp s q t ks a d=some (n,e)) (hk:∀ k∈ks,Wf true k/\d+need k<=30) (hl:a0+(ks.map fun k=>(txt k).length+1).sum<=a) :
  ∃ ks',n=zAv t ks'/\ks'≠[]/\(∀ k∈ks',Wf true k/\d+need k<=30)/\a0+(ks'.map fun k=>(txt k).length+1).sum<=e:=by
 unfold zFp at h;obtain ⟨⟨m,e1⟩,hm,hr⟩:=zQ0.1 h;have hend:=zH2 he a d (m,e1) ha hm;have ham:Wf true m/\d+need m<=30/\a+(txt m).length<=e1:=by
  unfold zFa at hm;cases hb:zDu s a with
  |none=>
   rw [hb] at hm;obtain ⟨h1,h2,_⟩:=hq.loose 1 a d m e1 ha hd hm tO;obtain ⟨h3,h4⟩:=h2;have h5:=zH6 m;rw [zQN tO] at h3 h4;exact ⟨wf_weak h1,by omega,by omega⟩
  |some r=>
   rw [hb] at hm;simp only at hm;subst hm;obtain ⟨r,o,rfl,h1,h2,h3⟩:=boxAt_is hb;exact ⟨.box r o h1 h2,by have:need (zAx r o)=0:=rfl;omega,h3⟩
 have hk2:∀ k∈ks++[m],Wf true k/\d+need k<=30:=fun k h=>by
  rcases zSE.1 h with h|h
  ·exact hk k h
  ·rw [zQ1.1 h];exact ⟨ham.1,ham.2.1⟩
 have hsum:((ks++[m]).map fun k=>(txt k).length+1).sum=(ks.map fun k=>(txt k).length+1).sum+((txt m).length+1):=by simp
 have ht:=zKE s e1;have hn:=zB3 s e1;simp only at hr hend;split at hr
 ·rename_i e2 hk3;rw [hk3] at ht hn;simp only [Tok.upTo,zRZ] at ht;simp only [Tok.endsBy] at hn;exact hq.args t (ks++[m]) a0 e2 d n e tO hd hr hk2 (by rw [hsum];omega)
 ·rename_i e2 hk3;rw [hk3] at ht;simp only [Tok.upTo,zRZ] at ht;cases hr;exact ⟨ks++[m],rfl,by simp,hk2,by rw [hsum];omega⟩
 ·cases hr
theorem ps_snd (s:Bs):∀ N,Snd s (ps s N)
 |0=>⟨fun _ _ _ _ _ _ h=>(by cases h),fun _ _ _ _ _ _ _ h=>(by cases h),fun _ _ _ _ _ _ _ _ _ h=>(by cases h),fun _ _ _ _ _ _ _ _ _ h=>(by cases h)⟩
 |N+1=>⟨fun a d n e=>snd_one (ps_snd s N) (zLD s N) a d n e,fun l a d n e=>snd_loose (ps_snd s N) (zLD s N) l a d n e,fun l n0 a0 a d n e=>snd_ll (ps_snd s N) (zLD s N) l n0 a0 a d n e,fun t ks a0 a d n e=>snd_args (ps_snd s N) (zLD s N) t ks a0 a d n e⟩
theorem parse_is {s:Bs} {n:Nd} (h:zAi s=some n):Wf false n/\need n<=30/\(txt n).length+1<=s.length:=by
 unfold zAi at h;split at h
 ·rename_i h0;obtain ⟨⟨m,e⟩,hm,hr⟩:=zQ0.1 h;have h1:1<=s.length:=by
   cases s with
   |nil=>cases h0.2
   |cons _ _=>simp
  have hend:=(zCv s).loose 1 1 0 (m,e) h1 hm;obtain ⟨w,f,_⟩:=(ps_snd s _).loose 1 1 0 m e h1 tO hm tO;simp only at hr;split at hr
  ·cases hr;obtain ⟨f1,f2⟩:=f;have:=zH6 n;rw [zQN tO] at f1 f2;simp only at hend;exact ⟨w,by omega,by omega⟩
  ·cases hr
 ·cases h
end Go.AM
set_option maxRecDepth 20000
namespace Go.AM
theorem sRetW {F:AF} {H H1 H2 H':Heap} {fr:Fr} {v0 v:AV} (hk:F.keep=false) (hr:(zBa fr H1 F.results).map tupled=some v0) (hf:zEE H.length v0 H1=some (v,H2)) (hb:v.bel H.length=true) (ho:OldOK H H2) (hH:H'=H2.take H.length):retP F H fr H1 v H':=by
 refine sRet ?_;unfold zHU;cases hs:zBa fr H1 F.results with
 |none=>rw [hs] at hr;cases hr
 |some vs=>
  rw [hs] at hr;simp only [zQg,zQT] at hr;subst hr;simp only [hk,hf,zQY,zQt];exact ⟨hb,ho,trivial,hH⟩
theorem frz_below {n0 b k off len:Nat} {q:Option Bool} {H:Heap} (h:b<n0):zEE n0 (.sl q b k off len) H=some (.sl q b k off len,H):=by simp only [zEE];rw [zQQ h]
theorem frz_pair2 {n:Nat} {v v' y:AV} {H H':Heap} (h:zEE n v H=some (v',H')) (hy:∀ H,zEE n y H=some (y,H)):zEE n (.tup [v,y]) H=some (.tup [v',y],H'):=by
 simp only [zEE,zLP,h,hy]
theorem bel_pair (n k:Nat) (xs:List AV):(AV.tup [lstF k xs,.nili]).bel n=true:=by simp [AV.bel,AV.belL,lstF_bel]
end Go.AM
set_option maxRecDepth 20000
namespace Go.AM
section
variable {C:CSpec} {GT:Nat->Option AV}
def zGj (n:Nd):AV:=.lst (some n.kq) n.kk (kxs n)
theorem zAC (n:Nd):zDa (zGj n) 12 (n.kids.map ndV):=by
 obtain ⟨k,m,t,r,o,ks⟩:=n;unfold zGj;cases ks with
 |nil=>exact ⟨_,_,rfl,.inr rfl⟩
 |cons x ks=>exact ⟨_,12,by show AV.lst (some false) 12 (kidL (x::ks))=_;rw [zJ6];rfl,.inl rfl⟩
theorem zF2:∀ (ts:List Bs),ts.length<=(zAw ts).length+1/\∀ t∈ts,t.length<=(zAw ts).length
 |[]=>⟨by simp,by simp⟩
 |[t]=>⟨by simp,by simp [zAw]⟩
 |t::u::r=>by
  obtain ⟨h1,h2⟩:=zF2 (u::r);simp only [zAw,zQR,zQO] at h1 ⊢;refine ⟨by omega,fun x hx=>?_⟩;rcases zRQ.1 hx with rfl|hx
  ·omega
  ·have:=h2 x hx;omega
def offV (row:Bool):Nat:=if row then 1 else 0
theorem along_ev (b:Nat) (row:Bool) (cs:List AV) (H:Heap) (hb:H[b]?=some (.box cs)):EFun C GT zNb [.ref b 0 0 0,.bool row] H (.ref b 0 0 (offV row)) H:=by
 have hbl:=(zg hb).1;refine zI ?_;cases row with
 |true=>
  refine sX ?_;exact zAq rfl rfl rfl (by simp [AV.bel,hbl]) hO
 |false=>
  refine sX ?_;exact zAq rfl rfl rfl (by simp [AV.bel,hbl]) hO
theorem span_ev (row:Bool) (a m:Int) (H:Heap):EFun C GT zPE [.bool row,zJ a,zJ m] H (.bool (decide (1<=a/\a<=(if row then 99 else 26)/\0<=m/\m<=(if row then 99 else 26)))) H:=by
 refine zI ?_;cases row with
 |true=>
  by_cases h1:1<=a
  ·by_cases h2:a<=99
   ·by_cases h3:0<=m
    ·by_cases h4:m<=99
     ·rw [tT (by simp;omega)];refine zD<|zp (tT)<|zD<|zp (tT)<|zD<|zp (tT)<|sX ?_
      exact zID (v0:=.bool (decide (m<=99))) (by rw [zQj h4]) rfl rfl rfl rfl hO
     ·rw [tF (by simp;omega)];refine zD<|zp (tT)<|zD<|zp (tT)<|zD<|zp (tT)<|sX ?_
      exact zID (v0:=.bool (decide (m<=99))) (by rw [zQs h4]) rfl rfl rfl rfl hO
    ·rw [tF (by simp;omega)];refine zD<|zp (tT)<|zD<|zp (tT)<|zD<|zk (tF)<|sX ?_
     exact sRv
   ·rw [tF (by simp;omega)];refine zD<|zp (tT)<|zD<|zk (tF)<|sX ?_
    exact sRv
  ·rw [tF (by simp;omega)];refine zD<|zk (tF)<|sX ?_
   exact sRv
 |false=>
  by_cases h1:1<=a
  ·by_cases h2:a<=26
   ·by_cases h3:0<=m
    ·by_cases h4:m<=26
     ·rw [tT (by simp;omega)];refine zG<|zp (tT)<|zD<|zp (tT)<|zD<|zp (tT)<|sX ?_
      exact zID (v0:=.bool (decide (m<=26))) (by rw [zQj h4]) rfl rfl rfl rfl hO
     ·rw [tF (by simp;omega)];refine zG<|zp (tT)<|zD<|zp (tT)<|zD<|zp (tT)<|sX ?_
      exact zID (v0:=.bool (decide (m<=26))) (by rw [zQs h4]) rfl rfl rfl rfl hO
    ·rw [tF (by simp;omega)];refine zG<|zp (tT)<|zD<|zp (tT)<|zD<|zk (tF)<|sX ?_
     exact sRv
   ·rw [tF (by simp;omega)];refine zG<|zp (tT)<|zD<|zk (tF)<|sX ?_
    exact sRv
  ·rw [tF (by simp;omega)];refine zG<|zk (tF)<|sX ?_
   exact sRv
theorem rspan_ev (row:Bool) (a m:Int) (H:Heap):EFun C GT zKd [.bool row,zJ a,zJ m] H (.bool (decide (1<=a/\a<=(if row then 99 else 26)/\0<=m/\m<=(if row then 99 else 26)))) H:=by
 refine zI ?_;cases row with
 |true=>
  by_cases h1:1<=a
  ·by_cases h2:a<=99
   ·by_cases h3:0<=m
    ·by_cases h4:m<=99
     ·rw [tT (by simp;omega)];refine zD<|zp (tT)<|zD<|zp (tT)<|zD<|zp (tT)<|sX ?_
      exact zID (v0:=.bool (decide (m<=99))) (by rw [zQj h4]) rfl rfl rfl rfl hO
     ·rw [tF (by simp;omega)];refine zD<|zp (tT)<|zD<|zp (tT)<|zD<|zp (tT)<|sX ?_
      exact zID (v0:=.bool (decide (m<=99))) (by rw [zQs h4]) rfl rfl rfl rfl hO
    ·rw [tF (by simp;omega)];refine zD<|zp (tT)<|zD<|zp (tT)<|zD<|zk (tF)<|sX ?_
     exact sRv
   ·rw [tF (by simp;omega)];refine zD<|zp (tT)<|zD<|zk (tF)<|sX ?_
    exact sRv
  ·rw [tF (by simp;omega)];refine zD<|zk (tF)<|sX ?_
   exact sRv
 |false=>
  by_cases h1:1<=a
  ·by_cases h2:a<=26
   ·by_cases h3:0<=m
    ·by_cases h4:m<=26
     ·rw [tT (by simp;omega)];refine zG<|zp (tT)<|zD<|zp (tT)<|zD<|zp (tT)<|sX ?_
      exact zID (v0:=.bool (decide (m<=26))) (by rw [zQj h4]) rfl rfl rfl rfl hO
     ·rw [tF (by simp;omega)];refine zG<|zp (tT)<|zD<|zp (tT)<|zD<|zp (tT)<|sX ?_
      exact zID (v0:=.bool (decide (m<=26))) (by rw [zQs h4]) rfl rfl rfl rfl hO
    ·rw [tF (by simp;omega)];refine zG<|zp (tT)<|zD<|zp (tT)<|zD<|zk (tF)<|sX ?_
     exact sRv
   ·rw [tF (by simp;omega)];refine zG<|zp (tT)<|zD<|zk (tF)<|sX ?_
    exact sRv
  ·rw [tF (by simp;omega)];refine zG<|zk (tF)<|sX ?_
   exact sRv
def zNO (row:Bool) (a m:Int):Bool:=decide (1<=a/\a<=(if row then 99 else 26)/\0<=m/\m<=(if row then 99 else 26))
theorem old_row {H:Heap} {b:Nat} (hb:b<H.length) (k:Nat) (ys:List AV):OldOK H (H.set b (.row k ys))/\H.set b (.row k ys)=(H.set b (.row k ys)).take H.length:=by
 refine ⟨fun c hc=>?_,(zQ6 (by simp)).symm⟩;by_cases e:b=c
 ·subst e;exact .inr ⟨_,zQr hb,rfl⟩
 ·exact .inl (zQw e)
theorem sorted_ev (hS:∀ (b:Nat) (xs:List Fil) H,H[b]?=some (.row 3 (xs.map zl))->xs≠[]->xs.length<=1000->(xs.map zLR).Nodup->C zAX [.sl (some true) b 3 0 xs.length,.fn zFc [] []] H (.tup []) (H.set b (.row 3 ((zJJ xs).map zl))))
  (b:Nat) (xs:List Fil) (H:Heap) (hb:H[b]?=some (.row 3 (xs.map zl))) (hne:xs≠[]) (hl:xs.length<=1000) (hn:(xs.map zLR).Nodup) :
  EFun C GT zIK [.sl (some true) b 3 0 xs.length] H (.sl (some true) b 3 0 xs.length) (H.set b (.row 3 ((zJJ xs).map zl))):=by
 have hs:=hS b xs H hb hne hl hn;have hbl:=(zg hb).1;obtain ⟨h1,h2⟩:=old_row hbl 3 ((zJJ xs).map zl);clear hS;refine zI<|sX ?_
 exact sRetW rfl rfl (frz_below hbl) (by simp [AV.bel,hbl]) h1 h2
theorem sorted0_ev (hS0:∀ H,C zAX [.lst (some true) 0 [],.fn zFc [] []] H (.tup []) H) (H:Heap):EFun C GT zIK [.lst (some true) 0 []] H (.lst (some true) 0 []) H:=by
 refine zI<|sX ?_
 exact sRv
end
end Go.AM
