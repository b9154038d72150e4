/- Several texts of mine in one (Fr7, Fm, ToldQ). Own work. -/
import Derived.Test.YtkeblfepjkdleaaGreatDoorGFq0Bg0
import Derived.Test.YtkeblfepjkdleaaGreatDoorGFp3Fr6
import Derived.Test.YtkeblfepjkdleaaGreatDoorAsQ
import Derived.Lib.LaidTab
import Derived.Shelf.Strconv.Itoa3
import Derived.Test.YtkeblfepjkdleaaGreatDoorAk
import Derived.Test.YtkeblfepjkdleaaGreatDoorGAm23Am29
set_option maxRecDepth 100000
set_option linter.all false
namespace Go.AM
theorem zas {s:Bs} {l e d:Nat} (hl:l<=3) (he:e<=s.length) (g:Nd->Nd):(((P s).loose (l+2) e d).bind fun q=>bl s ((P s).ll (l+1) (g q.1) q.2 d))=(twS s (l+1) e d).bind fun q=>bl s ((P s).ll (l+1) (g q.1) q.2 d):=by
 unfold twS;by_cases h3:l=3
 ·subst h3;rw [zlF rfl,zaS d he]
 ·rw [zlD tO];cases h:(P s).loose (l+2) e d with
  |none=>rfl
  |some q=>
   have:=(zDA s).loose _ e d q he h;show bl s ((P s).ll (l+1) (g q.1) q.2 d)=bl s ((P s).ll (l+1) (g q.1) (skip s q.2) d);rw [zaR _ _ _ this.2]
theorem zV4_ {s:Bs} {l e d:Nat} (hl:l<=3) (he:e<=s.length) {q:Nd×Nat} (h:twS s (l+1) e d=some q):(e<q.2/\q.2<=s.length)/\∀ op e',zIK s q.2=some (op,e')->tight op<l+2:=by
 unfold twS at h;by_cases h3:l=3
 ·subst h3;rw [zlF rfl] at h;exact ⟨(zDA s).one e d q he h,fun op e' _=>by have:=(zSy op).2;omega⟩
 ·rw [zlD tO] at h;unfold bl at h;rw [zlN] at h;obtain ⟨q',h1,rfl⟩:=h;have h2:=(zDA s).loose _ e d q' he h1;have h4:=zFt s q'.2;have h5:=zCX h2.2;refine ⟨⟨by simp only;omega,h5⟩,fun op e' ho=>?_⟩;simp only [zQK] at ho;exact zYX _ d he h1 op e' ho
theorem zee {s:Bs} {l p d:Nat} (hl:l<=3) (hp:p<=s.length):twS s l p d=(twS s (l+1) p d).bind fun q=>bl s ((P s).ll (l+1) q.1 q.2 d):=by
 rw [<-zas hl hp (fun n=>n)]
 conv=>lhs;unfold twS
 rw [zlD tO,zVx (l+1) d hp];cases (P s).loose (l+2) p d <;> rfl
theorem zat {s:Bs} {l d a:Nat} {n:Nd} (ha:a<=s.length) (hx:∀ op e,zIK s a=some (op,e)->tight op<l+2) (hno:∀ t,t∈sgn l->t.isPrefixOf (s.drop (skip s a))=false):bl s ((P s).ll (l+1) n a d)=some (n,skip s a):=by
 rw [zVR _ n d ha];unfold zOz;cases h:zIK s a with
 |none=>rfl
 |some x=>
  obtain ⟨op,e⟩:=x;have h1:=hx op e h;have h2:=zhZ (zVv s a) hno (by rw [zQK];exact h);simp only;rw [zlF tO];rfl
theorem zau {s:Bs} {l d a i:Nat} {n:Nd} {t:Bs} (hl:l<=3) (ha:a<=s.length) (ht:(sgn l)[i]?=some t) (hp:t.isPrefixOf (s.drop (skip s a))=true) (hno:∀ j u,j<i->(sgn l)[j]?=some u->u.isPrefixOf (s.drop (skip s a))=false) :
  (skip s a+t.length<=s.length/\skip s a<skip s a+t.length)/\zCE t≠0/\bl s ((P s).ll (l+1) n a d)=(twS s (l+1) (skip s a+t.length) d).bind fun q=>bl s ((P s).ll (l+1) (zAr (zCE t) n q.1) q.2 d):=by
 obtain ⟨h1,h2,h3⟩:=zeb ht hp hno;have he:=zDn h1;refine ⟨⟨he.2,he.1⟩,h3, ?_⟩;rw [<-zaR _ _ _ ha,zVR _ n d (zCX ha)];unfold zOz;rw [h1];simp only;rw [zlD tO,<-zas hl he.2 (fun m=>zAr (zCE t) n m),h2];cases (P s).loose (l+1+1) (skip s a+t.length) d <;> rfl
def ndX (n:Nd) (x:AV):List AV:=[.int .i64 n.kind,.int .i64 n.num,.str n.text,.int .i64 n.ref.col,.int .i64 n.ref.row,.bool n.ref.fc,.bool n.ref.fr,.int .i64 n.to.col,.int .i64 n.to.row,.bool n.to.fc,.bool n.to.fr,x]
def NdO (H0 H:Heap) (n:Nd) (x:AV):Prop:=x=.lst (some n.kq) n.kk (kxs n)\/∃ op a c nb,n=zAr op a c/\x=.sl (some false) nb 12 0 2/\H[nb]?=some (.row 12 [ndV a,ndV c])/\H0.length<=nb
theorem NdO.keep {H0 H H':Heap} {n:Nd} {x:AV} (h:NdO H0 H n x) (hk:∀ (nb:Nat) (ys:List AV),H[nb]?=some (ABlk.row 12 ys)->H'[nb]?=some (ABlk.row 12 ys)):NdO H0 H' n x:=by
 rcases h with h|⟨op,a,c,nb,h1,h2,h3,h4⟩
 ·exact .inl h
 ·exact .inr ⟨op,a,c,nb,h1,h2,hk _ _ h3,h4⟩
theorem NdO.set {H0 H:Heap} {n:Nd} {x:AV} {b:Nat} {cs:List AV} (h:NdO H0 H n x) (hb:H[b]?=some (.box cs)) (y:ABlk):NdO H0 (H.set b y) n x:=
 h.keep fun nb ys h1=>zC (fun e=>by subst e;rw [hb] at h1;cases h1) h1
theorem NdO.push {H0 H:Heap} {n:Nd} {x:AV} (h:NdO H0 H n x) (y:ABlk):NdO H0 (H++[y]) n x:=h.keep fun nb ys h1=>zD h1
theorem NdO.one {H0 H:Heap} {n:Nd} {x:AV} (h:NdO H0 H n x):(AV.agg (ndX n x)).cells.all AV.one=true:=by
 rcases h with rfl|⟨op,a,c,nb,rfl,rfl,h3,h4⟩ <;> rfl
theorem NdO.frz {H0 H:Heap} {n:Nd} {x:AV} (h:NdO H0 H n x) (k:Nat) (hk:k<=H0.length):∃ H',zEM k (.agg (ndX n x)) H=some (ndV n,H')/\H'.length=H.length/\(∀ (c:Nat) (cs:List AV),H[c]?=some (ABlk.box cs)->H'[c]?=some (ABlk.box cs))/\∀ {b B},b<H0.length->Old (H0.set b B) H->Old (H0.set b B) H':=by
 rcases h with rfl|⟨op,a,c,nb,rfl,rfl,h3,h4⟩
 ·exact ⟨H,rfl,rfl,fun _ _ h=>h,fun _ h=>h⟩
 ·refine ⟨H.set nb (.frz 12 [ndV a,ndV c]), ?_,zlP,fun c' cs hc=>zC (fun e=>by subst e;rw [h3] at hc;cases hc) hc,fun hb ho=>?_⟩
  ·have:¬ nb<k:=by omega
   simp only [ndX,zEM,zLg,this,zlj,h3];simp [zWk,ndV,ndC,zAr,Nd.kind,Nd.num,Nd.text,Nd.ref,Nd.to,Nd.kq,Nd.kk,kxs,zd6]
  ·exact ho.set (by rw [zlP];exact h4) _
theorem zjw (k:Nat) (n:Nd) (H:Heap):zEM k (ndV n) H=some (ndV n,H):=rfl
theorem zKC (k:Nat) (n:Nd):(ndV n).bel k=true:=rfl
def zUa:AV:=.agg ((List.range 4).map fun l=>.lst (some false) 1 ((sgn l).map AV.str))
theorem zRr {l o:Nat} (hl:l<=3) (ho:o=l):part zUa.cells o 1 false=some (.lst (some false) 1 ((sgn l).map AV.str)):=by
 subst ho;rcases o with _|_|_|_|o
 ·rfl
 ·rfl
 ·rfl
 ·rfl
 ·omega
theorem zav (l:Nat):(sgn l).length<=6:=by rcases l with _|_|_|_|l <;> simp [sgn]
theorem zhb {GT:zG_} {fr:Fr} {g o:Nat} {x:AV} {K:AV->Prop} (h:GT g=some x) (q:K (.lref x (0+o))):zjb o (evF GT fr (.glob g)) K:=by
 have e:evF GT fr (.glob g)=.lref x 0:=by simp only [evF,h]
 rw [e];exact q
structure T2St where
 m:Nat
 a:Nat
 n:Nd
 x:AV
structure L2St where
 i:Nat
 m:Nat
def two_r:AC:=match zFe with
 |.seq _ (.scope _ _ _ r)=>r
 |x=>x
def TwI (H:Heap) (b:Nat) (s:Bs) (d:Nat) (l:Nat) (r:Option (Nd×Nat)) (a:Nat) (n:Nd) (x:AV) (H1:Heap):Prop:=
 OldB H b (rdB s a d) H1/\H1[b]?=some (rdB s a d)/\H1[H.length]?=some (.box (ndC zZ))/\H1[H.length+1]?=some (.box (ndX n x))/\NdO H H1 n x/\a<=s.length/\(∀ op e,zIK s a=some (op,e)->tight op<l+2)/\bl s ((P s).ll (l+1) n a d)=r
section
variable {C:CSpec} {GT:zG_}
theorem zgl (hB:∀ b s p d H,H[b]?=some (rdB s p d)->p<=s.length->s.length<=200->C zW [pR b] H (.tup []) (H.set b (rdB s (skip s p) d)))
  (hO:∀ t H,zCE t≠0->C zED [.str t] H (zK (zCE t)) H)
  (hX:∀ s p H,C zA7 [.str s,.str p] H (.bool (p.isPrefixOf s)) H)
  (hG:GT zEu=some zUa)
  (l b:Nat) (s:Bs) (p d:Nat) (H:Heap) (hb:H[b]?=some (rdB s p d)) (hp:p<=s.length) (hl:s.length<=200) (hl4:l<=4)
  (hN:∀ H',l=4->H'[b]?=some (rdB s p d)->CR C zAW [pR b] H' b s d ((P s).one p d))
  (hT:∀ a H',l<=3->p<=a->a<=s.length->(a=p\/p<a)->H'[b]?=some (rdB s a d)->CR C zj [pR b,zK (l+1)] H' b s d (twS s (l+1) a d)) :
  zCw C GT zCO [pR b,zK l] H b (wkC s) zHh (mkR s d (twS s l p d)):=by
 have hbl:=zl_ hb;have hbk:=fun a d H' h1 h2=>hB b s a d H' h1 h2 hl;clear hB;refine zAJ ?_;by_cases h4:l=4
 ·subst h4;have e1:twS s 4 p d=(P s).one p d:=zlF rfl;rw [e1];generalize (P s).one p d=r at *;have hn:=fun H'=>hN H' rfl;clear hN hT hX hO hbk hG;cases r with
  |none=>
   have hc:=fun H' h1=>(hn H' h1).2 rfl;have e:mkR s d none=none:=rfl;rw [e];clear hn;refine sW ?_;refine zA6 (hc _ hP) ?_;exact sP
  |some q=>
   obtain ⟨n,e⟩:=q;have hc:=fun H' h1=>(hn H' h1).1 n e rfl;have e0:mkR s d (some (n,e))=some (ndV n,rdB s e d):=rfl;rw [e0];clear hn;refine sW ?_;refine zCY (hc _ hP)<|sSA (ndV n) ?_
   exact zAH (o:=0) (ndV n) (by first|rfl|assumption) rfl rfl (zI hP) rfl rfl rfl hO rfl
 have hl3:l<=3:=by omega
 have hT:=fun a H' h1 h2 h3 h4=>hT a H' hl3 h1 h2 h3 h4;clear hN;rw [zee hl3 hp];have ht0:=fun H' h1=>hT p H' (zlK _) hp (.inl rfl) h1;cases hr:twS s (l+1) p d with
 |none=>
  rw [hr] at ht0;have hc:=fun H' h1=>(ht0 H' h1).2 rfl;have e:mkR s d (Option.bind none fun q:Nd×Nat=>bl s ((P s).ll (l+1) q.1 q.2 d))=none:=rfl;rw [e];clear hbk hO hX hG hT ht0;refine sW ?_;refine zS (r:=l+1) rfl tO<|zA6 (hc _ hP) ?_
  exact sP
 |some q0=>
 obtain ⟨n0,e0⟩:=q0;have hq0:=zV4_ hl3 hp hr;rw [hr] at ht0;have hc0:=fun H' h1=>(ht0 H' h1).1 n0 e0 rfl;clear ht0 hr;obtain ⟨hq1,hq2⟩:=hq0;simp only at hq1 hq2;have e1:(Option.bind (some (n0,e0)) fun q:Nd×Nat=>bl s ((P s).ll (l+1) q.1 q.2 d))=bl s ((P s).ll (l+1) n0 e0 d):=rfl;rw [e1];clear e1;obtain ⟨r,hr⟩:∃ r,bl s ((P s).ll (l+1) n0 e0 d)=r:=⟨_,rfl⟩;rw [hr];have hZ:∀ (X Y:ABlk),((H++[X]).set b Y).length=H.length+1:=fun X Y=>by simp
 have hmk:∀ st H1,st.m=H.length+1/\TwI H b s d l r st.a st.n st.x H1->p<st.a ->
   gotoP C GT [5,1,0,4] 0 two_r (zKo zCO H b (wkC s) zHh (mkR s d r)) ((fun st:T2St=>[(5,pR st.m),(1,zK l),(0,pR b),(4,pR H.length)]) st) H1:=by
  intro st0 H1 hst hpa0;refine sGoto (fun st:T2St=>[(5,pR st.m),(1,zK l),(0,pR b),(4,pR H.length)]) (fun st H1=>(st.m=H.length+1/\TwI H b s d l r st.a st.n st.x H1)/\p<st.a) (fun st=>s.length-st.a) st0 rfl ⟨hst,hpa0⟩ (fun ⟨m,a,n,x⟩ H1 ⟨⟨hm,hob,hb1,h4,h5,hnd,hal,hx,hq⟩,hpa⟩=>?_);clear hst hpa0 st0 hc0 hr hb;dsimp only at hm hob hb1 h4 h5 hnd hal hx hq hpa ⊢;subst hm;have hA1:=zFt s a;have hA2:=zCX hal;have h5l:=(zl_ h5);have hbk1:=hbk a d H1 hb1 hal;refine sW ?_;refine zBF ⟨by omega,by omega⟩<|zhb hG<|zA9 (.lst (some false) 1 ((sgn l).map AV.str)) (zRr hl3 zS_)<|zQq ?_;refine zBG (fun st:L2St=>[(5,pR st.m),(1,zK l),(0,pR b),(4,pR H.length),(22,zK st.i),(20,.lst (some false) 1 ((sgn l).map AV.str)),(21,.int .i64 ((sgn l).map AV.str).length)])
   (fun st H'=>st.m=H.length+1/\(OldB H b (rdB s (skip s a) d) H'/\H'[b]?=some (rdB s (skip s a) d)/\H'[H.length]?=some (.box (ndC zZ))/\H'[H.length+1]?=some (.box (ndX n x))/\NdO H H' n x)/\st.i<=(sgn l).length/\∀ j u,j<st.i->(sgn l)[j]?=some u->u.isPrefixOf (s.drop (skip s a))=false)
   (fun st=>(sgn l).length-st.i) ⟨0,H.length+1⟩ rfl ⟨rfl,⟨hob.setB _,hP,hP,hP,hnd.set hb1 _⟩,zl6 _,fun j u h=>absurd h (zmP _)⟩ (fun ⟨i,m⟩ H2 ⟨hm,⟨hob2,hb2,h42,h52,hnd2⟩,hi,hno⟩=>?_)
  clear hob hb1 h4 h5 hnd h5l hbk1;dsimp only at hm hi hno ⊢;subst hm;have h5l:=(zl_ h52);have hlm:((sgn l).map AV.str).length=(sgn l).length:=zlM _;have hsg:(sgn l).length<=6:=zav l;by_cases hlt:i<(sgn l).length
  ·obtain ⟨t,ht⟩:∃ t,(sgn l)[i]?=some t:=⟨_,zlI hlt⟩;have htm:((sgn l).map AV.str)[i]?=some (.str t):=by rw [zlQ,ht];rfl
   have hsl:zB9 none (.str s) (some (zK (skip s a))) none=some (.str (s.drop (skip s a))):=zIv s _ hA2;have hxx:=hX (s.drop (skip s a)) t H2;cases hpre:t.isPrefixOf (s.drop (skip s a)) with
   |false=>
    rw [hpre] at hxx;clear hT hbk hO hX;refine sW ?_;refine zT9 rfl htm<|sW ?_;refine zx hsl<|sW ?_;refine zS (r:=i+1) rfl tO ?_;refine zAR (L2St.mk (i+1) (H.length+1)) rfl ⟨rfl,⟨hob2,hb2,h42,h52,hnd2⟩,by simp only;omega,fun j u hj hu=>?_⟩ (by simp only;omega)
    by_cases hji:j=i
    ·subst hji;rw [ht] at hu;cases hu;exact hpre
    ·exact hno j u (by simp only at hj;omega) hu
   |true=>
    rw [hpre] at hxx;obtain ⟨⟨hm1,hm2⟩,hm3,hm4⟩:=zau (n:=n) (d:=d) hl3 hal ht hpre hno;rw [hm4] at hq;have hoo:=fun H'=>hO t H' hm3;have htw:=fun H'=>hT (skip s a+t.length) H' tO hm1 (.inr tO);have hee:=fun q=>zV4_ (d:=d) (q:=q) hl3 hm1;clear hT hbk hO hX hm4 hx;have hpa2:p<skip s a+t.length:=by omega
    generalize hA3:skip s a+t.length=a2 at *;generalize skip s a=a1 at *;refine sW ?_;refine zT9 rfl htm<|sW ?_;refine zx hsl<|sW ?_;refine zS (r:=a2) tO tO<|sS (.int .i64 ↑a2) [.str s,.int .i64 ↑a2,zK d] ?_;refine sW ?_;refine zS (r:=l+1) rfl tO ?_
    cases hr2:twS s (l+1) a2 d with
    |none=>
     rw [hr2] at htw hq;have hq:none=r:=hq;subst hq;have hc:=fun H' h1=>(htw H' h1).2 rfl;clear htw hee;have e0:mkR s d none=none:=rfl;rw [e0];refine zHN ?_ ?_
     ·refine sW ?_;refine zA6 (hc _ hP) ?_;exact sP
     ·refine zA6 (hc _ hP) ?_;exact sP
    |some q2=>
     obtain ⟨n2,e2⟩:=q2;have hee2:=hee _ hr2;rw [hr2] at htw hq;have hq:bl s ((P s).ll (l+1) (zAr (zCE t) n n2) e2 d)=r:=hq;have hc:=fun H' h1=>(htw H' h1).1 n2 e2 rfl;clear htw hee hr2;obtain ⟨⟨hk1,hk2⟩,hk3⟩:=hee2;simp only at hk1 hk2 hk3;have hnd3:=(hnd2.set hb2 (rdB s a2 d)).set (b:=b) (cs:=[.str s,zK a2,zK d]) hP (rdB s e2 d);have hob3:=(hob2.setB (rdB s a2 d)).setB (rdB s e2 d);have hb3:((H2.set b (rdB s a2 d)).set b (rdB s e2 d))[b]?=some (rdB s e2 d):=hP;have h43:((H2.set b (rdB s a2 d)).set b (rdB s e2 d))[H.length]?=some (.box (ndC zZ)):=hP;have h53:((H2.set b (rdB s a2 d)).set b (rdB s e2 d))[H.length+1]?=some (.box (ndX n x)):=hP;obtain ⟨H4,hz,hl4',hbx,hol⟩:=hnd3.frz 0 (zl6 _);have hz2:zLg 0 [.agg (ndX n x),ndV n2] ((H2.set b (rdB s a2 d)).set b (rdB s e2 d))=some ([ndV n,ndV n2],H4):=zHr hz rfl;have hob4:OldB H b (rdB s e2 d) H4:=⟨hbl,hol hbl hob3.old⟩;have hb4:=hbx _ _ hb3;have h44:=hbx _ _ h43;have h54:=hbx _ _ h53;have h44l:=(zl_ h54);clear hbx hol hz hnd3 hnd2 hob2;refine zHN ?_ ?_
     ·refine sW ?_;refine zCY (hc _ hP)<|zG0 [ndV n,ndV n2] H4 hz2 rfl<|sW ?_;refine sS (.agg (ndX (zAr (zCE t) n n2) (.sl (some false) H4.length 12 0 2))) (ndX (zAr (zCE t) n n2) (.sl (some false) H4.length 12 0 2)) ?_;refine ⟨rfl,zAR (T2St.mk (H.length+1) e2 (zAr (zCE t) n n2) (.sl (some false) H4.length 12 0 2)) rfl ⟨⟨rfl,⟨(hob4.push _).set tO _,hP,hP,hP,.inr ⟨zCE t,n,n2,H4.length,rfl,rfl,hP,by omega⟩,hk2,hk3,hq⟩⟩,by simp only;omega⟩ (by simp only;omega)⟩
     ·refine zCY (hc _ hP)<|sW ?_;refine zG0 [ndV n,ndV n2] H4 hz2 rfl<|sW ?_;refine sS (.agg (ndX (zAr (zCE t) n n2) (.sl (some false) H4.length 12 0 2))) (ndX (zAr (zCE t) n n2) (.sl (some false) H4.length 12 0 2)) ?_;refine ⟨rfl,zAR (T2St.mk (H.length+1) e2 (zAr (zCE t) n n2) (.sl (some false) H4.length 12 0 2)) rfl ⟨⟨rfl,⟨(hob4.push _).set tO _,hP,hP,hP,.inr ⟨zCE t,n,n2,H4.length,rfl,rfl,hP,by omega⟩,hk2,hk3,hq⟩⟩,by simp only;omega⟩ (by simp only;omega)⟩
  ·have hdone:bl s ((P s).ll (l+1) n a d)=some (n,skip s a):=zat hal hx fun t ht=>by
    obtain ⟨j,hj⟩:=zmB ht;exact hno j t (by have:=(zl_ hj);omega) hj
   rw [hdone] at hq;subst hq;have e0:mkR s d (some (n,skip s a))=some (ndV n,rdB s (skip s a) d):=rfl;rw [e0];clear hT hbk hO hX hdone;generalize skip s a=a1 at *;refine sW ?_;refine zL (v:=.agg (ndX n x)) (ndX n x) hP rfl hnd2.one rfl rfl ?_;obtain ⟨H4,hz,hl4',hbx,hol⟩:=(hnd2.set h42 (.box (ndX n x))).frz H.length (zlK _);have hob3:=hob2.set (c:=H.length) (zlK _) (.box (ndX n x));exact zAH (o:=0) (.agg (ndX n x)) rfl rfl rfl (zI hP) rfl hz (zKC _ _) ⟨hbl,hol hbl hob3.old⟩ rfl
 generalize n0=n at *;generalize e0=a at *;have hal:=hq1.2;have hx:=hq2;have hq:=hr;obtain ⟨x,hxe⟩:∃ x,x=AV.lst (some n.kq) n.kk (kxs n):=⟨_,rfl⟩;have hA1:=zFt s a;have hA2:=zCX hal;refine sW ?_;refine zS (r:=l+1) rfl tO<|zCY (hc0 _ hP)<|sSA (ndV n) ?_;refine sW ?_;refine zBF ⟨by omega,by omega⟩<|zhb hG<|zA9 (.lst (some false) 1 ((sgn l).map AV.str)) (zRr hl3 zS_)<|zQq ?_;refine zBG (fun st:L2St=>[(5,pR st.m),(1,zK l),(0,pR b),(4,pR H.length),(22,zK st.i),(20,.lst (some false) 1 ((sgn l).map AV.str)),(21,.int .i64 ((sgn l).map AV.str).length)])
  (fun st H'=>st.m=H.length+1/\(OldB H b (rdB s (skip s a) d) H'/\H'[b]?=some (rdB s (skip s a) d)/\H'[H.length]?=some (.box (ndC zZ))/\H'[H.length+1]?=some (.box (ndX n x))/\NdO H H' n x)/\st.i<=(sgn l).length/\∀ j u,j<st.i->(sgn l)[j]?=some u->u.isPrefixOf (s.drop (skip s a))=false)
  (fun st=>(sgn l).length-st.i) ⟨0,_⟩ rfl ⟨hZ _ _,⟨((((((OldB.start hb).push _).setB _).push _).set zS_ _).setB _),hP,hP,by rw [hxe,<-hZ (.box (ndC zZ)) (rdB s a d)];exact hP,.inl hxe⟩,zl6 _,fun j u h=>absurd h (zmP _)⟩ (fun ⟨i,m⟩ H2 ⟨hm,⟨hob2,hb2,h42,h52,hnd2⟩,hi,hno⟩=>?_)
 clear hb;dsimp only at hm hi hno ⊢;subst hm;have h5l:=(zl_ h52);have hlm:((sgn l).map AV.str).length=(sgn l).length:=zlM _;have hsg:(sgn l).length<=6:=zav l;by_cases hlt:i<(sgn l).length
 ·obtain ⟨t,ht⟩:∃ t,(sgn l)[i]?=some t:=⟨_,zlI hlt⟩;have htm:((sgn l).map AV.str)[i]?=some (.str t):=by rw [zlQ,ht];rfl
  have hsl:zB9 none (.str s) (some (zK (skip s a))) none=some (.str (s.drop (skip s a))):=zIv s _ hA2;have hxx:=hX (s.drop (skip s a)) t H2;cases hpre:t.isPrefixOf (s.drop (skip s a)) with
  |false=>
   rw [hpre] at hxx;clear hT hbk hO hX hc0;refine sW ?_;refine zT9 rfl htm<|sW ?_;refine zx hsl<|sW ?_;refine zS (r:=i+1) rfl tO ?_;refine zAR (L2St.mk (i+1) (H.length+1)) rfl ⟨rfl,⟨hob2,hb2,h42,h52,hnd2⟩,by simp only;omega,fun j u hj hu=>?_⟩ (by simp only;omega)
   by_cases hji:j=i
   ·subst hji;rw [ht] at hu;cases hu;exact hpre
   ·exact hno j u (by simp only at hj;omega) hu
  |true=>
   rw [hpre] at hxx;obtain ⟨⟨hm1,hm2⟩,hm3,hm4⟩:=zau (n:=n) (d:=d) hl3 hal ht hpre hno;rw [hm4] at hq;have hoo:=fun H'=>hO t H' hm3;have htw:=fun H'=>hT (skip s a+t.length) H' tO hm1 (.inr tO);have hee:=fun q=>zV4_ (d:=d) (q:=q) hl3 hm1;clear hT hbk hO hX hm4 hx hc0;have hpa2:p<skip s a+t.length:=by omega
   generalize hA3:skip s a+t.length=a2 at *;generalize skip s a=a1 at *;refine sW ?_;refine zT9 rfl htm<|sW ?_;refine zx hsl<|sW ?_;refine zS (r:=a2) tO tO<|sS (.int .i64 ↑a2) [.str s,.int .i64 ↑a2,zK d] ?_;refine sW ?_;refine zS (r:=l+1) rfl tO ?_
   cases hr2:twS s (l+1) a2 d with
   |none=>
    rw [hr2] at htw hq;have hq:none=r:=hq;subst hq;have hc:=fun H' h1=>(htw H' h1).2 rfl;clear htw hee;have e0:mkR s d none=none:=rfl;rw [e0];refine zHN ?_ ?_
    ·refine sW ?_;refine zA6 (hc _ hP) ?_;exact sP
    ·refine zA6 (hc _ hP) ?_;exact sP
   |some q2=>
    obtain ⟨n2,e2⟩:=q2;have hee2:=hee _ hr2;rw [hr2] at htw hq;have hq:bl s ((P s).ll (l+1) (zAr (zCE t) n n2) e2 d)=r:=hq;have hc:=fun H' h1=>(htw H' h1).1 n2 e2 rfl;clear htw hee hr2;obtain ⟨⟨hk1,hk2⟩,hk3⟩:=hee2;simp only at hk1 hk2 hk3;have hnd3:=(hnd2.set hb2 (rdB s a2 d)).set (b:=b) (cs:=[.str s,zK a2,zK d]) hP (rdB s e2 d);have hob3:=(hob2.setB (rdB s a2 d)).setB (rdB s e2 d);have hb3:((H2.set b (rdB s a2 d)).set b (rdB s e2 d))[b]?=some (rdB s e2 d):=hP;have h43:((H2.set b (rdB s a2 d)).set b (rdB s e2 d))[H.length]?=some (.box (ndC zZ)):=hP;have h53:((H2.set b (rdB s a2 d)).set b (rdB s e2 d))[H.length+1]?=some (.box (ndX n x)):=hP;obtain ⟨H4,hz,hl4',hbx,hol⟩:=hnd3.frz 0 (zl6 _);have hz2:zLg 0 [.agg (ndX n x),ndV n2] ((H2.set b (rdB s a2 d)).set b (rdB s e2 d))=some ([ndV n,ndV n2],H4):=zHr hz rfl;have hob4:OldB H b (rdB s e2 d) H4:=⟨hbl,hol hbl hob3.old⟩;have hb4:=hbx _ _ hb3;have h44:=hbx _ _ h43;have h54:=hbx _ _ h53;have h44l:=(zl_ h54);clear hbx hol hz hnd3 hnd2 hob2;refine zHN ?_ ?_
    ·refine sW ?_;refine zCY (hc _ hP)<|zG0 [ndV n,ndV n2] H4 hz2 rfl<|sW ?_;refine sS (.agg (ndX (zAr (zCE t) n n2) (.sl (some false) H4.length 12 0 2))) (ndX (zAr (zCE t) n n2) (.sl (some false) H4.length 12 0 2)) ?_
     exact ⟨rfl,hmk ⟨H.length+1,e2,zAr (zCE t) n n2,.sl (some false) H4.length 12 0 2⟩ _ ⟨rfl,⟨(hob4.push _).set tO _,hP,hP,hP,.inr ⟨zCE t,n,n2,H4.length,rfl,rfl,hP,by omega⟩,hk2,hk3,hq⟩⟩ (by simp only;omega)⟩
    ·refine zCY (hc _ hP)<|sW ?_;refine zG0 [ndV n,ndV n2] H4 hz2 rfl<|sW ?_;refine sS (.agg (ndX (zAr (zCE t) n n2) (.sl (some false) H4.length 12 0 2))) (ndX (zAr (zCE t) n n2) (.sl (some false) H4.length 12 0 2)) ?_
     exact ⟨rfl,hmk ⟨H.length+1,e2,zAr (zCE t) n n2,.sl (some false) H4.length 12 0 2⟩ _ ⟨rfl,⟨(hob4.push _).set tO _,hP,hP,hP,.inr ⟨zCE t,n,n2,H4.length,rfl,rfl,hP,by omega⟩,hk2,hk3,hq⟩⟩ (by simp only;omega)⟩
 ·have hdone:bl s ((P s).ll (l+1) n a d)=some (n,skip s a):=zat hal hx fun t ht=>by
   obtain ⟨j,hj⟩:=zmB ht;exact hno j t (by have:=(zl_ hj);omega) hj
  rw [hdone] at hq;subst hq;have e0:mkR s d (some (n,skip s a))=some (ndV n,rdB s (skip s a) d):=rfl;rw [e0];clear hT hbk hO hX hdone hc0;generalize skip s a=a1 at *;refine sW ?_;refine zL (v:=.agg (ndX n x)) (ndX n x) hP rfl hnd2.one rfl rfl ?_;obtain ⟨H4,hz,hl4',hbx,hol⟩:=(hnd2.set h42 (.box (ndX n x))).frz H.length (zlK _);have hob3:=hob2.set (c:=H.length) (zlK _) (.box (ndX n x));exact zAH (o:=0) (.agg (ndX n x)) rfl rfl rfl (zI hP) rfl hz (zKC _ _) ⟨hbl,hol hbl hob3.old⟩ rfl
end
structure ParK (PR:Program):Prop where
 hm:PR.follows .mixedOrders=true
 contains:zt PR zz zBe=true
 mkSet:zt PR zBV zDV=true
 trimR:zt PR zBC zCu=true
 trimL:zt PR zBM zDF=true
 trim:zt PR zCU zHW=true
 slPre:zt PR zAZ zDE=true
 pre:zt PR zA7 zEb=true
 slTrim:zt PR zBD zCv=true
 trimP:zt PR zBP zD8=true
 wrong:zt PR zCK zIf=true
 is:zt PR zCm zNQ=true
 whole:zt PR zDD zIk=true
 lit:zt PR zAd zGW=true
 ref:zt PR zBg zNS=true
 dollar:zt PR zEs zIl=true
 wordly:zt PR zA5 zEU=true
 called:zt PR zA4 zFs=true
 plain:zt PR zAx zGX=true
 opOf:zt PR zED zHU=true
 fail:zt PR zV zDR=true
 blanks:zt PR zW zCp=true
 word:zt PR zAI zDU=true
 want:zt PR z8 zDS=true
 within:zt PR zp zCr=true
 text:zt PR zBU zDT=true
 neg:zt PR zAW zDk=true
 negc:zt PR zBB zCs=true
 prim:zt PR zBT zAA=true
 prim1:zt PR zAg zCV=true
 prim2:zt PR zAN zCW=true
 call:zt PR zB5 zB6=true
 argument:zt PR zBS zCD=true
 two:zt PR zj zCO=true
structure ParG (PR:Program) (GT:zG_):Prop where
 atoi:∀ s H,zEf s->zEK (zOr s)->s.length<=1000->Good PR GT zBb [.str s] H (.tup [zH (zOr s),.nili]) H
 atoi2:∀ s H,zEf s->¬ zEK (zOr s)->s.length<=1000->∃ n t,Good PR GT zBb [.str s] H (.tup [zH n,.iface t .undef]) H
 texts:GT zEv=some zQN
 loose:GT zEu=some zUa
section
variable {PR:Program} {GT:zG_}
theorem zQO (hm:PR.follows .mixedOrders=true) {f:Nat} {F:AF} {args:List AV} {H:Heap} {b:Nat} {s:Bs} {d:Nat} {r:Option (Nd×Nat)} (hc:zt PR f F=true) (h:zCw (Good PR GT) GT F args H b (wkC s) zHh (mkR s d r)) (hn:zKZ args=true:=by rfl):CR (Good PR GT) f args H b s d r:=
 have h:=zAs hm hc h hn
 ⟨fun n e hr=>h.1 _ _ (by subst hr;rfl),fun hr=>h.2 (by subst hr;rfl)⟩
section
variable (k:ParK PR)
include k
theorem zRs (b:Nat) (g:Nat->Bool) (c:UInt8) (H:Heap) (hb:H[b]?=some (.box (zK2 g))):Good PR GT zz [pR b,byV c] H (.bool (g c.toNat)) H:=zF k.hm k.contains (zVy b g c H hb)
theorem zhc (cs:Bs) (H:Heap) (hcs:∀ c∈cs,c.toNat<128) (hl:cs.length<=1000):Good PR GT zBV [.str cs] H (.tup [.agg (zK2 (zKA cs)),.bool true]) H:=zF k.hm k.mkSet (zeF cs H hcs hl)
section
variable (s cs:Bs) (b:Nat) (H:Heap) (hb:H[b]?=some (.box (zK2 (zKA cs)))) (hl:s.length<=1000)
include s cs b H hb hl
theorem zhd:Good PR GT zBC [.str s,pR b] H (.str (zOq s cs)) H:=zF k.hm k.trimR (zeG (zRs k) s cs b H hb hl)
theorem zhe:Good PR GT zBM [.str s,pR b] H (.str (s.dropWhile fun c=>zKA cs c.toNat)) H:=zF k.hm k.trimL (zeH (zRs k) s cs b H hb hl)
end
theorem zgm (s cs:Bs) (H:Heap) (hcs:∀ c∈cs,c.toNat<128) (hc2:2<=cs.length) (hcl:cs.length<=1000) (hl:s.length<=1000):Good PR GT zCU [.str s,.str cs] H (.str (zRM s cs)) H:=zF k.hm k.trim (zeI (zhc k) (zhd k) (zhe k) s cs H hcs hc2 hcl hl)
theorem zaw (s p:Bs) (H:Heap):Good PR GT zAZ [.str s,.str p] H (.bool (p.isPrefixOf s)) H:=zF k.hm k.slPre (zUT s p H)
theorem zhf (s p:Bs) (H:Heap):Good PR GT zA7 [.str s,.str p] H (.bool (p.isPrefixOf s)) H:=zF k.hm k.pre (zaW (zaw k) s p H)
theorem zef (s p:Bs) (H:Heap):Good PR GT zBD [.str s,.str p] H (.str (if p.isPrefixOf s=true then s.drop p.length else s)) H:=zF k.hm k.slTrim (zOs (zaw k) s p H)
theorem zhg (s p:Bs) (H:Heap):Good PR GT zBP [.str s,.str p] H (.str (if p.isPrefixOf s=true then s.drop p.length else s)) H:=zF k.hm k.trimP (zS0 (zef k) s p H)
theorem zhh (s:Bs) (H:Heap):Good PR GT zBP [.str s,.str [45]] H (.str (zD5 s).2) H:=by
 have h:=zhg (GT:=GT) k s [45] H;have e:(if ([45]:Bs).isPrefixOf s=true then s.drop ([45]:Bs).length else s)=(zD5 s).2:=by
  cases s with
  |nil=>rfl
  |cons c r=>
   unfold zD5;by_cases hc:c=45
   ·subst hc;rfl
   ·have h1:([45]:Bs).isPrefixOf (c::r)=false:=by
     simp only [List.isPrefixOf,zm9];exact tN (fun e=>hc e.symm)
    rw [h1];simp only [zlD hc];rfl
 rw [e] at h;exact h
theorem zax (n:Int) (H:Heap):Good PR GT zCK [zH n] H (v3 4 n) H:=zF k.hm k.wrong (zeM n H)
theorem p_is (b:Bool) (H:Heap):Good PR GT zCm [.bool b] H (v3 3 (if b=true then 1 else 0)) H:=zF k.hm k.is (is_ev b H)
theorem zS3 (s:Bs) (H:Heap) (hl:s.length<=1000):Good PR GT zA4 [.str s] H (.bool (zA8 s)) H:=zF k.hm k.called (zad (zgm k) s H hl)
theorem zeg (b:Nat) (t:Bs) (H:Heap) (hb:H[b]?=some (.box [.str t])):Good PR GT zEs [pR b] H (.bool (dollar t).1) (H.set b (.box [.str (dollar t).2])):=(zAs k.hm k.dollar (zae b t H hb .undef)).1 _ _ rfl
theorem zjx (s:Bs) (H:Heap) (hl:s.length<=1000):Good PR GT zBg [.str s] H (zab (zFG s)) H:=zF k.hm k.ref (zjr (zeg k) s H hl)
theorem zhi (g:ParG PR GT) (s:Bs) (H:Heap) (hl:s.length<=1000):∃ n0,Good PR GT zDD [.str s] H (zaa (zRq s) n0) H:=by
 obtain ⟨n0,h⟩:=zeQ (zgm k) (zhh k) g.atoi g.atoi2 s H hl;exact ⟨n0,zF k.hm k.whole h⟩
theorem zjy (g:ParG PR GT) (s:Bs) (H:Heap):Good PR GT zAd [.str s] H (litV (zUZ s)) H:=zF k.hm k.lit (zYb g.texts (p_is k) (zax k) s H)
theorem zMl (c:UInt8) (H:Heap):Good PR GT zA5 [byV c] H (.bool (zh c)) H:=zF k.hm k.wordly (zYY c H)
theorem zK3 (b:Nat) (s:Bs) (p d:Nat) (a e:Int) (H:Heap) (hb:H[b]?=some (rdB s p d)):Good PR GT zV (.pan .undef::[pR b,.int .i64 a,zJG e]) H zHh (H.set b (.box (wkC s))):=(zAs k.hm k.fail (zeB b s p d a e H hb)).2 rfl
section
variable (b:Nat) (s:Bs) (p d:Nat) (H:Heap) (hb:H[b]?=some (rdB s p d)) (hp:p<=s.length) (hl:s.length<=200)
include b s p d H hb hp hl
theorem zIz:Good PR GT zW [pR b] H (.tup []) (H.set b (rdB s (skip s p) d)):=(zAs k.hm k.blanks (zaT b s p d H hb hp hl)).1 _ _ rfl
theorem zXJ:Good PR GT zAI [pR b] H (.str (sub s p (zDI s p))) (H.set b (rdB s (zDI s p) d)):=(zAs k.hm k.word (zhL (zMl k) b s p d H hb hp hl)).1 _ _ rfl
end
theorem zgn (t:Bs) (H:Heap) (h:zCE t≠0):Good PR GT zED [.str t] H (zK (zCE t)) H:=zF k.hm k.opOf (zhP t H h)
theorem zgo (c:UInt8) (b:Nat) (s:Bs) (p d:Nat) (H:Heap) (hb:H[b]?=some (rdB s p d)) (hp:p<=s.length) (hl:s.length<=200) :
  (s[skip s p]?=some c->Good PR GT z8 [pR b,byV c] H (.tup []) (H.set b (rdB s (skip s p+1) d)))/\(s[skip s p]?≠some c->Good PR GT z8 (.pan .undef::[pR b,byV c]) H zHh (H.set b (.box (wkC s)))):=
 have h:=zAs k.hm k.want (zhQ (C:=Good PR GT) (GT:=GT) (zIz k) (zK3 k) c b s p d H hb hp hl)
 ⟨fun hc=>h.1 _ _ (zlF hc),fun hc=>h.2 (zlD hc)⟩
theorem zS4 (f:Nat) (caps:List AV) (a:Int) (b:Nat) (s:Bs) (p d:Nat) (H:Heap) (r:Option (Nd×Nat)) (hb:H[b]?=some (rdB s p d)) (hd:d<=1000)
  (hC:∀ H',H'[b]?=some (rdB s p (d+1))->Off H b H'->CR (Good PR GT) f caps H' b s (d+1) r):CR (Good PR GT) zp [pR b,.int .i64 a,.fn f [] caps] H b s d (if d=30 then none else r):=
 zQO k.hm k.within (zaf (zK3 k) f caps a b s p d H hb hd r hC)
theorem zjz (b:Nat) (s:Bs) (p d:Nat) (H:Heap) (hb:H[b]?=some (rdB s p d)) (hp:p<s.length) (hl:s.length<=200):CR (Good PR GT) zBU [pR b] H b s d ((quo (s.drop (p+1)) (p+1)).map fun q=>(zHd q.1,q.2)):=
 zQO k.hm k.text (zhT (zK3 k) b s p d H hb hp hl)
theorem zay (g:ParG PR GT) (t:Bs) (H:Heap) (hl:t.length<=1000) (h45:t.head?≠some 45) (h35:t.head?≠some 35):Good PR GT zAx [.str t] H (zMi (zIu t)) H:=zF k.hm k.plain (zeU (zhi k g) (zjy k g) (zjx k) t H hl h45 h35)
theorem zj0 (g:ParG PR GT) (b:Nat) (s:Bs) (p d:Nat) (H:Heap) (hb:H[b]?=some (rdB s p d)) (hp:p<=s.length) (hl:s.length<=200) (hd:d<=1000) (h32:s[p]?≠some 32) (h45:s[p]?≠some 45)
  (hPa:s[p]?=some 40->∀ H' rb,H'[b]?=some (rdB s p (d+1))->H'[rb]?=some (.box [pR b])->CR (Good PR GT) zAg [pR rb] H' b s (d+1) (zeT s p (d+1)))
  (hCl:∀ e t,s[e]?=some 40->p<e->∀ H' rb sb,H'[b]?=some (rdB s e (d+1))->H'[rb]?=some (.box [pR b])->H'[sb]?=some (.box [.str t])->CR (Good PR GT) zAN [pR rb,pR sb] H' b s (d+1) (zJY s t e (d+1))) :
  CR (Good PR GT) zBT [pR b] H b s d (zB8 s (P s) p d):=by
 refine zQO k.hm k.prim ?_;by_cases hlt:p<s.length
 ·obtain ⟨c,hc⟩:∃ c,s[p]?=some c:=⟨_,zlI hlt⟩;by_cases h40:c=40
  ·subst h40;exact zeY (zS4 k) b s p d H hb hp hl hd hc hPa
  by_cases h34:c=34
  ·subst h34;exact zeZ (zjz k) b s p d H hb hp hl hd hc
  by_cases h35:c=35
  ·subst h35;exact zea (zK3 k) (zjy k g) b s p d H hb hp hl hd hc
  by_cases hw:zh c=true
  ·by_cases h41:s[zDI s p]?=some 40
   ·by_cases hcd:zA8 (sub s p (zDI s p))=true
    ·exact zal (zMl k) (zXJ k) (zS3 k) (zS4 k) b s p d H hb hp hl hd c hc hw h41 hcd hCl
    ·exact zV1_ (zK3 k) (zMl k) (zXJ k) (zS3 k) (zay k g) b s p d H hb hp hl hd c hc hw h41 hcd
   ·exact zV2_ (zK3 k) (zMl k) (zXJ k) (zay k g) b s p d H hb hp hl hd c hc hw h41
  ·exact zak (zK3 k) (zMl k) b s p d H hb hp hl hd c hc h32 h45 h40 h34 h35 hw
 ·exact zeX (zK3 k) b s p d H hb hp hl hd hlt
end
theorem zaz (s:Bs) (p d:Nat):twS s 0 p d=bl s ((P s).loose 1 p d):=zlD zD_
theorem p_two (k:ParK PR) (g:ParG PR GT) (b:Nat) (s:Bs) (hl:s.length<=200):∀ n p,p<=s.length->s.length-p=n->∀ d H,d+(s.length-p)<=500->H[b]?=some (rdB s p d) ->
  CR (Good PR GT) zAW [pR b] H b s d ((P s).one p d)/\∀ l,l<=4->CR (Good PR GT) zj [pR b,zK l] H b s d (twS s l p d):=by
 intro n;induction n using Nat.strongRecOn with
 |_ n ih=>
  intro p hp hn d H hd hb;have ih':=fun p' (h1:p<p') (h2:p'<=s.length) d' H' h3 h4=>ih (s.length-p') tO p' h2 rfl d' H' h3 h4;clear ih;have h0:∀ p',p<p'->p'<=s.length->∀ d' H',d'+(s.length-p')<=500->H'[b]?=some (rdB s p' d')->CR (Good PR GT) zj [pR b,zH 0] H' b s d' (bl s ((P s).loose 1 p' d')):=fun p' h1 h2 d' H' h3 h4=>by
   have:=(ih' p' h1 h2 d' H' h3 h4).2 0 tO;rw [zaz] at this;exact this
  have hneg:∀ H,H[b]?=some (rdB s p d)->CR (Good PR GT) zAW [pR b] H b s d ((P s).one p d):=fun H hb=>by
   have hq:=zFt s p;have hq2:=zCX hp;refine zQO k.hm k.neg (zju (zIz k) (zS4 k) b s p d H hb hp hl tO (fun h45 H' rb h1 h2=>?_) (fun h45 H' h1=>?_))
   ·have hlt:=(zl_ h45);exact zQO k.hm k.negc (zhR b rb s (skip s p) (d+1) H' h1 h2 hlt hl fun H'' h3=>(ih' (skip s p+1) tO tO (d+1) H'' tO h3).1)
   ·refine zj0 k g b s (skip s p) d H' h1 hq2 hl tO (zVv s p) h45 (fun h40 H'' rb h2 h3=>?_) (fun e t h40 he H'' rb sb h2 h3 h4=>?_)
    ·have hlt:=(zl_ h40);exact zQO k.hm k.prim1 (zjs (zgo k) b rb s (skip s p) (d+1) H'' h2 h3 hlt hl fun H3 h4=>h0 (skip s p+1) tO tO (d+1) H3 tO h4)
    ·have hlt:=(zl_ h40);refine zQO k.hm k.prim2 (zeV b rb sb s t e (d+1) H'' h2 h3 h4 _ fun H3 h5=>?_);refine zQO k.hm k.call (zha (zIz k) (zgo k) t b s e (d+1) H3 h5 hlt hl fun a H4 h6 h7 h8=>?_);have ha:=zFt s a;have ha2:=zCX h7;refine zQO k.hm k.argument (zjv (zIz k) (zK3 k) (zXJ k) (zjx k) b s a (d+1) H4 h8 h7 hl fun H5 h9=>?_);have:=h0 (skip s a) tO ha2 (d+1) H5 tO h9;rw [zRo 1 (d+1) h7] at this;exact this
  refine ⟨hneg H hb, ?_⟩;have hall:∀ j l,l+j=4->∀ H,H[b]?=some (rdB s p d)->CR (Good PR GT) zj [pR b,zK l] H b s d (twS s l p d):=by
   intro j;induction j with
   |zero=>
    intro l hlj H hb;exact zQO k.hm k.two (zgl (zIz k) (zgn k) (zhf k) g.loose l b s p d H hb hp hl tO (fun H' _ h=>hneg H' h) (fun a H' h=>by omega))
   |succ j ihj=>
    intro l hlj H hb;refine zQO k.hm k.two (zgl (zIz k) (zgn k) (zhf k) g.loose l b s p d H hb hp hl tO (fun H' h=>by omega) (fun a H' h1 h2 h3 h4 h5=>?_));rcases h4 with rfl|h4
    ·exact ihj (l+1) tO H' h5
    ·exact (ih' a h4 h3 d H' tO h5).2 (l+1) tO
  exact fun l hl4=>hall (4-l) l tO H hb
end
open Go.RowKit Go.Proofs
def zHG:Value:=.iface 186 (.agg #[.pointer (some ⟨11,26,none⟩)])
def zeh:AV:=.agg (Lib.pow10Tab.map fun z=>.int .u64 z)
def gtQ (m:Int) (ev:Value):Nat->Option AV
 |0=>some (.raw zHG)
 |1=>some zUa
 |2=>some zQN
 |3=>some (.int .i64 m)
 |6=>some zeh
 |8=>some (.raw ev)
 |_=>none
theorem zhj {m:Int} {ev:Value} (n old:Int) (b:Nat) (H:Heap) (hb:H[b]?=some (.box [.int .i64 old])):Good Tryz.prog (gtQ m ev) zLI [.iface zO (.int .i64 n),.iface zJl (.ref b 0 0 0)] H (.bool true) (H.set b (.box [.int .i64 n])):=by
 intro w M I cargs hS hA;obtain ⟨v,u,rfl,hv,hu⟩:=zSp hA;cases hv with
 |iface _ _ v' hv'=>
 obtain rfl:=zIq hv';cases hu with
 |iface _ _ u' hu'=>
 cases hu' with
 |ref _ _ _ _ g o hbn hM=>
 have h0:=hS.glob 0 (.raw zHG) rfl;have hg:w.cell? ⟨0,0,none⟩=some zHG:=by
  cases h0 with
  |lref _ _ _ _ V hI hx hvv hr=>
   have h1:=hvv 0 (.raw zHG) rfl;have h2:=hr 0 (.raw zHG) rfl;rw [h1,zXB h2]
 obtain ⟨g',o',cur,h1,hC,h3,h4,h5⟩:=hS.blk b _ hb;rw [hM] at h1;simp only [zlJ,zlT] at h1;obtain ⟨rfl,rfl⟩:=h1;obtain ⟨u0,e1,e2⟩:=h5 0 _ rfl;obtain rfl:=zIq e2;rw [zm3] at e1;have ht0:w.cell? ⟨g,o,none⟩=some (.int .i64 old):=by rw [hC.cell?];exact e1
 have hf0:w.frozen? ⟨g,o,none⟩=false:=by
  obtain ⟨e,fz,hg',hfz⟩:=hC;have hlt:=(zlZ.1 e1).1;have:=hfz o hlt;simp only [World.frozen?,hg',znT,zmK];by_cases h:fz.1<=o
  ·exact .inr fun h'=>this ⟨h,h'⟩
  ·exact .inl h
 rw [zaN Tryz.func57 (by kernel_rfl) (by kernel_rfl)];refine (Go.Proofs.YtkeblfepjkdleaaGreatDoor.As.as_hit n ⟨g,o,none⟩ (.int .i64 old) w hg ht0 hf0).mono ?_;rintro e w' ⟨rfl,rfl⟩;refine ⟨_,rfl,M,I, ?_⟩;obtain ⟨G1,S1⟩:=zIr hS (((((Below.refl w.heap.size w).alloc (zlK _) (.cells #[.pointer (some ⟨g,o,none⟩)] 104)).alloc (by simp <;> omega) (.cells #[.pointer (some ⟨11,104,none⟩),.pointer (some ⟨w.heap.size,0,none⟩),.int .u64 150] 148)).alloc (by simp <;> omega) (.cells #[.pointer (some ⟨11,104,none⟩),.pointer (some ⟨w.heap.size,0,none⟩),.int .u64 150] 148)).alloc (by simp <;> omega) (.cells #[.int .i64 n] 45));obtain ⟨G2,S2⟩:=zVu S1 hb hM (x:=.int .i64 n) (v:=.int .i64 n) (fun _=>.int _ _);exact ⟨G1.trans G2,S2,.bool true⟩
section
variable {C:CSpec} {GT:zG_}
theorem zV5_ (H:Heap):EFun C GT zJq [.nili] H (.int .i64 0) H:=by
 refine zx rfl ?_;refine zE ?_;exact sRr
theorem zV6_ (hA:∀ (n old:Int) (b:Nat) (H:Heap),H[b]?=some (.box [.int .i64 old])->C zLI [.iface zO (.int .i64 n),.iface zJl (.ref b 0 0 0)] H (.bool true) (H.set b (.box [.int .i64 n])))
  (n:Int) (H:Heap):EFun C GT zJq [zJG n] H (.int .i64 n) H:=by
 refine zx rfl ?_;refine zG ?_;have h:=hA n 0 H.length (H++[ABlk.box [.int .i64 0]]) zB;refine zCI h (fun h=>by cases h) ?_;refine zE ?_;refine zA (.int .i64 n) (zU zB) rfl ?_;exact zAv rfl rfl rfl rfl ((Old.refl H).pushSet _ _)
theorem zhk (hT0:∀ H,C zEh [.nili] H (.int .i64 0) H) (hT:∀ n H,C zEh [zJG n] H (.int .i64 n) H) (x:AV) (n e:Int) (hx:zjl x n) (H:Heap):EFun C GT zJm [x,.int .i64 e] H (.bool (n==e)) H:=by
 rcases hx with ⟨rfl,rfl⟩|rfl
 ·refine zM (hT0 H) ?_;exact sRr
 ·refine zM (hT n H) ?_;exact sRr
end
end Go.AM
