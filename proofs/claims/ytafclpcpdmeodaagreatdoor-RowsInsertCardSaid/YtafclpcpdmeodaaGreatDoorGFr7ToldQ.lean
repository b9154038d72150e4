/- Several texts of mine in one (Fr7, Fm, ToldQ). Own work. -/
import Derived.Test.YtafclpcpdmeodaaGreatDoorGFq0Bg0
import Derived.Test.YtafclpcpdmeodaaGreatDoorGFp3Fr6
import Derived.Test.YtafclpcpdmeodaaGreatDoorAsQ
import Derived.Lib.LaidTab
import Derived.Shelf.Strconv.Itoa3
import Derived.Test.YtafclpcpdmeodaaGreatDoorXk
import Derived.Test.YtafclpcpdmeodaaGreatDoorGAm23Am29
set_option linter.all false
set_option maxRecDepth 20000
namespace Go.AM
theorem tw_bind {s:Bs} {l e d:Nat} (hl:l<=3) (he:e<=s.length) (g:Nd->Nd):(((P s).loose (l+2) e d).bind fun q=>bl s ((P s).ll (l+1) (g q.1) q.2 d))=(twS s (l+1) e d).bind fun q=>bl s ((P s).ll (l+1) (g q.1) q.2 d):=by
 unfold twS;by_cases h3:l=3
 ·subst h3;rw [zQQ rfl,loose_top d he]
 ·rw [zQN tO];cases h:(P s).loose (l+2) e d with
  |none=>rfl
  |some q=>
   have:=(zCv s).loose _ e d q he h;show bl s ((P s).ll (l+1) (g q.1) q.2 d)=bl s ((P s).ll (l+1) (g q.1) (skip s q.2) d);rw [ll_skip _ _ _ this.2]
theorem tw_ends {s:Bs} {l e d:Nat} (hl:l<=3) (he:e<=s.length) {q:Nd×Nat} (h:twS s (l+1) e d=some q):(e<q.2/\q.2<=s.length)/\∀ op e',zH1 s q.2=some (op,e')->tight op<l+2:=by
 unfold twS at h;by_cases h3:l=3
 ·subst h3;rw [zQQ rfl] at h;exact ⟨(zCv s).one e d q he h,fun op e' _=>by have:=(tight_le op).2;omega⟩
 ·rw [zQN tO] at h;unfold bl at h;rw [zQX] at h;obtain ⟨q',h1,rfl⟩:=h;have h2:=(zCv s).loose _ e d q' he h1;have h4:=zFi s q'.2;have h5:=zCS h2.2;refine ⟨⟨by simp only;omega,h5⟩,fun op e' ho=>?_⟩;simp only [zP0] at ho;exact loose_exit _ d he h1 op e' ho
theorem tw_start {s:Bs} {l p d:Nat} (hl:l<=3) (hp:p<=s.length):twS s l p d=(twS s (l+1) p d).bind fun q=>bl s ((P s).ll (l+1) q.1 q.2 d):=by
 rw [<-tw_bind hl hp (fun n=>n)]
 conv=>lhs;unfold twS
 rw [zQN tO,loose_split (l+1) d hp];cases (P s).loose (l+2) p d <;> rfl
theorem ll_done {s:Bs} {l d a:Nat} {n:Nd} (ha:a<=s.length) (hx:∀ op e,zH1 s a=some (op,e)->tight op<l+2) (hno:∀ t,t∈sgn l->t.isPrefixOf (s.drop (skip s a))=false):bl s ((P s).ll (l+1) n a d)=some (n,skip s a):=by
 rw [P_ll _ n d ha];unfold zOd;cases h:zH1 s a with
 |none=>rfl
 |some x=>
  obtain ⟨op,e⟩:=x;have h1:=hx op e h;have h2:=op_none (skip_at s a) hno (by rw [zP0];exact h);simp only;rw [zQQ tO];rfl
theorem ll_more {s:Bs} {l d a i:Nat} {n:Nd} {t:Bs} (hl:l<=3) (ha:a<=s.length) (ht:(sgn l)[i]?=some t) (hp:t.isPrefixOf (s.drop (skip s a))=true) (hno:∀ j u,j<i->(sgn l)[j]?=some u->u.isPrefixOf (s.drop (skip s a))=false) :
  (skip s a+t.length<=s.length/\skip s a<skip s a+t.length)/\zCA t≠0/\bl s ((P s).ll (l+1) n a d)=(twS s (l+1) (skip s a+t.length) d).bind fun q=>bl s ((P s).ll (l+1) (zAl (zCA t) n q.1) q.2 d):=by
 obtain ⟨h1,h2,h3⟩:=op_match ht hp hno;have he:=zDi h1;refine ⟨⟨he.2,he.1⟩,h3, ?_⟩;rw [<-ll_skip _ _ _ ha,P_ll _ n d (zCS ha)];unfold zOd;rw [h1];simp only;rw [zQN tO,<-tw_bind hl he.2 (fun m=>zAl (zCA t) n m),h2];cases (P s).loose (l+1+1) (skip s a+t.length) d <;> rfl
def ndX (n:Nd) (x:AV):List AV:=[.int .i64 n.kind,.int .i64 n.num,.str n.text,.int .i64 n.ref.col,.int .i64 n.ref.row,.bool n.ref.fc,.bool n.ref.fr,.int .i64 n.to.col,.int .i64 n.to.row,.bool n.to.fc,.bool n.to.fr,x]
def NdO (H0 H:Heap) (n:Nd) (x:AV):Prop:=x=.lst (some n.kq) n.kk (kxs n)\/∃ op a c nb,n=zAl op a c/\x=.sl (some false) nb 12 0 2/\H[nb]?=some (.row 12 [ndV a,ndV c])/\H0.length<=nb
theorem NdO.keep {H0 H H':Heap} {n:Nd} {x:AV} (h:NdO H0 H n x) (hk:∀ (nb:Nat) (ys:List AV),H[nb]?=some (ABlk.row 12 ys)->H'[nb]?=some (ABlk.row 12 ys)):NdO H0 H' n x:=by
 rcases h with h|⟨op,a,c,nb,h1,h2,h3,h4⟩
 ·exact .inl h
 ·exact .inr ⟨op,a,c,nb,h1,h2,hk _ _ h3,h4⟩
theorem NdO.set {H0 H:Heap} {n:Nd} {x:AV} {b:Nat} {cs:List AV} (h:NdO H0 H n x) (hb:H[b]?=some (.box cs)) (y:ABlk):NdO H0 (H.set b y) n x:=
 h.keep fun nb ys h1=>zC (fun e=>by subst e;rw [hb] at h1;cases h1) h1
theorem NdO.push {H0 H:Heap} {n:Nd} {x:AV} (h:NdO H0 H n x) (y:ABlk):NdO H0 (H++[y]) n x:=h.keep fun nb ys h1=>zF h1
theorem NdO.one {H0 H:Heap} {n:Nd} {x:AV} (h:NdO H0 H n x):(AV.agg (ndX n x)).cells.all AV.one=true:=by
 rcases h with rfl|⟨op,a,c,nb,rfl,rfl,h3,h4⟩ <;> rfl
theorem NdO.frz {H0 H:Heap} {n:Nd} {x:AV} (h:NdO H0 H n x) (k:Nat) (hk:k<=H0.length):∃ H',zEE k (.agg (ndX n x)) H=some (ndV n,H')/\H'.length=H.length/\(∀ (c:Nat) (cs:List AV),H[c]?=some (ABlk.box cs)->H'[c]?=some (ABlk.box cs))/\∀ {b B},b<H0.length->Old (H0.set b B) H->Old (H0.set b B) H':=by
 rcases h with rfl|⟨op,a,c,nb,rfl,rfl,h3,h4⟩
 ·exact ⟨H,rfl,rfl,fun _ _ h=>h,fun _ h=>h⟩
 ·refine ⟨H.set nb (.frz 12 [ndV a,ndV c]), ?_,zQZ,fun c' cs hc=>zC (fun e=>by subst e;rw [h3] at hc;cases hc) hc,fun hb ho=>?_⟩
  ·have:¬ nb<k:=by omega
   simp only [ndX,zEE,zLP,this,zQt,h3];simp [frzQ,ndV,ndC,zAl,Nd.kind,Nd.num,Nd.text,Nd.ref,Nd.to,Nd.kq,Nd.kk,kxs,kidL]
  ·exact ho.set (by rw [zQZ];exact h4) _
theorem frz_nd (k:Nat) (n:Nd) (H:Heap):zEE k (ndV n) H=some (ndV n,H):=rfl
theorem zJv (k:Nat) (n:Nd):(ndV n).bel k=true:=rfl
def looseV:AV:=.agg ((List.range 4).map fun l=>.lst (some false) 1 ((sgn l).map AV.str))
theorem loose_part {l o:Nat} (hl:l<=3) (ho:o=l):part looseV.cells o 1 false=some (.lst (some false) 1 ((sgn l).map AV.str)):=by
 subst ho;rcases o with _|_|_|_|o
 ·rfl
 ·rfl
 ·rfl
 ·rfl
 ·omega
theorem sgn_len (l:Nat):(sgn l).length<=6:=by rcases l with _|_|_|_|l <;> simp [sgn]
theorem sOffG {GT:Nat->Option AV} {fr:Fr} {g o:Nat} {x:AV} {K:AV->Prop} (h:GT g=some x) (q:K (.lref x (0+o))):offN o (evF GT fr (.glob g)) K:=by
 have e:evF GT fr (.glob g)=.lref x 0:=by simp only [evF,h]
 rw [e];exact q
structure T2St where
 m:Nat
 a:Nat
 n:Nd
 x:AV
structure L2St where
 i:Nat
 m:Nat
def two_r:AC:=match zFU with
 |.seq _ (.scope _ _ _ r)=>r
 |x=>x
def TwI (H:Heap) (b:Nat) (s:Bs) (d:Nat) (l:Nat) (r:Option (Nd×Nat)) (a:Nat) (n:Nd) (x:AV) (H1:Heap):Prop:=
 OldB H b (rdB s a d) H1/\H1[b]?=some (rdB s a d)/\H1[H.length]?=some (.box (ndC zZ))/\H1[H.length+1]?=some (.box (ndX n x))/\NdO H H1 n x/\a<=s.length/\(∀ op e,zH1 s a=some (op,e)->tight op<l+2)/\bl s ((P s).ll (l+1) n a d)=r
section
variable {C:CSpec} {GT:Nat->Option AV}
theorem two_ev (hB:∀ b s p d H,H[b]?=some (rdB s p d)->p<=s.length->s.length<=200->C zW [pR b] H (.tup []) (H.set b (rdB s (skip s p) d)))
  (hO:∀ t H,zCA t≠0->C zD5 [.str t] H (zK (zCA t)) H)
  (hX:∀ s p H,C zA2 [.str s,.str p] H (.bool (p.isPrefixOf s)) H)
  (hG:GT zEp=some looseV)
  (l b:Nat) (s:Bs) (p d:Nat) (H:Heap) (hb:H[b]?=some (rdB s p d)) (hp:p<=s.length) (hl:s.length<=200) (hl4:l<=4)
  (hN:∀ H',l=4->H'[b]?=some (rdB s p d)->CR C zAR [pR b] H' b s d ((P s).one p d))
  (hT:∀ a H',l<=3->p<=a->a<=s.length->(a=p\/p<a)->H'[b]?=some (rdB s a d)->CR C zi [pR b,zK (l+1)] H' b s d (twS s (l+1) a d)) :
  zCr C GT zCJ [pR b,zK l] H b (wkC s) zHS (mkR s d (twS s l p d)):=by
 have hbl:b<H.length:=(zg hb).1;have hbk:=fun a d H' h1 h2=>hB b s a d H' h1 h2 hl;clear hB;refine zAH ?_;by_cases h4:l=4
 ·subst h4;have e1:twS s 4 p d=(P s).one p d:=zQQ rfl;rw [e1];generalize (P s).one p d=r at *;have hn:=fun H'=>hN H' rfl;clear hN hT hX hO hbk hG;cases r with
  |none=>
   have hc:=fun H' h1=>(hn H' h1).2 rfl;have e:mkR s d none=none:=rfl;rw [e];clear hn;refine sW ?_;refine zA1 (hc _ hP) ?_;exact sP
  |some q=>
   obtain ⟨n,e⟩:=q;have hc:=fun H' h1=>(hn H' h1).1 n e rfl;have e0:mkR s d (some (n,e))=some (ndV n,rdB s e d):=rfl;rw [e0];clear hn;refine sW ?_;refine zCT (hc _ hP)<|sSA (ndV n) ?_
   exact zAF (o:=0) (ndV n) (by first|rfl|assumption) rfl rfl (zH hP) rfl rfl rfl hO rfl
 have hl3:l<=3:=by omega
 have hT:=fun a H' h1 h2 h3 h4=>hT a H' hl3 h1 h2 h3 h4;clear hN;rw [tw_start hl3 hp];have ht0:=fun H' h1=>hT p H' (zQU _) hp (.inl rfl) h1;cases hr:twS s (l+1) p d with
 |none=>
  rw [hr] at ht0;have hc:=fun H' h1=>(ht0 H' h1).2 rfl;have e:mkR s d (Option.bind none fun q:Nd×Nat=>bl s ((P s).ll (l+1) q.1 q.2 d))=none:=rfl;rw [e];clear hbk hO hX hG hT ht0;refine sW ?_;refine zS (r:=l+1) rfl tO<|zA1 (hc _ hP) ?_
  exact sP
 |some q0=>
 obtain ⟨n0,e0⟩:=q0;have hq0:=tw_ends hl3 hp hr;rw [hr] at ht0;have hc0:=fun H' h1=>(ht0 H' h1).1 n0 e0 rfl;clear ht0 hr;obtain ⟨hq1,hq2⟩:=hq0;simp only at hq1 hq2;have e1:(Option.bind (some (n0,e0)) fun q:Nd×Nat=>bl s ((P s).ll (l+1) q.1 q.2 d))=bl s ((P s).ll (l+1) n0 e0 d):=rfl;rw [e1];clear e1;obtain ⟨r,hr⟩:∃ r,bl s ((P s).ll (l+1) n0 e0 d)=r:=⟨_,rfl⟩;rw [hr];have hZ:∀ (X Y:ABlk),((H++[X]).set b Y).length=H.length+1:=fun X Y=>by simp
 have hmk:∀ st H1,st.m=H.length+1/\TwI H b s d l r st.a st.n st.x H1->p<st.a ->
   gotoP C GT [5,1,0,4] 0 two_r (zKW zCJ H b (wkC s) zHS (mkR s d r)) ((fun st:T2St=>[(5,pR st.m),(1,zK l),(0,pR b),(4,pR H.length)]) st) H1:=by
  intro st0 H1 hst hpa0;refine sGoto (fun st:T2St=>[(5,pR st.m),(1,zK l),(0,pR b),(4,pR H.length)]) (fun st H1=>(st.m=H.length+1/\TwI H b s d l r st.a st.n st.x H1)/\p<st.a) (fun st=>s.length-st.a) st0 rfl ⟨hst,hpa0⟩ (fun ⟨m,a,n,x⟩ H1 ⟨⟨hm,hob,hb1,h4,h5,hnd,hal,hx,hq⟩,hpa⟩=>?_);clear hst hpa0 st0 hc0 hr hb;dsimp only at hm hob hb1 h4 h5 hnd hal hx hq hpa ⊢;subst hm;have hA1:=zFi s a;have hA2:=zCS hal;have h5l:=(zg h5).1;have hbk1:=hbk a d H1 hb1 hal;refine sW ?_;refine zBA ⟨by omega,by omega⟩<|sOffG hG<|zA4 (.lst (some false) 1 ((sgn l).map AV.str)) (loose_part hl3 (by simp))<|sLenL ?_;refine zBB (fun st:L2St=>[(5,pR st.m),(1,zK l),(0,pR b),(4,pR H.length),(22,zK st.i),(20,.lst (some false) 1 ((sgn l).map AV.str)),(21,.int .i64 ((sgn l).map AV.str).length)])
   (fun st H'=>st.m=H.length+1/\(OldB H b (rdB s (skip s a) d) H'/\H'[b]?=some (rdB s (skip s a) d)/\H'[H.length]?=some (.box (ndC zZ))/\H'[H.length+1]?=some (.box (ndX n x))/\NdO H H' n x)/\st.i<=(sgn l).length/\∀ j u,j<st.i->(sgn l)[j]?=some u->u.isPrefixOf (s.drop (skip s a))=false)
   (fun st=>(sgn l).length-st.i) ⟨0,H.length+1⟩ rfl ⟨rfl,⟨hob.setB _,hP,hP,hP,hnd.set hb1 _⟩,zRG _,fun j u h=>absurd h (zRY _)⟩ (fun ⟨i,m⟩ H2 ⟨hm,⟨hob2,hb2,h42,h52,hnd2⟩,hi,hno⟩=>?_)
  clear hob hb1 h4 h5 hnd h5l hbk1;dsimp only at hm hi hno ⊢;subst hm;have h5l:=(zg h52).1;have hlm:((sgn l).map AV.str).length=(sgn l).length:=zQW _;have hsg:(sgn l).length<=6:=sgn_len l;by_cases hlt:i<(sgn l).length
  ·obtain ⟨t,ht⟩:∃ t,(sgn l)[i]?=some t:=⟨_,zQS hlt⟩;have htm:((sgn l).map AV.str)[i]?=some (AV.str t):=by rw [zQa,ht];rfl
   have hsl:zB5 none (.str s) (some (zK (skip s a))) none=some (.str (s.drop (skip s a))):=zIf s _ hA2;have hxx:=hX (s.drop (skip s a)) t H2;cases hpre:t.isPrefixOf (s.drop (skip s a)) with
   |false=>
    rw [hpre] at hxx;clear hT hbk hO hX;refine sW ?_;refine sIdx rfl htm<|sW ?_;refine zy hsl<|sW ?_;refine zS (r:=i+1) rfl tO ?_;refine zAP (L2St.mk (i+1) (H.length+1)) rfl ⟨rfl,⟨hob2,hb2,h42,h52,hnd2⟩,by simp only;omega,fun j u hj hu=>?_⟩ (by simp only;omega)
    by_cases hji:j=i
    ·subst hji;rw [ht] at hu;cases hu;exact hpre
    ·exact hno j u (by simp only at hj;omega) hu
   |true=>
    rw [hpre] at hxx;obtain ⟨⟨hm1,hm2⟩,hm3,hm4⟩:=ll_more (n:=n) (d:=d) hl3 hal ht hpre hno;rw [hm4] at hq;have hoo:=fun H'=>hO t H' hm3;have htw:=fun H'=>hT (skip s a+t.length) H' tO hm1 (.inr tO);have hee:=fun q=>tw_ends (d:=d) (q:=q) hl3 hm1;clear hT hbk hO hX hm4 hx;have hpa2:p<skip s a+t.length:=by omega
    generalize hA3:skip s a+t.length=a2 at *;generalize skip s a=a1 at *;refine sW ?_;refine sIdx rfl htm<|sW ?_;refine zy hsl<|sW ?_;refine zS (r:=a2) tO tO<|sS (.int .i64 ↑a2) [AV.str s,.int .i64 ↑a2,zK d] ?_;refine sW ?_;refine zS (r:=l+1) rfl tO ?_
    cases hr2:twS s (l+1) a2 d with
    |none=>
     rw [hr2] at htw hq;have hq:none=r:=hq;subst hq;have hc:=fun H' h1=>(htw H' h1).2 rfl;clear htw hee;have e0:mkR s d none=none:=rfl;rw [e0];refine zHB ?_ ?_
     ·refine sW ?_;refine zA1 (hc _ hP) ?_;exact sP
     ·refine zA1 (hc _ hP) ?_;exact sP
    |some q2=>
     obtain ⟨n2,e2⟩:=q2;have hee2:=hee _ hr2;rw [hr2] at htw hq;have hq:bl s ((P s).ll (l+1) (zAl (zCA t) n n2) e2 d)=r:=hq;have hc:=fun H' h1=>(htw H' h1).1 n2 e2 rfl;clear htw hee hr2;obtain ⟨⟨hk1,hk2⟩,hk3⟩:=hee2;simp only at hk1 hk2 hk3;have hnd3:=(hnd2.set hb2 (rdB s a2 d)).set (b:=b) (cs:=[.str s,zK a2,zK d]) hP (rdB s e2 d);have hob3:=(hob2.setB (rdB s a2 d)).setB (rdB s e2 d);have hb3:((H2.set b (rdB s a2 d)).set b (rdB s e2 d))[b]?=some (rdB s e2 d):=hP;have h43:((H2.set b (rdB s a2 d)).set b (rdB s e2 d))[H.length]?=some (.box (ndC zZ)):=hP;have h53:((H2.set b (rdB s a2 d)).set b (rdB s e2 d))[H.length+1]?=some (.box (ndX n x)):=hP;obtain ⟨H4,hz,hl4',hbx,hol⟩:=hnd3.frz 0 (zRG _);have hz2:zLP 0 [.agg (ndX n x),ndV n2] ((H2.set b (rdB s a2 d)).set b (rdB s e2 d))=some ([ndV n,ndV n2],H4):=zHc hz rfl;have hob4:OldB H b (rdB s e2 d) H4:=⟨hbl,hol hbl hob3.old⟩;have hb4:=hbx _ _ hb3;have h44:=hbx _ _ h43;have h54:=hbx _ _ h53;have h44l:=(zg h54).1;clear hbx hol hz hnd3 hnd2 hob2;refine zHB ?_ ?_
     ·refine sW ?_;refine zCT (hc _ hP)<|zGm [ndV n,ndV n2] H4 hz2 rfl<|sW ?_;refine sS (.agg (ndX (zAl (zCA t) n n2) (.sl (some false) H4.length 12 0 2))) (ndX (zAl (zCA t) n n2) (.sl (some false) H4.length 12 0 2)) ?_;refine ⟨rfl,zAP (T2St.mk (H.length+1) e2 (zAl (zCA t) n n2) (.sl (some false) H4.length 12 0 2)) rfl ⟨⟨rfl,⟨(hob4.push _).set tO _,hP,hP,hP,.inr ⟨zCA t,n,n2,H4.length,rfl,rfl,hP,by omega⟩,hk2,hk3,hq⟩⟩,by simp only;omega⟩ (by simp only;omega)⟩
     ·refine zCT (hc _ hP)<|sW ?_;refine zGm [ndV n,ndV n2] H4 hz2 rfl<|sW ?_;refine sS (.agg (ndX (zAl (zCA t) n n2) (.sl (some false) H4.length 12 0 2))) (ndX (zAl (zCA t) n n2) (.sl (some false) H4.length 12 0 2)) ?_;refine ⟨rfl,zAP (T2St.mk (H.length+1) e2 (zAl (zCA t) n n2) (.sl (some false) H4.length 12 0 2)) rfl ⟨⟨rfl,⟨(hob4.push _).set tO _,hP,hP,hP,.inr ⟨zCA t,n,n2,H4.length,rfl,rfl,hP,by omega⟩,hk2,hk3,hq⟩⟩,by simp only;omega⟩ (by simp only;omega)⟩
  ·have hdone:bl s ((P s).ll (l+1) n a d)=some (n,skip s a):=ll_done hal hx fun t ht=>by
    obtain ⟨j,hj⟩:=zRL ht;exact hno j t (by have:=(zg hj).1;omega) hj
   rw [hdone] at hq;subst hq;have e0:mkR s d (some (n,skip s a))=some (ndV n,rdB s (skip s a) d):=rfl;rw [e0];clear hT hbk hO hX hdone;generalize skip s a=a1 at *;refine sW ?_;refine zL (v:=.agg (ndX n x)) (ndX n x) hP rfl hnd2.one rfl rfl ?_;obtain ⟨H4,hz,hl4',hbx,hol⟩:=(hnd2.set h42 (.box (ndX n x))).frz H.length (zQU _);have hob3:=hob2.set (c:=H.length) (zQU _) (.box (ndX n x));exact zAF (o:=0) (.agg (ndX n x)) rfl rfl rfl (zH hP) rfl hz (zJv _ _) ⟨hbl,hol hbl hob3.old⟩ rfl
 generalize n0=n at *;generalize e0=a at *;have hal:=hq1.2;have hx:=hq2;have hq:=hr;obtain ⟨x,hxe⟩:∃ x,x=AV.lst (some n.kq) n.kk (kxs n):=⟨_,rfl⟩;have hA1:=zFi s a;have hA2:=zCS hal;refine sW ?_;refine zS (r:=l+1) rfl tO<|zCT (hc0 _ hP)<|sSA (ndV n) ?_;refine sW ?_;refine zBA ⟨by omega,by omega⟩<|sOffG hG<|zA4 (.lst (some false) 1 ((sgn l).map AV.str)) (loose_part hl3 (by simp))<|sLenL ?_;refine zBB (fun st:L2St=>[(5,pR st.m),(1,zK l),(0,pR b),(4,pR H.length),(22,zK st.i),(20,.lst (some false) 1 ((sgn l).map AV.str)),(21,.int .i64 ((sgn l).map AV.str).length)])
  (fun st H'=>st.m=H.length+1/\(OldB H b (rdB s (skip s a) d) H'/\H'[b]?=some (rdB s (skip s a) d)/\H'[H.length]?=some (.box (ndC zZ))/\H'[H.length+1]?=some (.box (ndX n x))/\NdO H H' n x)/\st.i<=(sgn l).length/\∀ j u,j<st.i->(sgn l)[j]?=some u->u.isPrefixOf (s.drop (skip s a))=false)
  (fun st=>(sgn l).length-st.i) ⟨0,_⟩ rfl ⟨hZ _ _,⟨((((((OldB.start hb).push _).setB _).push _).set (by simp) _).setB _),hP,hP,by rw [hxe,<-hZ (.box (ndC zZ)) (rdB s a d)];exact hP,.inl hxe⟩,zRG _,fun j u h=>absurd h (zRY _)⟩ (fun ⟨i,m⟩ H2 ⟨hm,⟨hob2,hb2,h42,h52,hnd2⟩,hi,hno⟩=>?_)
 clear hb;dsimp only at hm hi hno ⊢;subst hm;have h5l:=(zg h52).1;have hlm:((sgn l).map AV.str).length=(sgn l).length:=zQW _;have hsg:(sgn l).length<=6:=sgn_len l;by_cases hlt:i<(sgn l).length
 ·obtain ⟨t,ht⟩:∃ t,(sgn l)[i]?=some t:=⟨_,zQS hlt⟩;have htm:((sgn l).map AV.str)[i]?=some (AV.str t):=by rw [zQa,ht];rfl
  have hsl:zB5 none (.str s) (some (zK (skip s a))) none=some (.str (s.drop (skip s a))):=zIf s _ hA2;have hxx:=hX (s.drop (skip s a)) t H2;cases hpre:t.isPrefixOf (s.drop (skip s a)) with
  |false=>
   rw [hpre] at hxx;clear hT hbk hO hX hc0;refine sW ?_;refine sIdx rfl htm<|sW ?_;refine zy hsl<|sW ?_;refine zS (r:=i+1) rfl tO ?_;refine zAP (L2St.mk (i+1) (H.length+1)) rfl ⟨rfl,⟨hob2,hb2,h42,h52,hnd2⟩,by simp only;omega,fun j u hj hu=>?_⟩ (by simp only;omega)
   by_cases hji:j=i
   ·subst hji;rw [ht] at hu;cases hu;exact hpre
   ·exact hno j u (by simp only at hj;omega) hu
  |true=>
   rw [hpre] at hxx;obtain ⟨⟨hm1,hm2⟩,hm3,hm4⟩:=ll_more (n:=n) (d:=d) hl3 hal ht hpre hno;rw [hm4] at hq;have hoo:=fun H'=>hO t H' hm3;have htw:=fun H'=>hT (skip s a+t.length) H' tO hm1 (.inr tO);have hee:=fun q=>tw_ends (d:=d) (q:=q) hl3 hm1;clear hT hbk hO hX hm4 hx hc0;have hpa2:p<skip s a+t.length:=by omega
   generalize hA3:skip s a+t.length=a2 at *;generalize skip s a=a1 at *;refine sW ?_;refine sIdx rfl htm<|sW ?_;refine zy hsl<|sW ?_;refine zS (r:=a2) tO tO<|sS (.int .i64 ↑a2) [AV.str s,.int .i64 ↑a2,zK d] ?_;refine sW ?_;refine zS (r:=l+1) rfl tO ?_
   cases hr2:twS s (l+1) a2 d with
   |none=>
    rw [hr2] at htw hq;have hq:none=r:=hq;subst hq;have hc:=fun H' h1=>(htw H' h1).2 rfl;clear htw hee;have e0:mkR s d none=none:=rfl;rw [e0];refine zHB ?_ ?_
    ·refine sW ?_;refine zA1 (hc _ hP) ?_;exact sP
    ·refine zA1 (hc _ hP) ?_;exact sP
   |some q2=>
    obtain ⟨n2,e2⟩:=q2;have hee2:=hee _ hr2;rw [hr2] at htw hq;have hq:bl s ((P s).ll (l+1) (zAl (zCA t) n n2) e2 d)=r:=hq;have hc:=fun H' h1=>(htw H' h1).1 n2 e2 rfl;clear htw hee hr2;obtain ⟨⟨hk1,hk2⟩,hk3⟩:=hee2;simp only at hk1 hk2 hk3;have hnd3:=(hnd2.set hb2 (rdB s a2 d)).set (b:=b) (cs:=[.str s,zK a2,zK d]) hP (rdB s e2 d);have hob3:=(hob2.setB (rdB s a2 d)).setB (rdB s e2 d);have hb3:((H2.set b (rdB s a2 d)).set b (rdB s e2 d))[b]?=some (rdB s e2 d):=hP;have h43:((H2.set b (rdB s a2 d)).set b (rdB s e2 d))[H.length]?=some (.box (ndC zZ)):=hP;have h53:((H2.set b (rdB s a2 d)).set b (rdB s e2 d))[H.length+1]?=some (.box (ndX n x)):=hP;obtain ⟨H4,hz,hl4',hbx,hol⟩:=hnd3.frz 0 (zRG _);have hz2:zLP 0 [.agg (ndX n x),ndV n2] ((H2.set b (rdB s a2 d)).set b (rdB s e2 d))=some ([ndV n,ndV n2],H4):=zHc hz rfl;have hob4:OldB H b (rdB s e2 d) H4:=⟨hbl,hol hbl hob3.old⟩;have hb4:=hbx _ _ hb3;have h44:=hbx _ _ h43;have h54:=hbx _ _ h53;have h44l:=(zg h54).1;clear hbx hol hz hnd3 hnd2 hob2;refine zHB ?_ ?_
    ·refine sW ?_;refine zCT (hc _ hP)<|zGm [ndV n,ndV n2] H4 hz2 rfl<|sW ?_;refine sS (.agg (ndX (zAl (zCA t) n n2) (.sl (some false) H4.length 12 0 2))) (ndX (zAl (zCA t) n n2) (.sl (some false) H4.length 12 0 2)) ?_
     exact ⟨rfl,hmk ⟨H.length+1,e2,zAl (zCA t) n n2,.sl (some false) H4.length 12 0 2⟩ _ ⟨rfl,⟨(hob4.push _).set tO _,hP,hP,hP,.inr ⟨zCA t,n,n2,H4.length,rfl,rfl,hP,by omega⟩,hk2,hk3,hq⟩⟩ (by simp only;omega)⟩
    ·refine zCT (hc _ hP)<|sW ?_;refine zGm [ndV n,ndV n2] H4 hz2 rfl<|sW ?_;refine sS (.agg (ndX (zAl (zCA t) n n2) (.sl (some false) H4.length 12 0 2))) (ndX (zAl (zCA t) n n2) (.sl (some false) H4.length 12 0 2)) ?_
     exact ⟨rfl,hmk ⟨H.length+1,e2,zAl (zCA t) n n2,.sl (some false) H4.length 12 0 2⟩ _ ⟨rfl,⟨(hob4.push _).set tO _,hP,hP,hP,.inr ⟨zCA t,n,n2,H4.length,rfl,rfl,hP,by omega⟩,hk2,hk3,hq⟩⟩ (by simp only;omega)⟩
 ·have hdone:bl s ((P s).ll (l+1) n a d)=some (n,skip s a):=ll_done hal hx fun t ht=>by
   obtain ⟨j,hj⟩:=zRL ht;exact hno j t (by have:=(zg hj).1;omega) hj
  rw [hdone] at hq;subst hq;have e0:mkR s d (some (n,skip s a))=some (ndV n,rdB s (skip s a) d):=rfl;rw [e0];clear hT hbk hO hX hdone hc0;generalize skip s a=a1 at *;refine sW ?_;refine zL (v:=.agg (ndX n x)) (ndX n x) hP rfl hnd2.one rfl rfl ?_;obtain ⟨H4,hz,hl4',hbx,hol⟩:=(hnd2.set h42 (.box (ndX n x))).frz H.length (zQU _);have hob3:=hob2.set (c:=H.length) (zQU _) (.box (ndX n x));exact zAF (o:=0) (.agg (ndX n x)) rfl rfl rfl (zH hP) rfl hz (zJv _ _) ⟨hbl,hol hbl hob3.old⟩ rfl
end
end Go.AM
set_option maxRecDepth 20000
namespace Go.AM
structure ParK (PR:Program):Prop where
 hm:PR.follows .mixedOrders=true
 contains:zt PR zx zBZ=true
 mkSet:zt PR zBQ zDQ=true
 trimR:zt PR zA7 zCp=true
 trimL:zt PR zBH zDB=true
 trim:zt PR zCP zHI=true
 slPre:zt PR zAU zDA=true
 pre:zt PR zA2 zET=true
 slTrim:zt PR zA8 zCq=true
 trimP:zt PR zBK zD0=true
 wrong:zt PR zCF zIO=true
 is:zt PR zCh zM7=true
 whole:zt PR zCz zIT=true
 lit:zt PR zAY zGL=true
 ref:zt PR zBc zM9=true
 dollar:zt PR zEn zIU=true
 wordly:zt PR zA0 zEM=true
 called:zt PR zAz zFh=true
 plain:zt PR zAs zGM=true
 opOf:zt PR zD5 zHG=true
 fail:zt PR zU zDM=true
 blanks:zt PR zW zCk=true
 word:zt PR zAG zDP=true
 want:zt PR z6 zDN=true
 within:zt PR zq zCm=true
 text:zt PR zBP zDO=true
 neg:zt PR zAR zDf=true
 negc:zt PR zA6 zCn=true
 prim:zt PR zBO z7=true
 prim1:zt PR zAb zCQ=true
 prim2:zt PR zAJ zCR=true
 call:zt PR zB1 zB2=true
 argument:zt PR zBN zB9=true
 two:zt PR zi zCJ=true
structure ParG (PR:Program) (GT:Nat->Option AV):Prop where
 atoi:∀ s H,zEX s->zEC (zOU s)->s.length<=1000->Good PR GT zBW [.str s] H (.tup [zJ (zOU s),.nili]) H
 atoi2:∀ s H,zEX s->¬ zEC (zOU s)->s.length<=1000->∃ n t,Good PR GT zBW [.str s] H (.tup [zJ n,.iface t .undef]) H
 texts:GT zEq=some zP3
 loose:GT zEp=some looseV
section
variable {PR:Program} {GT:Nat->Option AV}
theorem zP4 (hm:PR.follows .mixedOrders=true) {f:Nat} {F:AF} {args:List AV} {H:Heap} {b:Nat} {s:Bs} {d:Nat} {r:Option (Nd×Nat)} (hc:zt PR f F=true) (h:zCr (Good PR GT) GT F args H b (wkC s) zHS (mkR s d r)) (hn:zKH args=true:=by rfl):CR (Good PR GT) f args H b s d r:=
 have h:=zAm hm hc h hn
 ⟨fun n e hr=>h.1 _ _ (by subst hr;rfl),fun hr=>h.2 (by subst hr;rfl)⟩
section
variable (k:ParK PR)
include k
theorem p_contains (b:Nat) (g:Nat->Bool) (c:UInt8) (H:Heap) (hb:H[b]?=some (.box (zKl g))):Good PR GT zx [pR b,byV c] H (.bool (g c.toNat)) H:=zE k.hm k.contains (contains_ev b g c H hb)
theorem p_mkSet (cs:Bs) (H:Heap) (hcs:∀ c∈cs,c.toNat<128) (hl:cs.length<=1000):Good PR GT zBQ [.str cs] H (.tup [.agg (zKl (zJt cs)),.bool true]) H:=zE k.hm k.mkSet (mkSet_ev cs H hcs hl)
section
variable (s cs:Bs) (b:Nat) (H:Heap) (hb:H[b]?=some (.box (zKl (zJt cs)))) (hl:s.length<=1000)
include s cs b H hb hl
theorem p_trimR:Good PR GT zA7 [.str s,pR b] H (.str (zOT s cs)) H:=zE k.hm k.trimR (trimR_ev (p_contains k) s cs b H hb hl)
theorem p_trimL:Good PR GT zBH [.str s,pR b] H (.str (s.dropWhile fun c=>zJt cs c.toNat)) H:=zE k.hm k.trimL (trimL_ev (p_contains k) s cs b H hb hl)
end
theorem p_trim (s cs:Bs) (H:Heap) (hcs:∀ c∈cs,c.toNat<128) (hc2:2<=cs.length) (hcl:cs.length<=1000) (hl:s.length<=1000):Good PR GT zCP [.str s,.str cs] H (.str (trimS s cs)) H:=zE k.hm k.trim (trim_ev' (p_mkSet k) (p_trimR k) (p_trimL k) s cs H hcs hc2 hcl hl)
theorem p_slPre (s p:Bs) (H:Heap):Good PR GT zAU [.str s,.str p] H (.bool (p.isPrefixOf s)) H:=zE k.hm k.slPre (sl_prefix_ev s p H)
theorem p_pre (s p:Bs) (H:Heap):Good PR GT zA2 [.str s,.str p] H (.bool (p.isPrefixOf s)) H:=zE k.hm k.pre (prefix_ev (p_slPre k) s p H)
theorem p_slTrim (s p:Bs) (H:Heap):Good PR GT zA8 [.str s,.str p] H (.str (if p.isPrefixOf s=true then s.drop p.length else s)) H:=zE k.hm k.slTrim (zOV (p_slPre k) s p H)
theorem p_trimP (s p:Bs) (H:Heap):Good PR GT zBK [.str s,.str p] H (.str (if p.isPrefixOf s=true then s.drop p.length else s)) H:=zE k.hm k.trimP (trimPrefix_ev (p_slTrim k) s p H)
theorem p_minus (s:Bs) (H:Heap):Good PR GT zBK [.str s,.str [45]] H (.str (zDy s).2) H:=by
 have h:=p_trimP (GT:=GT) k s [45] H;have e:(if ([45]:Bs).isPrefixOf s=true then s.drop ([45]:Bs).length else s)=(zDy s).2:=by
  cases s with
  |nil=>rfl
  |cons c r=>
   unfold zDy;by_cases hc:c=45
   ·subst hc;rfl
   ·have h1:([45]:Bs).isPrefixOf (c::r)=false:=by
     simp only [List.isPrefixOf,zSK];exact tN (fun e=>hc e.symm)
    rw [h1];simp only [zQN hc];rfl
 rw [e] at h;exact h
theorem p_wrong (n:Int) (H:Heap):Good PR GT zCF [zJ n] H (v3 4 n) H:=zE k.hm k.wrong (wrong_ev n H)
theorem p_is (b:Bool) (H:Heap):Good PR GT zCh [.bool b] H (v3 3 (if b=true then 1 else 0)) H:=zE k.hm k.is (is_ev b H)
theorem p_called (s:Bs) (H:Heap) (hl:s.length<=1000):Good PR GT zAz [.str s] H (.bool (zA3 s)) H:=zE k.hm k.called (called_ev (p_trim k) s H hl)
theorem p_dollar (b:Nat) (t:Bs) (H:Heap) (hb:H[b]?=some (.box [.str t])):Good PR GT zEn [pR b] H (.bool (dollar t).1) (H.set b (.box [.str (dollar t).2])):=(zAm k.hm k.dollar (dollar_ev b t H hb .undef)).1 _ _ rfl
theorem p_ref (s:Bs) (H:Heap) (hl:s.length<=1000):Good PR GT zBc [.str s] H (refV (zE9 s)) H:=zE k.hm k.ref (ref_ev (p_dollar k) s H hl)
theorem p_whole (g:ParG PR GT) (s:Bs) (H:Heap) (hl:s.length<=1000):∃ n0,Good PR GT zCz [.str s] H (wholeV (wholeS s) n0) H:=by
 obtain ⟨n0,h⟩:=whole_ev (p_trim k) (p_minus k) g.atoi g.atoi2 s H hl;exact ⟨n0,zE k.hm k.whole h⟩
theorem p_lit (g:ParG PR GT) (s:Bs) (H:Heap):Good PR GT zAY [.str s] H (litV (litP s)) H:=zE k.hm k.lit (literal_ev g.texts (p_is k) (p_wrong k) s H)
theorem zMV (c:UInt8) (H:Heap):Good PR GT zA0 [byV c] H (.bool (zh c)) H:=zE k.hm k.wordly (fwordly_ev c H)
theorem zKm (b:Nat) (s:Bs) (p d:Nat) (a e:Int) (H:Heap) (hb:H[b]?=some (rdB s p d)):Good PR GT zU (.pan .undef::[pR b,.int .i64 a,zIb e]) H zHS (H.set b (.box (wkC s))):=(zAm k.hm k.fail (ffail_ev b s p d a e H hb)).2 rfl
section
variable (b:Nat) (s:Bs) (p d:Nat) (H:Heap) (hb:H[b]?=some (rdB s p d)) (hp:p<=s.length) (hl:s.length<=200)
include b s p d H hb hp hl
theorem zIj:Good PR GT zW [pR b] H (.tup []) (H.set b (rdB s (skip s p) d)):=(zAm k.hm k.blanks (blanks_ev b s p d H hb hp hl)).1 _ _ rfl
theorem p_word:Good PR GT zAG [pR b] H (.str (sub s p (zDE s p))) (H.set b (rdB s (zDE s p) d)):=(zAm k.hm k.word (word_ev (zMV k) b s p d H hb hp hl)).1 _ _ rfl
end
theorem p_opOf (t:Bs) (H:Heap) (h:zCA t≠0):Good PR GT zD5 [.str t] H (zK (zCA t)) H:=zE k.hm k.opOf (opOf_ev t H h)
theorem p_want (c:UInt8) (b:Nat) (s:Bs) (p d:Nat) (H:Heap) (hb:H[b]?=some (rdB s p d)) (hp:p<=s.length) (hl:s.length<=200) :
  (s[skip s p]?=some c->Good PR GT z6 [pR b,byV c] H (.tup []) (H.set b (rdB s (skip s p+1) d)))/\(s[skip s p]?≠some c->Good PR GT z6 (.pan .undef::[pR b,byV c]) H zHS (H.set b (.box (wkC s)))):=
 have h:=zAm k.hm k.want (want_ev (C:=Good PR GT) (GT:=GT) (zIj k) (zKm k) c b s p d H hb hp hl)
 ⟨fun hc=>h.1 _ _ (zQQ hc),fun hc=>h.2 (zQN hc)⟩
theorem p_within (f:Nat) (caps:List AV) (a:Int) (b:Nat) (s:Bs) (p d:Nat) (H:Heap) (r:Option (Nd×Nat)) (hb:H[b]?=some (rdB s p d)) (hd:d<=1000)
  (hC:∀ H',H'[b]?=some (rdB s p (d+1))->Off H b H'->CR (Good PR GT) f caps H' b s (d+1) r):CR (Good PR GT) zq [pR b,.int .i64 a,.fn f [] caps] H b s d (if d=30 then none else r):=
 zP4 k.hm k.within (within_ev (zKm k) f caps a b s p d H hb hd r hC)
theorem p_text (b:Nat) (s:Bs) (p d:Nat) (H:Heap) (hb:H[b]?=some (rdB s p d)) (hp:p<s.length) (hl:s.length<=200):CR (Good PR GT) zBP [pR b] H b s d ((quo (s.drop (p+1)) (p+1)).map fun q=>(zHP q.1,q.2)):=
 zP4 k.hm k.text (text_ev (zKm k) b s p d H hb hp hl)
theorem p_plain (g:ParG PR GT) (t:Bs) (H:Heap) (hl:t.length<=1000) (h45:t.head?≠some 45) (h35:t.head?≠some 35):Good PR GT zAs [.str t] H (zMS (zIe t)) H:=zE k.hm k.plain (plain_ev (p_whole k g) (p_lit k g) (p_ref k) t H hl h45 h35)
theorem p_prim (g:ParG PR GT) (b:Nat) (s:Bs) (p d:Nat) (H:Heap) (hb:H[b]?=some (rdB s p d)) (hp:p<=s.length) (hl:s.length<=200) (hd:d<=1000) (h32:s[p]?≠some 32) (h45:s[p]?≠some 45)
  (hPa:s[p]?=some 40->∀ H' rb,H'[b]?=some (rdB s p (d+1))->H'[rb]?=some (.box [pR b])->CR (Good PR GT) zAb [pR rb] H' b s (d+1) (parS s p (d+1)))
  (hCl:∀ e t,s[e]?=some 40->p<e->∀ H' rb sb,H'[b]?=some (rdB s e (d+1))->H'[rb]?=some (.box [pR b])->H'[sb]?=some (.box [.str t])->CR (Good PR GT) zAJ [pR rb,pR sb] H' b s (d+1) (zJH s t e (d+1))) :
  CR (Good PR GT) zBO [pR b] H b s d (zB4 s (P s) p d):=by
 refine zP4 k.hm k.prim ?_;by_cases hlt:p<s.length
 ·obtain ⟨c,hc⟩:∃ c,s[p]?=some c:=⟨_,zQS hlt⟩;by_cases h40:c=40
  ·subst h40;exact prim_par (p_within k) b s p d H hb hp hl hd hc hPa
  by_cases h34:c=34
  ·subst h34;exact prim_txt (p_text k) b s p d H hb hp hl hd hc
  by_cases h35:c=35
  ·subst h35;exact prim_bad (zKm k) (p_lit k g) b s p d H hb hp hl hd hc
  by_cases hw:zh c=true
  ·by_cases h41:s[zDE s p]?=some 40
   ·by_cases hcd:zA3 (sub s p (zDE s p))=true
    ·exact prim_call (zMV k) (p_word k) (p_called k) (p_within k) b s p d H hb hp hl hd c hc hw h41 hcd hCl
    ·exact prim_plain1 (zKm k) (zMV k) (p_word k) (p_called k) (p_plain k g) b s p d H hb hp hl hd c hc hw h41 hcd
   ·exact prim_plain2 (zKm k) (zMV k) (p_word k) (p_plain k g) b s p d H hb hp hl hd c hc hw h41
  ·exact prim_else (zKm k) (zMV k) b s p d H hb hp hl hd c hc h32 h45 h40 h34 h35 hw
 ·exact prim_fin (zKm k) b s p d H hb hp hl hd hlt
end
theorem tw_zero (s:Bs) (p d:Nat):twS s 0 p d=bl s ((P s).loose 1 p d):=zQN (by decide)
theorem p_two (k:ParK PR) (g:ParG PR GT) (b:Nat) (s:Bs) (hl:s.length<=200):∀ n p,p<=s.length->s.length-p=n->∀ d H,d+(s.length-p)<=500->H[b]?=some (rdB s p d) ->
  CR (Good PR GT) zAR [pR b] H b s d ((P s).one p d)/\∀ l,l<=4->CR (Good PR GT) zi [pR b,zK l] H b s d (twS s l p d):=by
 intro n;induction n using Nat.strongRecOn with
 |_ n ih=>
  intro p hp hn d H hd hb;have ih':=fun p' (h1:p<p') (h2:p'<=s.length) d' H' h3 h4=>ih (s.length-p') tO p' h2 rfl d' H' h3 h4;clear ih;have h0:∀ p',p<p'->p'<=s.length->∀ d' H',d'+(s.length-p')<=500->H'[b]?=some (rdB s p' d')->CR (Good PR GT) zi [pR b,zJ 0] H' b s d' (bl s ((P s).loose 1 p' d')):=fun p' h1 h2 d' H' h3 h4=>by
   have:=(ih' p' h1 h2 d' H' h3 h4).2 0 tO;rw [tw_zero] at this;exact this
  have hneg:∀ H,H[b]?=some (rdB s p d)->CR (Good PR GT) zAR [pR b] H b s d ((P s).one p d):=fun H hb=>by
   have hq:=zFi s p;have hq2:=zCS hp;refine zP4 k.hm k.neg (neg_ev (zIj k) (p_within k) b s p d H hb hp hl tO (fun h45 H' rb h1 h2=>?_) (fun h45 H' h1=>?_))
   ·have hlt:=(zg h45).1;exact zP4 k.hm k.negc (negc_ev b rb s (skip s p) (d+1) H' h1 h2 hlt hl fun H'' h3=>(ih' (skip s p+1) tO tO (d+1) H'' tO h3).1)
   ·refine p_prim k g b s (skip s p) d H' h1 hq2 hl tO (skip_at s p) h45 (fun h40 H'' rb h2 h3=>?_) (fun e t h40 he H'' rb sb h2 h3 h4=>?_)
    ·have hlt:=(zg h40).1;exact zP4 k.hm k.prim1 (par_ev (p_want k) b rb s (skip s p) (d+1) H'' h2 h3 hlt hl fun H3 h4=>h0 (skip s p+1) tO tO (d+1) H3 tO h4)
    ·have hlt:=(zg h40).1;refine zP4 k.hm k.prim2 (callc_ev b rb sb s t e (d+1) H'' h2 h3 h4 _ fun H3 h5=>?_);refine zP4 k.hm k.call (call_ev (zIj k) (p_want k) t b s e (d+1) H3 h5 hlt hl fun a H4 h6 h7 h8=>?_);have ha:=zFi s a;have ha2:=zCS h7;refine zP4 k.hm k.argument (arg_ev (zIj k) (zKm k) (p_word k) (p_ref k) b s a (d+1) H4 h8 h7 hl fun H5 h9=>?_);have:=h0 (skip s a) tO ha2 (d+1) H5 tO h9;rw [loose_skip 1 (d+1) h7] at this;exact this
  refine ⟨hneg H hb, ?_⟩;have hall:∀ j l,l+j=4->∀ H,H[b]?=some (rdB s p d)->CR (Good PR GT) zi [pR b,zK l] H b s d (twS s l p d):=by
   intro j;induction j with
   |zero=>
    intro l hlj H hb;exact zP4 k.hm k.two (two_ev (zIj k) (p_opOf k) (p_pre k) g.loose l b s p d H hb hp hl tO (fun H' _ h=>hneg H' h) (fun a H' h=>by omega))
   |succ j ihj=>
    intro l hlj H hb;refine zP4 k.hm k.two (two_ev (zIj k) (p_opOf k) (p_pre k) g.loose l b s p d H hb hp hl tO (fun H' h=>by omega) (fun a H' h1 h2 h3 h4 h5=>?_));rcases h4 with rfl|h4
    ·exact ihj (l+1) tO H' h5
    ·exact (ih' a h4 h3 d H' tO h5).2 (l+1) tO
  exact fun l hl4=>hall (4-l) l tO H hb
end
end Go.AM
namespace Go.AM
open Go.RowKit Go.Proofs
def zG4:Value:=.iface 186 (.agg #[.pointer (some ⟨11,26,none⟩)])
def powV:AV:=.agg (Lib.pow10Tab.map fun z=>.int .u64 z)
def gtQ (m:Int) (ev:Value):Nat->Option AV
 |0=>some (.raw zG4)
 |1=>some looseV
 |2=>some zP3
 |3=>some (.int .i64 m)
 |6=>some powV
 |8=>some (.raw ev)
 |_=>none
set_option maxRecDepth 100000 in
theorem as_good {m:Int} {ev:Value} (n old:Int) (b:Nat) (H:Heap) (hb:H[b]?=some (.box [.int .i64 old])):Good Tryz.prog (gtQ m ev) zK1 [.iface zO (.int .i64 n),.iface zJT (.ref b 0 0 0)] H (.bool true) (H.set b (.box [.int .i64 n])):=by
 intro w M I cargs hS hA;obtain ⟨v,u,rfl,hv,hu⟩:=relL_two hA;cases hv with
 |iface _ _ v' hv'=>
 obtain rfl:=zIZ hv';cases hu with
 |iface _ _ u' hu'=>
 cases hu' with
 |ref _ _ _ _ g o hbn hM=>
 have h0:=hS.glob 0 (.raw zG4) rfl;have hg:w.cell? ⟨0,0,none⟩=some zG4:=by
  cases h0 with
  |lref _ _ _ _ V hI hx hvv hr=>
   have h1:=hvv 0 (.raw zG4) rfl;have h2:=hr 0 (.raw zG4) rfl;rw [h1,rel_raw' h2]
 obtain ⟨g',o',cur,h1,hC,h3,h4,h5⟩:=hS.blk b _ hb;rw [hM] at h1;simp only [zQT,zQd] at h1;obtain ⟨rfl,rfl⟩:=h1;obtain ⟨u0,e1,e2⟩:=h5 0 _ rfl;obtain rfl:=zIZ e2;rw [zSD] at e1;have ht0:w.cell? ⟨g,o,none⟩=some (.int .i64 old):=by rw [hC.cell?];exact e1
 have hf0:w.frozen? ⟨g,o,none⟩=false:=by
  obtain ⟨e,fz,hg',hfz⟩:=hC;have hlt:=(zQi.1 e1).1;have:=hfz o hlt;simp only [World.frozen?,hg',zSc,zRa];by_cases h:fz.1<=o
  ·exact .inr fun h'=>this ⟨h,h'⟩
  ·exact .inl h
 rw [run_enter Tryz.func56 (by kernel_rfl) (by kernel_rfl)];refine (Go.Proofs.YtafclpcpdmeodaaGreatDoor.As.as_hit n ⟨g,o,none⟩ (.int .i64 old) w hg ht0 hf0).mono ?_;rintro e w' ⟨rfl,rfl⟩;refine ⟨_,rfl,M,I, ?_⟩;obtain ⟨G1,S1⟩:=zIa hS (((((Below.refl w.heap.size w).alloc (zQU _) (.cells #[.pointer (some ⟨g,o,none⟩)] 103)).alloc (by simp <;> omega) (.cells #[.pointer (some ⟨11,103,none⟩),.pointer (some ⟨w.heap.size,0,none⟩),.int .u64 150] 147)).alloc (by simp <;> omega) (.cells #[.pointer (some ⟨11,103,none⟩),.pointer (some ⟨w.heap.size,0,none⟩),.int .u64 150] 147)).alloc (by simp <;> omega) (.cells #[.int .i64 n] 46));obtain ⟨G2,S2⟩:=grow_setBox S1 hb hM (x:=.int .i64 n) (v:=.int .i64 n) (fun _=>.int _ _);exact ⟨G1.trans G2,S2,.bool true⟩
section
variable {C:CSpec} {GT:Nat->Option AV}
theorem told_nil_ev (H:Heap):EFun C GT zJZ [.nili] H (.int .i64 0) H:=by
 refine zy rfl ?_;refine zD ?_;exact sRr
theorem told_err_ev (hA:∀ (n old:Int) (b:Nat) (H:Heap),H[b]?=some (.box [.int .i64 old])->C zK1 [.iface zO (.int .i64 n),.iface zJT (.ref b 0 0 0)] H (.bool true) (H.set b (.box [.int .i64 n])))
  (n:Int) (H:Heap):EFun C GT zJZ [zIb n] H (.int .i64 n) H:=by
 refine zy rfl ?_;refine zG ?_;have h:=hA n 0 H.length (H++[ABlk.box [.int .i64 0]]) zB;refine zCM h (fun h=>by cases h) ?_;refine zD ?_;refine zA (.int .i64 n) (zV zB) rfl ?_;exact zAq rfl rfl rfl rfl ((Old.refl H).pushSet _ _)
theorem same_ev (hT0:∀ H,C zEa [.nili] H (.int .i64 0) H) (hT:∀ n H,C zEa [zIb n] H (.int .i64 n) H) (x:AV) (n e:Int) (hx:ErrIs x n) (H:Heap):EFun C GT zJW [x,.int .i64 e] H (.bool (n==e)) H:=by
 rcases hx with ⟨rfl,rfl⟩|rfl
 ·refine zM (hT0 H) ?_;exact sRr
 ·refine zM (hT n H) ?_;exact sRr
end
end Go.AM
