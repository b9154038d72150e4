/- Several texts of mine in one (Rff, Chk, Rfg, Rfh, Rfi). Own work. -/
import Derived.Test.YtkeblfepjkdleaaGreatDoorGAm30Fp1
import Derived.Test.YtkeblfepjkdleaaGreatDoorGRfaRfe
import Derived.Test.YtkeblfepjkdleaaGreatDoorGFr7ToldQ
import Derived.Test.YtkeblfepjkdleaaGreatDoorGFq0Bg0
import Derived.Test.YtkeblfepjkdleaaGreatDoorGAm31Rf1
set_option maxRecDepth 20000
set_option linter.all false
namespace Go.AM
section
variable {C:CSpec} {GT:zG_}
theorem zY2 (b:Nat) (s:Bs) (p d l:Nat) (n0:Nd) (W:Bd) (hW:W.ok s) (H:Heap) (hb:H[b]?=some (rP s p d)) (ho:∀ H,H[b]?=some (rP s p d)->C zAP [pR b] H (ndV n0) (H.set b (W.blk s))) :
  zCw C GT zCN [pR b,zK l] H b [] .undef (some (ndV zZ,W.blk s)):=by
 have hbl:=zl_ hb;have hwe:=hW.1;refine zAJ<|sX ?_;refine sSA (ndV n0) ?_;refine zBG (fun m:Nat=>[(4,pR H.length),(5,pR m),(0,pR b),(1,zK l)])
  (fun _ H'=>OldB H b (W.blk s) H'/\H'[b]?=some (W.blk s)/\H'[H.length]?=some (.box (ndC zZ)))
  (fun _=>0) _ rfl ⟨((((((OldB.start hb).push _).setB _).push _).set zS_ _)),hP,hP⟩ (fun _ H1 ⟨hob,hb1,h4⟩=>?_)
 have h4l:=(zl_ h4);have hb1':H1[b]?=some (.box [.str s,zH W.a,zH W.w,zH W.e,zH W.d]):=hb1;refine zA (zH W.e) hb1' rfl<|zi (tN hwe)<|sX ?_;refine sSA (.agg (zN 0 0 [])) ?_
 exact zAH (o:=0) (ndV zZ) rfl rfl rfl (zI hP) rfl rfl rfl hO rfl
theorem zbq (hT:∀ s a H,a<=s.length->s.length<=1000->C zY [.str s,zK a] H (tkV s a) H)
  (hSg:∀ t H,C zDP [.str t] H (zK (zCE t)) H) (hTi:∀ op H,op<=1000->C zAl [zK op] H (zK (tight op)) H)
  (b:Nat) (s:Bs) (p d l:Nat) (hp:p<=s.length) (hl:s.length<=200)
  (hLo:∀ a l',p<a->a<=s.length->CF C zX [pR b,zK l'] b s a d ((P s).loose l' a d))
  (hOne:CF C zAP [pR b] b s p d ((P s).one p d)):EF C GT zCN [pR b,zK l] b s p d ((P s).loose l p d):=by
 rw [zJ9 l d hp];unfold zEd;cases h1:(P s).one p d with
 |none=>
  obtain ⟨n,a,w,e,d',h2,h3,h4⟩:=hOne.2 h1;exact ⟨fun n e h=>(by cases h),fun _=>⟨zZ,a,w,e,d',h2,h3,fun H hb=>zY2 b s p d l n ⟨a,w,e,d'⟩ ⟨h2,h3⟩ H hb h4⟩⟩
 |some x=>
  obtain ⟨n0,e0⟩:=x;have hx:=(zDA s).one p d _ hp h1;simp only at hx;have ho:=hOne.1 n0 e0 h1;have go:=fun RV RB h2 h3 h4 H hb=>zbl (GT:=GT) hT hSg hTi b s p d l hp hl (fun a l' m e h1 h2 h3=>(hLo a l' h1 h2).1 m e h3) n0 e0 hx.1 hx.2 RV RB h2 h3 h4 H hb ho;simp only [zmF];cases h2:(P s).ll l n0 e0 d with
  |some y=>
   obtain ⟨n',e'⟩:=y;refine ⟨fun n e h H hb=>?_,fun h=>by cases h⟩;cases h;exact go _ _ (fun _=>rfl) ⟨n',rfl⟩ (.inl ⟨n',e',h2,rfl,rfl⟩) H hb
  |none=>
   obtain ⟨W,hW⟩:=ziC (C:=C) p hLo (s.length-e0) n0 e0 hx.1 hx.2 (zlK _) h2;exact ⟨fun n e h=>(by cases h),fun _=>⟨zZ,W.a,W.w,W.e,W.d,hW.ok.1,hW.ok.2,fun H hb=>go _ _ (fun _=>rfl) ⟨zZ,rfl⟩ (.inr ⟨W,hW,rfl,rfl⟩) H hb⟩⟩
end
structure RefK (PR:Program):Prop where
 hm:PR.follows .mixedOrders=true
 wordly:zt PR zCH zET=true
 wrongs:zt PR zA3 zFq=true
 bad:zt PR zDB zIc=true
 named:zt PR zCl zGT=true
 token:zt PR zY zGQ=true
 called:zt PR zAB zFr=true
 whole:zt PR zq zDj=true
 ref:zt PR zm zDy=true
 sign:zt PR zDP zHS=true
 tight:zt PR zAl zGR=true
 fail:zt PR zc zFL=true
 deeper:zt PR ze zEc=true
 close:zt PR zb zCP=true
 one:zt PR zAP zQ=true
 call:zt PR zCk zBt=true
 loose:zt PR zX zCN=true
structure BigG (PR:Program) (GT:zG_):Prop where
 new:∀ v H,zEK v->Good PR GT zAV [zH v] H (.ref H.length 0 0 0) (H++[.box (zGG v)])
 mul:∀ b t v av H,H[b]?=some (.box [.bool false,av])->H[t]?=some (.box (zGG 10))->Mag av v->(wds v).length<=1000->Good PR GT zBJ [.ref b 0 0 0,.ref b 0 0 0,.ref t 0 0 0] H (.ref b 0 0 0) (H.set b (.box [.bool false,zYt v]))
 add:∀ (b t v d:Nat) (av:AV) (H:Heap),H[b]?=some (.box [.bool false,av])->H[t]?=some (.box (zGG d))->Mag av v->(wds v).length<=1000->(wds d).length<=1000->Good PR GT zBK [.ref b 0 0 0,.ref b 0 0 0,.ref t 0 0 0] H (.ref b 0 0 0) (H.set b (.box (zGG ((v+d:Nat):Int))))
 fit:∀ b v H,H[b]?=some (.box (zGG v))->(wds v.natAbs).length<=100->Good PR GT zEE [.ref b 0 0 0] H (.bool (decide (zEK v))) H
 i64:∀ b v H,H[b]?=some (.box (zGG v))->zEK v->Good PR GT zAw [.ref b 0 0 0] H (zH v) H
section
variable {PR:Program} {GT:zG_}
theorem zkI (hm:PR.follows .mixedOrders=true) {f:Nat} {F:AF} {args:List AV} {b:Nat} {s:Bs} {p d:Nat} {r:Option (Nd×Nat)} (hc:zt PR f F=true) (h:EF (Good PR GT) GT F args b s p d r) (hn:zKZ args=true:=by rfl):CF (Good PR GT) f args b s p d r:=
 ⟨fun n e hr H hb=>(zAs hm hc (h.1 n e hr H hb) hn).1 _ _ rfl,fun hr=>by
  obtain ⟨n,a,w,e,d',h1,h2,h3⟩:=h.2 hr;exact ⟨n,a,w,e,d',h1,h2,fun H hb=>(zAs hm hc (h3 H hb) hn).1 _ _ rfl⟩⟩
theorem zfB (k:RefK PR) (c:UInt8) (H:Heap):Good PR GT zCH [byV c] H (.bool (zh c)) H:=zF k.hm k.wordly (zYm c H)
theorem zTF (k:RefK PR) (H:Heap):Good PR GT zA3 [] H (.lst (some false) 1 (wrL.map AV.str)) H:=zF k.hm k.wrongs (zYp H)
theorem zkJ (k:RefK PR) (n:Nat) (H:Heap):Good PR GT zDB [zK n] H (.agg [.int .i64 4,zK n,.str []]) H:=zF k.hm k.bad (zh9 n H)
theorem ziK (k:RefK PR) (n:Nat) (H:Heap) (h1:1<=n) (h6:n<=6):Good PR GT zCl [.str (wrongs.getD (n-1) [])] H (.tup [.agg [.int .i64 4,zK n,.str []],.bool true]) H:=zF k.hm k.named (zbk (zTF k) (zkJ k) n h1 h6 H)
theorem zI0 (k:RefK PR) (s:Bs) (a:Nat) (H:Heap) (ha:a<=s.length) (hl:s.length<=1000):Good PR GT zY [.str s,zK a] H (tkV s a) H:=zF k.hm k.token (zbC (zfB k) (zTF k) s a H ha hl)
theorem zXV (k:RefK PR) (s:Bs) (H:Heap) (hl:s.length<=1000):Good PR GT zAB [.str s] H (.bool (zA8 s)) H:=zF k.hm k.called (zYo s H hl)
theorem zbr (k:RefK PR) (g:BigG PR GT) (s:Bs) (H:Heap) (hl:s.length<=200):Good PR GT zq [.str s,.bool false] H (zLX (zCQ s)) H:=zF k.hm k.whole (zbP g.new g.mul g.add g.fit g.i64 s H hl)
theorem zkK (k:RefK PR) (g:BigG PR GT) (s:Bs) (H:Heap) (hl:s.length<=200):Good PR GT zm [.str s] H (zUj (zFG s)) H:=zF k.hm k.ref (ziA (zbr k g) s H hl)
theorem zkL (k:RefK PR) (t:Bs) (H:Heap):Good PR GT zDP [.str t] H (zK (zCE t)) H:=zF k.hm k.sign (zeo t H)
theorem zWK (k:RefK PR) (op:Nat) (H:Heap) (h:op<=1000):Good PR GT zAl [zK op] H (zK (tight op)) H:=zF k.hm k.tight (zbA op H h)
theorem zUk (k:RefK PR) (b:Nat) (s:Bs) (p d a e:Int) (H:Heap) (hb:H[b]?=some (pB s p 0 0 d)):Good PR GT zc [pR b,zH a,zH e] H (.tup []) (H.set b (pB s p a e d)):=(zAs k.hm k.fail (zep b s p d a 0 e H hb .undef [])).1 _ _ rfl
theorem zfC (k:RefK PR) (b:Nat) (s:Bs) (p:Int) (d:Nat) (a:Int) (H:Heap) (hb:H[b]?=some (pB s p 0 0 d)) (hd:d<=1000) :
  (d=30->Good PR GT ze [pR b,zH a] H (.bool false) (H.set b (pB s p a 4 d)))/\(d≠30->Good PR GT ze [pR b,zH a] H (.bool true) (H.set b (pB s p 0 0 (d+1:Nat)))):=
 have h:=zAs k.hm k.deeper (zYn (GT:=GT) (zUk k) b s p d a H hb hd .undef [])
 ⟨fun e=>h.1 _ _ (by rw [zlF e]),fun e=>h.1 _ _ (by rw [zlD e])⟩
theorem zXW (k:RefK PR) (b:Nat) (s:Bs) (p d e:Nat) (H:Heap) (hb:H[b]?=some (rP s p (d+1))) (hp:p<=s.length) (hl:s.length<=200) (hd:d<=1000) (hk:tok s p=.sign e [41]):Good PR GT zb [pR b] H (.tup []) (H.set b (rP s e d)):=(zAs k.hm k.close (zbD (zI0 k) b s p d e H hb hp hl hd hk)).1 _ _ rfl
theorem zXX (k:RefK PR) (b:Nat) (s:Bs) (p d:Nat) (H:Heap) (hb:H[b]?=some (rP s p (d+1))) (hp:p<=s.length) (hl:s.length<=200) (hd:d<=1000) (hk:¬ ∃ e,tok s p=.sign e [41]):Good PR GT zb [pR b] H (.tup []) (H.set b (pB s (tkE (skip s p) (tok s p):Nat) (skip s p:Nat) 2 d)):=(zAs k.hm k.close (zbE (zI0 k) (zUk k) b s p d H hb hp hl hd hk)).1 _ _ rfl
theorem zXY (k:RefK PR) (b:Nat) (s:Bs) (p:Nat) (w e d:Int) (H:Heap) (hb:H[b]?=some (pB s p w e d)) (he:e≠0) (hp:p<=s.length) (hl:s.length<=200):Good PR GT zb [pR b] H (.tup []) (H.set b (pB s (tkE (skip s p) (tok s p):Nat) w e (IntKind.wrap .i64 (d-1)))):=(zAs k.hm k.close (zYq (zI0 k) b s p w e d H hb he hp hl)).1 _ _ rfl
theorem q_all (k:RefK PR) (g:BigG PR GT) (b:Nat) (s:Bs) (hl:s.length<=200):∀ n p,p<=s.length->s.length-p=n->∀ d,d+(s.length-p)<=500 ->
  CF (Good PR GT) zAP [pR b] b s p d ((P s).one p d)/\∀ l,CF (Good PR GT) zX [pR b,zK l] b s p d ((P s).loose l p d):=by
 intro n;induction n using Nat.strongRecOn with
 |_ n ih=>
  intro p hp hn d hd;have ih':=fun p' (h1:p<p') (h2:p'<=s.length) d' h3=>ih (s.length-p') tO p' h2 rfl d' h3;clear ih;have one:CF (Good PR GT) zAP [pR b] b s p d ((P s).one p d):=by
   refine zkI k.hm k.one (ziB (zI0 k) (zXV k) (zbr k g) (zkK k g) (fun n H=>ziK k n H) (zUk k) (fun b s p d a H=>zfC k b s p d a H) (zXW k) (zXX k) (zXY k) b s p d hp hl tO (fun a h1 h2=>(ih' a h1 h2 (d+1) tO).1) (fun a h1 h2=>(ih' a h1 h2 (d+1) tO).2 1) (fun e t h40 h1 h2=>?_));have he:=(zl_ h40);have h:=zfA (GT:=GT) (zI0 k) (zkK k g) (zUk k) (zXW k) (zXX k) (zXY k) b s t e d h40 hl tO (fun a h1 h2=>(ih' a tO h2 (d+1) tO).2 1);refine ⟨fun n e2 hr H hb=>(zAs k.hm k.call (h.1 n e2 hr H hb)).1 _ _ rfl,fun hr=>?_⟩;obtain ⟨n,a,w,e',d',g1,g2,g3⟩:=h.2 hr;exact ⟨n,a,w,e',d',g1,g2,fun H hb=>(zAs k.hm k.call (g3 H hb)).1 _ _ rfl⟩
  exact ⟨one,fun l=>zkI k.hm k.loose (zbq (zI0 k) (zkL k) (zWK k) b s p d l hp hl (fun a l' h1 h2=>(ih' a h1 h2 d tO).2 l') one)⟩
end
structure Fil where
 col:Int
 row:Int
 text:Bs
 deriving DecidableEq
def zCx (c r:Int):AV:=.agg [zH c,zH r]
def zl (f:Fil):AV:=.agg [zH f.col,zH f.row,.str f.text]
def okC (c r:Int):Bool:=decide (1<=c)&&decide (c<=26)&&decide (1<=r)&&decide (r<=99)
def zWL (a b:Int):Int:=if a<b then -1 else if b<a then 1 else 0
def zbs (c1 r1 c2 r2:Int):Int:=if zWL r1 r2≠0 then zWL r1 r2 else zWL c1 c2
def zE8 (a b:Fil):Bool:=decide (zbs a.col a.row b.col b.row<0)
def zBu (s:Bs):Nat:=if 200<s.length then 4 else if s.head?=some 61 then (match zAn s with
 |some _=>0
 |none=>2) else 0
def eV (n:Nat):AV:=if n=0 then .nili else zJG n
def zWM (prev:Option Fil) (f:Fil):Nat:=if okC f.col f.row=false then 1 else if (match prev with
 |some p=>zE8 p f
 |none=>true)=false then 5 else if f.text=[] then 3 else zBu f.text
def zGv (prev:Option Fil):List Fil->Nat
 |[]=>0
 |f::r=>if zWM prev f=0 then zGv (some f) r else zWM prev f
def zCA (l:List Fil):Nat:=if 200<l.length then 4 else zGv none l
theorem zNj (l:List Fil) (i:Nat) (f:Fil) (h:l[i]?=some f) (prev:Option Fil):zGv prev (l.drop i)=if zWM prev f=0 then zGv (some f) (l.drop (i+1)) else zWM prev f:=by
 have hi:=(zl_ h);have e:l.drop i=f::l.drop (i+1):=by
  rw [zmL hi];rw [(zg h).2]
 rw [e];rfl
theorem zfD {v:AV} {H:Heap} {k:Nat} {xs:List AV} {n:Int} {K:AV->Prop} (i:Nat) (x:AV) (hv:view H k v=some xs) (hn:n=(i:Int)) (hx:xs[i]?=some x) (q1:K (.lref x 0)) (q2:∀ b j,zAD H (.ref b k j 0)=some (x.cells,0)->K (.ref b k j 0)):idxN k v n K:=by
 have hlt:=(zl_ hx);unfold view at hv;split at hv
 ·split at hv
  ·rename_i hk;cases hv;subst hk;exact zT9 hn hx q1
  ·split at hv
   ·cases hv;simp at hlt
   ·cases hv
 ·rw [zKL];unfold zT0;simp only;split at hv
  ·rename_i hk;subst hk;split at hv
   ·rename_i hb;split at hv
    ·rename_i hc;cases hv;rw [zla,zlg] at hlt;rw [zlt,zlF tO,zlu] at hx;subst hn;rw [hc.1] at hb;refine zBF ⟨rfl,by omega,by omega⟩ (q2 _ _ (zVk hb hx))
    ·cases hv
   ·rename_i hb;split at hv
    ·rename_i hc;cases hv;rw [zla,zlg] at hlt;rw [zlt,zlF tO,zlu] at hx;subst hn;rw [hc.1] at hb;refine zBF ⟨rfl,by omega,by omega⟩ (q2 _ _ ?_);show zAD H (.ref _ _ _ _)=_;simp only [zAD,hb,zlp,zlo,hx,zlW]
    ·cases hv
   ·cases hv
  ·cases hv
 ·cases hv
section
variable {C:CSpec} {GT:zG_}
theorem zkM (c r:Int) (H:Heap):EFun C GT zUG [zCx c r] H (.bool (okC c r)) H:=by
 refine zJ ?_;unfold okC;by_cases h1:1<=c
 ·rw [zlY h1];by_cases h2:c<=26
  ·rw [zlY h2];by_cases h3:1<=r
   ·rw [zlY h3];refine zCR (x:=zCx c r) rfl<|sW ?_
    exact sRv
   ·rw [zlf h3];refine zCR (x:=zCx c r) rfl<|sW ?_
    exact sRv
  ·rw [zlf h2];refine zCR (x:=zCx c r) rfl<|sW ?_
   exact sRv
 ·rw [zlf h1];refine zCR (x:=zCx c r) rfl<|sW ?_
  exact sRv
theorem zbt (hO:∀ c r H,C zGM [zCx c r] H (.bool (okC c r)) H) (c r:Int) (H:Heap):EFun C GT zN1 [zCx c r] H (if okC c r=true then .nili else zJG 1) H:=by
 have ho:=hO c r;clear hO;refine zJ ?_;cases hk:okC c r with
 |true=>
  rw [hk] at ho;refine zCR (x:=zCx c r) rfl<|sW ?_
  exact sRv
 |false=>
  rw [hk] at ho;refine zCR (x:=zCx c r) rfl<|sW ?_
  exact sRv
theorem zkN (a:Int) (H:Heap):EFun C GT zJD [zH a] H (.bool false) H:=by
 refine zJ ?_;refine zHO ?_ rfl rfl rfl rfl (Old.refl _);show AV.bool false=AV.bool (a != a);simp
theorem ziL (hN:∀ a H,C zDM [zH a] H (.bool false) H) (a b:Int) (H:Heap):EFun C GT zG3 [zH a,zH b] H (zH (zWL a b)) H:=by
 have hn:=hN;clear hN;refine zJ ?_;unfold zWL;by_cases h1:a<b
 ·rw [zlF h1];refine sW ?_;exact sRv
 ·rw [zlD h1];by_cases h2:b<a
  ·rw [zlF h2];refine sW ?_;exact sRv
  ·rw [zlD h2];refine sW ?_;exact sRv
theorem zkO (b:Nat) (x y:Int) (H:Heap) (hb:H[b]?=some (.row 1 [zH x,zH y])):EFun C GT zMG [.sl (some false) b 1 0 2] H (zH (if x≠0 then x else y)) H:=by
 refine zJ ?_;obtain ⟨r,hr⟩:∃ r,(if x≠0 then x else y)=r:=⟨_,rfl⟩;rw [hr];refine zHq ?_;refine zBG (fun i:Nat=>[(8,zK i),(3,zH 0),(6,.sl (some false) b 1 0 2),(7,zK 2)]) (fun i H'=>H'=H/\i<=2/\(1<=i->x=0)/\(2<=i->y=0)) (fun i=>2-i) 0 rfl ⟨rfl,by omega,fun h=>by omega,fun h=>by omega⟩ (fun i H1 ⟨hH,hi,hx,hy⟩=>?_);subst hH;dsimp only;rcases (show i=0\/i=1\/i=2 by omega) with rfl|rfl|rfl
 ·by_cases h0:x=0
  ·refine sW ?_;refine sAt ⟨by omega,by omega⟩<|zBa 0 (zH x) (zH x) rfl hb rfl rfl<|zi (zle.2 tO)<|zS (r:=1) rfl tO ?_;refine zAR 1 rfl ⟨rfl,by omega,fun _=>h0,fun h=>by omega⟩ tO
  ·rw [zlF h0] at hr;subst hr;refine sW ?_;refine sAt ⟨by omega,by omega⟩<|zBa 0 (zH x) (zH x) rfl hb rfl rfl<|zn (zlz.2 tO) ?_
   exact sRv
 ·have h0:=hx tO;rw [zlD (fun h=>h h0)] at hr;subst hr;by_cases h1:y=0
  ·refine sW ?_;refine sAt ⟨by omega,by omega⟩<|zBa 1 (zH y) (zH y) rfl hb rfl rfl<|zi (zle.2 tO)<|zS (r:=2) rfl tO ?_;refine zAR 2 rfl ⟨rfl,by omega,fun _=>h0,fun _=>h1⟩ tO
  ·refine sW ?_;refine sAt ⟨by omega,by omega⟩<|zBa 1 (zH y) (zH y) rfl hb rfl rfl<|zn (zlz.2 tO) ?_
   exact sRv
 ·have h0:=hx tO;have h1:=hy tO;rw [zlD (fun h=>h h0),h1] at hr;subst hr;refine sW ?_;exact sRv
theorem zfE (hC:∀ a b H,C zCJ [zH a,zH b] H (zH (zWL a b)) H) (hO:∀ b x y H,H[b]?=some (.row 1 [zH x,zH y])->C zF7 [.sl (some false) b 1 0 2] H (zH (if x≠0 then x else y)) H) (c1 r1 c2 r2:Int) (H:Heap) :
  EFun C GT zKx [zCx c1 r1,zCx c2 r2] H (zH (zbs c1 r1 c2 r2)) H:=by
 have hc:=hC;have ho:=fun b H h=>hO b (zWL r1 r2) (zWL c1 c2) H h;clear hO hC;refine zJ ?_;unfold zbs;refine zCR (x:=zCx c1 r1) rfl<|zCR (x:=zCx c2 r2) rfl<|sW ?_;refine zAb (vs':=[zH (zWL r1 r2),zH (zWL c1 c2)]) rfl rfl<|sW ?_
 exact sRv
theorem zfF (hC:∀ c1 r1 c2 r2 H,C zFT [zCx c1 r1,zCx c2 r2] H (zH (zbs c1 r1 c2 r2)) H) (a b:Fil) (H:Heap):EFun C GT zPi [zCx a.col a.row,zCx b.col b.row] H (.bool (zE8 a b)) H:=by
 have hc:=hC a.col a.row b.col b.row;clear hC;refine zJ ?_;unfold zE8;refine zCR (x:=zCx a.col a.row) rfl<|zCR (x:=zCx b.col b.row) rfl<|sW ?_
 exact sRv
theorem zfG (hCo:∀ s H,C zAh [.str s] H (.bool (decide (s.head?≠some 61))) H) (hP:∀ s H,C zAF [.str s] H (zFN s) H) (s:Bs) (H:Heap):EFun C GT zN2 [.str s] H (eV (zBu s)) H:=by
 have hc:=hCo s;have hp:=hP s;clear hCo hP;refine zJ ?_;unfold zBu;by_cases hl:200<s.length
 ·rw [zlF hl];refine sW ?_;exact sRv
 ·rw [zlD hl];by_cases h:s.head?=some 61
  ·rw [zlF h];rw [tF (fun x=>x h)] at hc;unfold zFN at hp;cases hq:zAn s with
   |some n=>
    rw [hq] at hp;have hp:∀ H,C zAF [.str s] H (.tup [ndV n,.int .i64 0,.nili]) H:=hp;refine sW ?_;refine sSA (ndV n) ?_;refine sW ?_;exact sRv
   |none=>
    rw [hq] at hp;have hp:∀ H,C zAF [.str s] H (.tup [ndV zZ,.sca,.iface zO .undef]) H:=hp;refine sW ?_;refine sSA (ndV zZ) ?_;refine sW ?_;exact sRv
  ·rw [zlD h];rw [zlY h] at hc;refine sW ?_;exact sRv
theorem zbu (hA:∀ c r H,C zBd [zCx c r] H (if okC c r=true then .nili else zJG 1) H) (hL:∀ a b H,C zIX [zCx a.col a.row,zCx b.col b.row] H (.bool (zE8 a b)) H) (hT:∀ s H,C zCy [.str s] H (eV (zBu s)) H)
  (lv:AV) (l:List Fil) (H:Heap) (hv:view H 3 lv=some (l.map zl)):EFun C GT zL7 [lv] H (eV (zCA l)) H:=by
 have hlm:(l.map zl).length=l.length:=zlM _;refine zJ ?_;unfold zCA;by_cases hl:200<l.length
 ·rw [zlF hl];clear hA hL hT;refine zFH hv<|sW ?_
  exact sRv
 rw [zlD hl];obtain ⟨r,hr⟩:∃ r,zGv none l=r:=⟨_,rfl⟩;rw [hr];refine zFH hv<|sW ?_;refine zFH hv ?_;refine zBG (fun i:Nat=>[(12,zK i),(0,lv),(10,lv),(11,.int .i64 ((l.map zl).length:Nat))]) (fun i H'=>Old H H'/\view H' 3 lv=some (l.map zl)/\i<=l.length/\zGv (if i=0 then none else l[i-1]?) (l.drop i)=r) (fun i=>l.length-i) 0 rfl ⟨Old.refl _,hv,by omega,hr⟩ (fun i H1 ⟨hH,hv1,hi,hq⟩=>?_)
 dsimp only;by_cases hlt:i<l.length
 ·obtain ⟨f,hf⟩:∃ f,l[i]?=some f:=⟨_,zlI hlt⟩;have hfm:(l.map zl)[i]?=some (zl f):=by rw [zlQ,hf];rfl
  rw [zNj l i f hf] at hq;have hvo:view ((H1++[ABlk.box zV3]).set (List.length H1) (ABlk.box (zl f).cells)) 3 lv=some (l.map zl):=zd3 (((Old.refl H1).push _).set (zlK _) _) hv1;have ha:=hA f.col f.row;have ht:=hT f.text;have hH2:∀ X Y,Old H ((H1++[X]).set H1.length Y):=fun X Y=>(hH.push _).set hH.1 _;clear hA hT;unfold zWM at hq;cases hok:okC f.col f.row with
  |false=>
   rw [hok] at ha hq;have hq:1=r:=hq;subst hq;clear hL ht;refine sW ?_;refine zQr i (zl f) hv1 rfl hfm (fun p hp=>?_);refine zAt (zl f) hp rfl<|sSA (zl f) ?_;refine sW ?_
   exact zAv rfl rfl rfl rfl (hH2 _ _)
  |true=>
   rw [hok] at ha hq;rw [zlD (by simp:¬ (true=false))] at hq;have ha:∀ H,C zBd [zCx f.col f.row] H .nili H:=ha;by_cases hi0:i=0
   ·rw [zlF hi0] at hq;have hq:(if (if f.text=[] then 3 else zBu f.text)=0 then zGv (some f) (l.drop (i+1)) else if f.text=[] then 3 else zBu f.text)=r:=hq;clear hL;by_cases h0:f.text=[]
    ·rw [zlF h0] at hq;have hq:3=r:=hq;subst hq;clear ht;refine sW ?_;refine zQr i (zl f) hv1 rfl hfm (fun p hp=>?_);refine zAt (zl f) hp rfl<|zL (v:=zl f) (AV.cells (zl f)) zB rfl rfl rfl rfl<|zA (.agg [zH f.col,zH f.row]) hP rfl<|zM (ha _)<|zx rfl ?_;refine zG<|zi tF<|zG<|zG<|zA (.str f.text) hP rfl<|zn (tE h0) ?_
     exact zAv rfl rfl rfl rfl (hH2 _ _)
    ·rw [zlD h0] at hq;by_cases hz:zBu f.text=0
     ·rw [zlF hz] at hq;rw [hz] at ht;have ht:∀ H,C zCy [.str f.text] H .nili H:=ht;refine sW ?_;refine zQr i (zl f) hv1 rfl hfm (fun p hp=>?_);refine zAt (zl f) hp rfl<|zL (v:=zl f) (AV.cells (zl f)) zB rfl rfl rfl rfl<|zA (.agg [zH f.col,zH f.row]) hP rfl<|zM (ha _)<|zx rfl ?_;refine zG<|zi tF<|zG<|zG<|zA (.str f.text) hP rfl<|zi (tN h0) ?_;refine zA (.str f.text) hP rfl<|zM (ht _)<|zx rfl<|zG<|zS (r:=i+1) rfl tO ?_;refine zAR (i+1) rfl ⟨hH2 _ _,hvo,by omega, ?_⟩ tO
      rw [zlD tO,zmO,hf];exact hq
     ·rw [zlD hz] at hq;subst hq;have ht:∀ H,C zCy [.str f.text] H (zJG (zBu f.text)) H:=fun H=>by have:=ht H;rwa [eV,zlD hz] at this
      rw [eV,zlD hz];refine sW ?_;refine zQr i (zl f) hv1 rfl hfm (fun p hp=>?_);refine zAt (zl f) hp rfl<|zL (v:=zl f) (AV.cells (zl f)) zB rfl rfl rfl rfl<|zA (.agg [zH f.col,zH f.row]) hP rfl<|zM (ha _)<|zx rfl ?_;refine zG<|zi tF<|zG<|zG<|zA (.str f.text) hP rfl<|zi (tN h0) ?_;refine zA (.str f.text) hP rfl<|zM (ht _)<|zx rfl<|zE ?_
      exact zAv rfl rfl rfl rfl (hH2 _ _)
   ·obtain ⟨g,hg⟩:∃ g,l[i-1]?=some g:=⟨_,zlI tO⟩;have hgm:(l.map zl)[i-1]?=some (zl g):=by rw [zlQ,hg];rfl
    rw [zlD hi0,hg] at hq;have hq:(if (if zE8 g f=false then 5 else if f.text=[] then 3 else zBu f.text)=0 then zGv (some f) (l.drop (i+1)) else if zE8 g f=false then 5 else if f.text=[] then 3 else zBu f.text)=r:=hq;have hls:=hL g f;clear hL;cases hlp:zE8 g f with
    |false=>
     rw [hlp] at hls hq;have hq:5=r:=hq;subst hq;clear ht;refine sW ?_;refine zQr i (zl f) hv1 rfl hfm (fun p hp=>?_);refine zAt (zl f) hp rfl<|sSA (zl f) ?_;refine sW ?_;refine zS (r:=i-1) tO tO ?_;refine zfD (i-1) (zl g) hvo rfl hgm ?_ (fun b2 j2 hp2=>?_)
     ·refine sW ?_;exact zAv rfl rfl rfl rfl (hH2 _ _)
     ·refine zAt (zCx g.col g.row) hp2 rfl<|sW ?_
      exact zAv rfl rfl rfl rfl (hH2 _ _)
    |true=>
     rw [hlp] at hls hq;rw [zlD (by simp:¬ (true=false))] at hq;by_cases h0:f.text=[]
     ·rw [zlF h0] at hq;have hq:3=r:=hq;subst hq;clear ht;refine sW ?_;refine zQr i (zl f) hv1 rfl hfm (fun p hp=>?_);refine zAt (zl f) hp rfl<|sSA (zl f) ?_;refine sW ?_;refine zS (r:=i-1) tO tO ?_;refine zfD (i-1) (zl g) hvo rfl hgm ?_ (fun b2 j2 hp2=>?_)
      ·refine zA9 (zCx g.col g.row) rfl<|zA (.agg [zH f.col,zH f.row]) hP rfl<|zM (hls _)<|zE<|zG<|zA (.str f.text) hP rfl ?_;refine zn (tE h0) ?_
       exact zAv rfl rfl rfl rfl (hH2 _ _)
      ·refine zAt (zCx g.col g.row) hp2 rfl<|zA (.agg [zH f.col,zH f.row]) hP rfl<|zM (hls _)<|zE<|zG<|zA (.str f.text) hP rfl ?_;refine zn (tE h0) ?_
       exact zAv rfl rfl rfl rfl (hH2 _ _)
     ·rw [zlD h0] at hq;by_cases hz:zBu f.text=0
      ·rw [zlF hz] at hq;rw [hz] at ht;have ht:∀ H,C zCy [.str f.text] H .nili H:=ht;refine sW ?_;refine zQr i (zl f) hv1 rfl hfm (fun p hp=>?_);refine zAt (zl f) hp rfl<|sSA (zl f) ?_;refine sW ?_;refine zS (r:=i-1) tO tO ?_;refine zfD (i-1) (zl g) hvo rfl hgm ?_ (fun b2 j2 hp2=>?_)
       ·refine zA9 (zCx g.col g.row) rfl<|zA (.agg [zH f.col,zH f.row]) hP rfl<|zM (hls _)<|zE<|zG<|zA (.str f.text) hP rfl ?_;refine zi (tN h0)<|zA (.str f.text) hP rfl<|zM (ht _)<|zx rfl<|zG<|zS (r:=i+1) rfl tO ?_;refine zAR (i+1) rfl ⟨hH2 _ _,hvo,by omega, ?_⟩ tO
        rw [zlD tO,zmO,hf];exact hq
       ·refine zAt (zCx g.col g.row) hp2 rfl<|zA (.agg [zH f.col,zH f.row]) hP rfl<|zM (hls _)<|zE<|zG<|zA (.str f.text) hP rfl ?_;refine zi (tN h0)<|zA (.str f.text) hP rfl<|zM (ht _)<|zx rfl<|zG<|zS (r:=i+1) rfl tO ?_;refine zAR (i+1) rfl ⟨hH2 _ _,hvo,by omega, ?_⟩ tO
        rw [zlD tO,zmO,hf];exact hq
      ·rw [zlD hz] at hq;subst hq;have ht:∀ H,C zCy [.str f.text] H (zJG (zBu f.text)) H:=fun H=>by have:=ht H;rwa [eV,zlD hz] at this
       rw [eV,zlD hz];refine sW ?_;refine zQr i (zl f) hv1 rfl hfm (fun p hp=>?_);refine zAt (zl f) hp rfl<|sSA (zl f) ?_;refine sW ?_;refine zS (r:=i-1) tO tO ?_;refine zfD (i-1) (zl g) hvo rfl hgm ?_ (fun b2 j2 hp2=>?_)
       ·refine zA9 (zCx g.col g.row) rfl<|zA (.agg [zH f.col,zH f.row]) hP rfl<|zM (hls _)<|zE<|zG<|zA (.str f.text) hP rfl ?_;refine zi (tN h0)<|zA (.str f.text) hP rfl<|zM (ht _)<|zx rfl<|zE ?_
        exact zAv rfl rfl rfl rfl (hH2 _ _)
       ·refine zAt (zCx g.col g.row) hp2 rfl<|zA (.agg [zH f.col,zH f.row]) hP rfl<|zM (hls _)<|zE<|zG<|zA (.str f.text) hP rfl ?_;refine zi (tN h0)<|zA (.str f.text) hP rfl<|zM (ht _)<|zx rfl<|zE ?_
        exact zAv rfl rfl rfl rfl (hH2 _ _)
 ·have hd:l.drop i=[]:=zl3 tO;rw [hd] at hq;have hq:0=r:=hq;subst hq;clear hA hL hT;refine sW ?_;exact zAv rfl rfl rfl rfl hH
end
theorem zbv (a b:Fil):zE8 a b=if a.row≠b.row then decide (a.row<b.row) else decide (a.col<b.col):=by
 unfold zE8 zbs zWL;by_cases h1:a.row<b.row
 ·have h2:a.row≠b.row:=by omega
  simp [h1,h2]
 ·by_cases h2:b.row<a.row
  ·have h3:a.row≠b.row:=by omega
   simp [h1,h2,h3]
  ·have h3:a.row=b.row:=by omega
   by_cases h4:a.col<b.col
   ·simp [h3,h4]
   ·by_cases h5:b.col<a.col
    ·simp [h3,h4,h5]
    ·simp [h3,h4,h5]
theorem zDo {F:AF} {a s t1 t2:Nat} {ag:Bool} {H H1:Heap} {fr:Fr} {v v1 v2:AV} {cs:List AV} {o:Nat} (hF:F.results=[.cell a s ag,.tmp t1,.tmp t2]) (hk:F.keep=false) (hp:zAD H1 (zL0 fr a)=some (cs,o)) (hpt:part cs o s ag=some v) (ht1:zL0 fr t1=v1) (ht2:zL0 fr t2=v2)
  (hf:zEM H.length (.tup [v,v1,v2]) H1=some (.tup [v,v1,v2],H1)) (hb:(AV.tup [v,v1,v2]).bel H.length=true) (ho:Old H H1):retP F H fr H1 (.tup [v,v1,v2]) H:=by
 refine zAv hk ?_ hf hb ho;rw [zFl] at hp ht1 ht2;simp only [hF,zBh,zLj,hp,hpt,ht1,ht2,zlW];rfl
section
variable {C:CSpec} {GT:zG_}
theorem zkP (c r:Int) (H:Heap):EFun C GT zJn [zCx c r] H (.bool (okC c r)) H:=by
 refine zJ ?_;unfold okC;by_cases h1:1<=c
 ·rw [zlY h1];by_cases h2:c<=26
  ·rw [zlY h2];by_cases h3:1<=r
   ·rw [zlY h3];refine zCR (x:=zCx c r) rfl<|zA (zH c) zB rfl<|zn tT<|zA (zH c) zB rfl<|zE<|zn tT ?_;refine zA (zH r) zB rfl<|zE<|zn tT<|zA (zH r) zB rfl<|zE ?_
    exact zAv rfl rfl rfl rfl ((Old.refl _).push _)
   ·rw [zlf h3];refine zCR (x:=zCx c r) rfl<|zA (zH c) zB rfl<|zn tT<|zA (zH c) zB rfl<|zE<|zn tT ?_;refine zA (zH r) zB rfl<|zE<|zi tF<|zG ?_
    exact zAv rfl rfl rfl rfl ((Old.refl _).push _)
  ·rw [zlf h2];refine zCR (x:=zCx c r) rfl<|zA (zH c) zB rfl<|zn tT<|zA (zH c) zB rfl ?_;refine zE<|zi tF<|zG<|zG<|zG ?_
   exact zAv rfl rfl rfl rfl ((Old.refl _).push _)
 ·rw [zlf h1];refine zCR (x:=zCx c r) rfl<|zA (zH c) zB rfl ?_;refine zi tF<|zG<|zG<|zG<|zG<|zG ?_
  exact zAv rfl rfl rfl rfl ((Old.refl _).push _)
theorem zbw (a b:Fil) (H:Heap):EFun C GT zGO [zCx a.col a.row,zCx b.col b.row] H (.bool (zE8 a b)) H:=by
 rw [zbv];refine zJ ?_;by_cases h:a.row≠b.row
 ·rw [zlF h];refine zCR (x:=zCx a.col a.row) rfl<|zCR (x:=zCx b.col b.row) rfl<|zA (zH a.row) hP rfl<|zA (zH b.row) zB rfl<|zn (zlz.2 h)<|zA (zH a.row) hP rfl ?_;refine zA (zH b.row) zB rfl ?_
  exact zAv rfl rfl rfl rfl (((Old.refl _).push _).push _)
 ·rw [zlD h];have h:a.row=b.row:=Classical.not_not.1 h;refine zCR (x:=zCx a.col a.row) rfl<|zCR (x:=zCx b.col b.row) rfl<|zA (zH a.row) hP rfl<|zA (zH b.row) zB rfl<|zi (zle.2 h)<|zA (zH a.col) hP rfl ?_;refine zA (zH b.col) zB rfl ?_
  exact zAv rfl rfl rfl rfl (((Old.refl _).push _).push _)
def RPar (C:CSpec) (s:Bs):Prop:=
 (∀ n,zAn s=some n->∀ H,C zBI [.str s] H (.tup [ndV n,zH 0,zH 0]) H)/\(zAn s=none->∀ H,∃ w e:Int,e≠0/\C zBI [.str s] H (.tup [ndV zZ,zH w,zH e]) H)
theorem zbx (hT:∀ s a H,a<=s.length->s.length<=1000->C zY [.str s,zK a] H (tkV s a) H) (s:Bs) (hl:s.length<=200) (h61:s[0]?=some 61) (n:Nd) (e:Nat) (he:e<=s.length) (hk:tok s e=.fin)
  (hLo:∀ b H,H[b]?=some (rP s 1 0)->C zX [pR b,.int .i64 1] H (ndV n) (H.set b (rP s e 0))) (H:Heap):EFun C GT zDi [.str s] H (.tup [ndV n,zH 0,zH 0]) H:=by
 have htk:=fun H=>hT s e H he tO;rw [zHI,hk] at htk;clear hT;refine zJ ?_;have hne:s≠[]:=fun x=>by subst x;cases h61
 generalize skip s e=q at *;refine zi tF<|zi (tN hne)<|zCF rfl h61<|zG<|zG<|zx (v:=[.str s,.int .i64 1,.int .i64 0,.int .i64 0,.int .i64 0]) rfl ?_;refine zCR (x:=AV.agg [.str s,.int .i64 1,.int .i64 0,.int .i64 0,.int .i64 0]) rfl<|zCI (hLo _ _ hP) (fun h=>by cases h)<|zL (v:=ndV n) (AV.cells (ndV n)) zB rfl rfl rfl rfl<|zA (zH ↑e) hP rfl<|zM (htk _)<|zL (v:=kV (tkK Tok.fin) q (tkE q Tok.fin) (tkT Tok.fin)) (AV.cells (kV (tkK Tok.fin) q (tkE q Tok.fin) (tkT Tok.fin))) zB rfl rfl rfl rfl ?_
 refine zA (zH 0) hP rfl<|zE<|zA (zK (tkK Tok.fin)) hP rfl<|zE<|zG<|zA (zH 0) hP rfl ?_;refine zG<|zA (ndV n) hP rfl<|zL (v:=ndV n) (AV.cells (ndV n)) hP rfl rfl rfl rfl ?_
 exact zDo (o:=0) rfl rfl (zI hP) rfl rfl rfl rfl rfl hO
theorem zWN (hT:∀ s a H,a<=s.length->s.length<=1000->C zY [.str s,zK a] H (tkV s a) H)
  (hF:∀ b s p d a e H,H[b]?=some (pB s p 0 0 d)->C zc [pR b,zH a,zH e] H (.tup []) (H.set b (pB s p a e d)))
  (s:Bs) (hl:s.length<=200) (h61:s[0]?=some 61) (n:Nd) (e:Nat) (he:e<=s.length) (hk:tkK (tok s e)≠0)
  (hLo:∀ b H,H[b]?=some (rP s 1 0)->C zX [pR b,.int .i64 1] H (ndV n) (H.set b (rP s e 0))) (H:Heap):EFun C GT zDi [.str s] H (.tup [ndV zZ,zK (skip s e),zH 2]) H:=by
 have htk:=fun H=>hT s e H he tO;rw [zHI] at htk;have hf:=fun b H=>hF b s e 0 (skip s e:Nat) 2 H;clear hT hF;refine zJ ?_;have hne:s≠[]:=fun x=>by subst x;cases h61
 generalize tkE (skip s e) (tok s e)=ee at *;generalize tkK (tok s e)=kk at *;generalize tkT (tok s e)=t at *;generalize skip s e=q at *;refine zi tF<|zi (tN hne)<|zCF rfl h61<|zG<|zG<|zx (v:=[.str s,.int .i64 1,.int .i64 0,.int .i64 0,.int .i64 0]) rfl ?_;refine zCR (x:=AV.agg [.str s,.int .i64 1,.int .i64 0,.int .i64 0,.int .i64 0]) rfl<|zCI (hLo _ _ hP) (fun h=>by cases h)<|zL (v:=ndV n) (AV.cells (ndV n)) zB rfl rfl rfl rfl<|zA (zH ↑e) hP rfl<|zM (htk _)<|zL (v:=kV kk q ee t) (AV.cells (kV kk q ee t)) zB rfl rfl rfl rfl ?_
 refine zA (zH 0) hP rfl<|zn (tE (by rfl))<|zA (zK kk) hP rfl<|zE<|zn (zlz.2 tO)<|zA (zK q) hP rfl ?_;refine zCI (hf _ _ hP) (fun h=>by cases h)<|zA (zH 2) hP rfl<|zn (zlz.2 tO)<|zx (v:=(zN 0 0 [])) rfl ?_;refine zHN ?_ ?_
 ·refine zA (zH ↑q) hP rfl ?_;refine zHN ?_ ?_
  ·refine zA (zH 2) hP rfl<|zL (v:=.agg (zN 0 0 [])) (AV.cells (.agg (zN 0 0 []))) hP rfl rfl rfl rfl ?_
   exact zDo (o:=0) rfl rfl (zI hP) rfl rfl rfl rfl rfl hO
  ·refine zL (v:=.agg (zN 0 0 [])) (AV.cells (.agg (zN 0 0 []))) hP rfl rfl rfl rfl<|zA (zH 2) hP rfl ?_
   exact zDo (o:=0) rfl rfl (zI hP) rfl rfl rfl rfl rfl hO
 ·refine zHN ?_ ?_
  ·refine zA (zH 2) hP rfl ?_;refine zHN ?_ ?_
   ·refine zA (zH ↑q) hP rfl<|zL (v:=.agg (zN 0 0 [])) (AV.cells (.agg (zN 0 0 []))) hP rfl rfl rfl rfl ?_
    exact zDo (o:=0) rfl rfl (zI hP) rfl rfl rfl rfl rfl hO
   ·refine zL (v:=.agg (zN 0 0 [])) (AV.cells (.agg (zN 0 0 []))) hP rfl rfl rfl rfl<|zA (zH ↑q) hP rfl ?_
    exact zDo (o:=0) rfl rfl (zI hP) rfl rfl rfl rfl rfl hO
  ·refine zL (v:=.agg (zN 0 0 [])) (AV.cells (.agg (zN 0 0 []))) hP rfl rfl rfl rfl<|zA (zH ↑q) hP rfl<|zA (zH 2) hP rfl ?_
   exact zDo (o:=0) rfl rfl (zI hP) rfl rfl rfl rfl rfl hO
theorem zY3 (hT:∀ s a H,a<=s.length->s.length<=1000->C zY [.str s,zK a] H (tkV s a) H)
  (s:Bs) (hl:s.length<=200) (h61:s[0]?=some 61) (n:Nd) (a:Nat) (w e d:Int) (ha:a<=s.length) (he:e≠0) (H:Heap)
  (hLo:∀ H',H'[(H++[ABlk.box (ndC zZ)]).length]?=some (rP s 1 0)->C zX [pR (H++[ABlk.box (ndC zZ)]).length,.int .i64 1] H' (ndV n) (H'.set (H++[ABlk.box (ndC zZ)]).length (pB s a w e d))):EFun C GT zDi [.str s] H (.tup [ndV zZ,zH w,zH e]) H:=by
 have htk:=fun H=>hT s a H ha tO;rw [zHI] at htk;clear hT;refine zJ ?_;have hne:s≠[]:=fun x=>by subst x;cases h61
 generalize tkE (skip s a) (tok s a)=ee at *;generalize tkK (tok s a)=kk at *;generalize tkT (tok s a)=t at *;generalize skip s a=q at *;refine zi tF<|zi (tN hne)<|zCF rfl h61<|zG<|zG<|zx (v:=[.str s,.int .i64 1,.int .i64 0,.int .i64 0,.int .i64 0]) rfl ?_;refine zCR (x:=AV.agg [.str s,.int .i64 1,.int .i64 0,.int .i64 0,.int .i64 0]) rfl<|zCI (hLo _ hP) (fun h=>by cases h)<|zL (v:=ndV n) (AV.cells (ndV n)) zB rfl rfl rfl rfl<|zA (zH ↑a) hP rfl<|zM (htk _)<|zL (v:=kV kk q ee t) (AV.cells (kV kk q ee t)) zB rfl rfl rfl rfl ?_
 refine zA (zH e) hP rfl<|zi tF<|zG<|zG<|zA (zH e) hP rfl<|zn (zlz.2 he) ?_;refine zx (v:=(zN 0 0 [])) rfl ?_;refine zHN ?_ ?_
 ·refine zA (zH w) hP rfl ?_;refine zHN ?_ ?_
  ·refine zA (zH e) hP rfl<|zL (v:=.agg (zN 0 0 [])) (AV.cells (.agg (zN 0 0 []))) hP rfl rfl rfl rfl ?_
   exact zDo (o:=0) rfl rfl (zI hP) rfl rfl rfl rfl rfl hO
  ·refine zL (v:=.agg (zN 0 0 [])) (AV.cells (.agg (zN 0 0 []))) hP rfl rfl rfl rfl<|zA (zH e) hP rfl ?_
   exact zDo (o:=0) rfl rfl (zI hP) rfl rfl rfl rfl rfl hO
 ·refine zHN ?_ ?_
  ·refine zA (zH e) hP rfl ?_;refine zHN ?_ ?_
   ·refine zA (zH w) hP rfl<|zL (v:=.agg (zN 0 0 [])) (AV.cells (.agg (zN 0 0 []))) hP rfl rfl rfl rfl ?_
    exact zDo (o:=0) rfl rfl (zI hP) rfl rfl rfl rfl rfl hO
   ·refine zL (v:=.agg (zN 0 0 [])) (AV.cells (.agg (zN 0 0 []))) hP rfl rfl rfl rfl<|zA (zH w) hP rfl ?_
    exact zDo (o:=0) rfl rfl (zI hP) rfl rfl rfl rfl rfl hO
  ·refine zL (v:=.agg (zN 0 0 [])) (AV.cells (.agg (zN 0 0 []))) hP rfl rfl rfl rfl<|zA (zH w) hP rfl<|zA (zH e) hP rfl ?_
   exact zDo (o:=0) rfl rfl (zI hP) rfl rfl rfl rfl rfl hO
end
theorem ziM {v:AV} {H:Heap} {k:Nat} {xs:List AV} (hv:view H k v=some xs):(∀ (n:Int) (i:Nat) (x:AV) (K:AV->Prop),n=(i:Int)->xs[i]?=some x->K (.lref x 0)->idxN k v n K) \/
  (∀ (n:Int) (i:Nat) (x:AV) (K:AV->Prop),n=(i:Int)->xs[i]?=some x->(∀ b j,(∀ o,zAD H (.ref b k j o)=some (x.cells,o))->K (.ref b k j 0))->idxN k v n K):=by
 unfold view at hv;split at hv
 ·split at hv
  ·rename_i hk;cases hv;subst hk;exact .inl fun n i x K hn hx q=>zT9 hn hx q
  ·split at hv
   ·cases hv;exact .inl fun n i x K hn hx q=>by simp at hx
   ·cases hv
 ·refine .inr fun n i x K hn hx q2=>?_;have hlt:=(zl_ hx);rw [zKL];unfold zT0;simp only;split at hv
  ·rename_i hk;subst hk;split at hv
   ·rename_i hb;split at hv
    ·rename_i hc;cases hv;rw [zla,zlg] at hlt;rw [zlt,zlF tO,zlu] at hx;subst hn;rw [hc.1] at hb;refine zBF ⟨rfl,by omega,by omega⟩ (q2 _ _ fun o=>?_);show zAD H (.ref _ _ _ _)=_;simp only [zAD,hb,zlp,zlo,hx,zlW]
    ·cases hv
   ·rename_i hb;split at hv
    ·rename_i hc;cases hv;rw [zla,zlg] at hlt;rw [zlt,zlF tO,zlu] at hx;subst hn;rw [hc.1] at hb;refine zBF ⟨rfl,by omega,by omega⟩ (q2 _ _ fun o=>?_);show zAD H (.ref _ _ _ _)=_;simp only [zAD,hb,zlp,zlo,hx,zlW]
    ·cases hv
   ·cases hv
  ·cases hv
 ·cases hv
section
variable {C:CSpec} {GT:zG_}
theorem zfH (hP:∀ s,s.length<=200->s.head?=some 61->RPar C s) (s:Bs) (H:Heap):EFun C GT zHR [.str s] H (zK (zBu s)) H:=by
 have hp:=hP s;clear hP;refine zJ ?_;unfold zBu;by_cases hl:200<s.length
 ·rw [zlF hl];clear hp;refine sX ?_;exact sRv
 ·rw [zlD hl];cases s with
  |nil=>
   clear hp;refine sX ?_;exact sRv
  |cons c r=>
   have hne:(c::r)≠[]:=by simp
   have h0:(c::r)[0]?=some c:=rfl;by_cases h:c=61
   ·subst h;have hp:=hp tO rfl;rw [zlF (show (61::r:Bs).head?=some 61 from rfl)];obtain ⟨s,hs⟩:∃ s:Bs,(61::r:Bs)=s:=⟨_,rfl⟩;rw [hs] at hl hp hne h0 ⊢;cases hq:zAn s with
    |some n=>
     have hp:=hp.1 n hq;refine sX ?_;refine zn (zlz.2 hne)<|sX ?_;refine sSA (ndV n) ?_;refine sX ?_
     exact sRv
    |none=>
     obtain ⟨w,e,he,hp⟩:=hp.2 hq H;refine sX ?_;refine zn (zlz.2 hne)<|sX ?_;refine sSA (ndV zZ) ?_;refine zn (zlz.2 he) ?_
     exact sRv
   ·rw [zlD (show ¬ (c::r:Bs).head?=some 61 from fun x=>h (zlb x))];clear hp;obtain ⟨s,hs⟩:∃ s:Bs,(c::r:Bs)=s:=⟨_,rfl⟩;rw [hs] at hl hne h0 ⊢;refine sX ?_;refine zn (zlz.2 hne)<|sX ?_;refine zi (tN (fun x=>h (zlc.1 (by have:(61:UInt8).toNat=61:=rfl;omega)))) ?_
    exact sRv
end
structure RefK2 (PR:Program):Prop extends RefK PR where
 parse:zt PR zBI zDi=true
 isIn:zt PR zBo zJn=true
 ahead:zt PR zBy zGO=true
 text:zt PR zEB zHR=true
section
variable {PR:Program} {GT:zG_}
theorem zWO (k:RefK2 PR) (g:BigG PR GT) (s:Bs) (hl:s.length<=200) (h61:s.head?=some 61):RPar (Good PR GT) s:=by
 have h0:s[0]?=some 61:=by rw [<-List.head?_eq_getElem?];exact h61
 have h1:1<=s.length:=by cases s with
  |nil=>cases h61
  |cons c r=>simp
 have lo:=fun b=>(q_all k.toRefK g b s hl (s.length-1) 1 h1 rfl 0 tO).2 1;cases hlo:(P s).loose 1 1 0 with
 |none=>
  have hpp:zAn s=none:=by unfold zAn;rw [zlF ⟨hl,h61⟩,hlo];rfl
  refine ⟨fun n h=>(by rw [hpp] at h;cases h),fun _ H=>?_⟩;obtain ⟨n,a,w,e,d,h2,h3,h4⟩:=(lo (H++[ABlk.box (ndC zZ)]).length).2 hlo;exact ⟨w,e,h2,zF k.hm k.parse (zY3 (zI0 k.toRefK) s hl h0 n a w e d h3 h2 H h4)⟩
 |some x=>
  obtain ⟨n,e⟩:=x;have hx:=(zDA s).loose 1 1 0 _ h1 hlo;simp only at hx;have hl2:=fun b=>(lo b).1 n e hlo;by_cases hk:tok s e=.fin
  ·have hpp:zAn s=some n:=by unfold zAn;rw [zlF ⟨hl,h61⟩,hlo];simp only [zmF,hk]
   refine ⟨fun n' h H=>?_,fun h=>by rw [hpp] at h;cases h⟩;rw [hpp] at h;cases h;exact zF k.hm k.parse (zbx (zI0 k.toRefK) s hl h0 n e hx.2 hk hl2 H)
  ·have hpp:zAn s=none:=by
    unfold zAn;rw [zlF ⟨hl,h61⟩,hlo];simp only [zmF]
   refine ⟨fun n h=>(by rw [hpp] at h;cases h),fun _ H=>⟨_,2,by decide,zF k.hm k.parse (zWN (zI0 k.toRefK) (zUk k.toRefK) s hl h0 n e hx.2 (fun h=>hk ?_) hl2 H)⟩⟩;cases ht:tok s e <;> rw [ht] at h <;> first|rfl|(simp only [tkK] at h;omega)
theorem q_in (k:RefK2 PR) (c r:Int) (H:Heap):Good PR GT zBo [zCx c r] H (.bool (okC c r)) H:=zF k.hm k.isIn (zkP c r H)
theorem zby (k:RefK2 PR) (a b:Fil) (H:Heap):Good PR GT zBy [zCx a.col a.row,zCx b.col b.row] H (.bool (zE8 a b)) H:=zF k.hm k.ahead (zbw a b H)
theorem zkQ (k:RefK2 PR) (g:BigG PR GT) (s:Bs) (H:Heap):Good PR GT zEB [.str s] H (zK (zBu s)) H:=zF k.hm k.text (zfH (zWO k g) s H)
end
section
variable {C:CSpec} {GT:zG_}
theorem zbz (hA:∀ c r H,C zBo [zCx c r] H (.bool (okC c r)) H) (hL:∀ a b H,C zBy [zCx a.col a.row,zCx b.col b.row] H (.bool (zE8 a b)) H) (hT:∀ s H,C zEB [.str s] H (zK (zBu s)) H)
  (lv:AV) (l:List Fil) (H:Heap) (hv:view H 3 lv=some (l.map zl)):EFun C GT zGN [lv] H (zK (zCA l)) H:=by
 have hlm:(l.map zl).length=l.length:=zlM _;refine zJ ?_;unfold zCA;by_cases hl:200<l.length
 ·rw [zlF hl];clear hA hL hT;refine zFH hv<|sX ?_
  exact sRv
 rw [zlD hl];obtain ⟨r,hr⟩:∃ r,zGv none l=r:=⟨_,rfl⟩;rw [hr];refine zFH hv<|sX ?_;refine zBG (fun i:Nat=>[(3,zK i),(0,lv)]) (fun i H'=>H'=H/\i<=l.length/\zGv (if i=0 then none else l[i-1]?) (l.drop i)=r) (fun i=>l.length-i) 0 rfl ⟨rfl,by omega,hr⟩ (fun i H1 ⟨hH,hi,hq⟩=>?_)
 subst hH;dsimp only;by_cases hlt:i<l.length
 ·obtain ⟨f,hf⟩:∃ f,l[i]?=some f:=⟨_,zlI hlt⟩;have hfm:(l.map zl)[i]?=some (zl f):=by rw [zlQ,hf];rfl
  rw [zNj l i f hf] at hq;have ha:=hA f.col f.row;have ht:=hT f.text;clear hA hT;unfold zWM at hq;rcases ziM hv with hx|hx
  ·cases hok:okC f.col f.row with
   |false=>
    rw [hok] at ha hq;have hq:1=r:=hq;subst hq;clear hL ht;refine zFH hv<|sX ?_;refine hx _ i (zl f) _ rfl hfm ?_;refine sX ?_
    exact sRv
   |true=>
    rw [hok] at ha hq;rw [zlD (by simp:¬ (true=false))] at hq;by_cases hi0:i=0
    ·rw [zlF hi0] at hq;have hq:(if (if f.text=[] then 3 else zBu f.text)=0 then zGv (some f) (l.drop (i+1)) else if f.text=[] then 3 else zBu f.text)=r:=hq;clear hL;by_cases h0:f.text=[]
     ·rw [zlF h0] at hq;have hq:3=r:=hq;subst hq;clear ht;refine zFH hv<|sX ?_;refine hx _ i (zl f) _ rfl hfm ?_;refine sX ?_;refine hx _ i (zl f) _ rfl hfm ?_;refine zA9 (.str f.text) rfl<|zn (tE h0) ?_
      exact sRv
     ·rw [zlD h0] at hq;by_cases hz:zBu f.text=0
      ·rw [zlF hz] at hq;rw [hz] at ht;refine zFH hv<|sX ?_;refine hx _ i (zl f) _ rfl hfm ?_;refine sX ?_;refine hx _ i (zl f) _ rfl hfm ?_;refine zA9 (.str f.text) rfl<|zi (tN h0) ?_;refine hx _ i (zl f) _ rfl hfm ?_;refine sX ?_;refine zS (r:=i+1) rfl tO ?_;refine zAR (i+1) rfl ⟨rfl,by omega, ?_⟩ tO
       rw [zlD tO,zmO,hf];exact hq
      ·rw [zlD hz] at hq;subst hq;refine zFH hv<|sX ?_;refine hx _ i (zl f) _ rfl hfm ?_;refine sX ?_;refine hx _ i (zl f) _ rfl hfm ?_;refine zA9 (.str f.text) rfl<|zi (tN h0) ?_;refine hx _ i (zl f) _ rfl hfm ?_;refine sX ?_;refine zn (zlz.2 tO) ?_
       exact sRv
    ·obtain ⟨g,hg⟩:∃ g,l[i-1]?=some g:=⟨_,zlI tO⟩;have hgm:(l.map zl)[i-1]?=some (zl g):=by rw [zlQ,hg];rfl
     rw [zlD hi0,hg] at hq;have hq:(if (if zE8 g f=false then 5 else if f.text=[] then 3 else zBu f.text)=0 then zGv (some f) (l.drop (i+1)) else if zE8 g f=false then 5 else if f.text=[] then 3 else zBu f.text)=r:=hq;have hls:=hL g f;clear hL;cases hlp:zE8 g f with
     |false=>
      rw [hlp] at hls hq;have hq:5=r:=hq;subst hq;clear ht;refine zFH hv<|sX ?_;refine hx _ i (zl f) _ rfl hfm ?_;refine sX ?_;refine zS (r:=i-1) tO tO ?_;refine hx _ (i-1) (zl g) _ tO hgm ?_;refine sX ?_;refine hx _ i (zl f) _ rfl hfm ?_;refine sX ?_
      exact sRv
     |true=>
      rw [hlp] at hls hq;rw [zlD (by simp:¬ (true=false))] at hq;by_cases h0:f.text=[]
      ·rw [zlF h0] at hq;have hq:3=r:=hq;subst hq;clear ht;refine zFH hv<|sX ?_;refine hx _ i (zl f) _ rfl hfm ?_;refine sX ?_;refine zS (r:=i-1) tO tO ?_;refine hx _ (i-1) (zl g) _ tO hgm ?_;refine sX ?_;refine hx _ i (zl f) _ rfl hfm ?_;refine sX ?_;refine hx _ i (zl f) _ rfl hfm ?_;refine zA9 (.str f.text) rfl<|zn (tE h0) ?_
       exact sRv
      ·rw [zlD h0] at hq;by_cases hz:zBu f.text=0
       ·rw [zlF hz] at hq;rw [hz] at ht;refine zFH hv<|sX ?_;refine hx _ i (zl f) _ rfl hfm ?_;refine sX ?_;refine zS (r:=i-1) tO tO ?_;refine hx _ (i-1) (zl g) _ tO hgm ?_;refine sX ?_;refine hx _ i (zl f) _ rfl hfm ?_;refine sX ?_;refine hx _ i (zl f) _ rfl hfm ?_;refine zA9 (.str f.text) rfl<|zi (tN h0) ?_;refine hx _ i (zl f) _ rfl hfm ?_;refine sX ?_;refine zS (r:=i+1) rfl tO ?_;refine zAR (i+1) rfl ⟨rfl,by omega, ?_⟩ tO
        rw [zlD tO,zmO,hf];exact hq
       ·rw [zlD hz] at hq;subst hq;refine zFH hv<|sX ?_;refine hx _ i (zl f) _ rfl hfm ?_;refine sX ?_;refine zS (r:=i-1) tO tO ?_;refine hx _ (i-1) (zl g) _ tO hgm ?_;refine sX ?_;refine hx _ i (zl f) _ rfl hfm ?_;refine sX ?_;refine hx _ i (zl f) _ rfl hfm ?_;refine zA9 (.str f.text) rfl<|zi (tN h0) ?_;refine hx _ i (zl f) _ rfl hfm ?_;refine sX ?_;refine zn (zlz.2 tO) ?_
        exact sRv
  ·cases hok:okC f.col f.row with
   |false=>
    rw [hok] at ha hq;have hq:1=r:=hq;subst hq;clear hL ht;refine zFH hv<|sX ?_;refine hx _ i (zl f) _ rfl hfm (fun b2 j2 hp2=>?_)
    refine zAt (zCx f.col f.row) (hp2 _) rfl<|zM (ha _)<|sW ?_
    exact sRr
   |true=>
    rw [hok] at ha hq;rw [zlD (by simp:¬ (true=false))] at hq;by_cases hi0:i=0
    ·rw [zlF hi0] at hq;have hq:(if (if f.text=[] then 3 else zBu f.text)=0 then zGv (some f) (l.drop (i+1)) else if f.text=[] then 3 else zBu f.text)=r:=hq;clear hL;by_cases h0:f.text=[]
     ·rw [zlF h0] at hq;have hq:3=r:=hq;subst hq;clear ht;refine zFH hv<|sX ?_;refine hx _ i (zl f) _ rfl hfm (fun b2 j2 hp2=>?_)
      refine zAt (zCx f.col f.row) (hp2 _) rfl<|sX ?_;refine hx _ i (zl f) _ rfl hfm (fun b2 j2 hp2=>?_)
      refine zAt (.str f.text) (hp2 _) rfl<|zn (tE h0) ?_
      exact sRv
     ·rw [zlD h0] at hq;by_cases hz:zBu f.text=0
      ·rw [zlF hz] at hq;rw [hz] at ht;refine zFH hv<|sX ?_;refine hx _ i (zl f) _ rfl hfm (fun b2 j2 hp2=>?_)
       refine zAt (zCx f.col f.row) (hp2 _) rfl<|zM (ha _)<|zG<|zi tF<|zG<|zG ?_;refine hx _ i (zl f) _ rfl hfm (fun b2 j2 hp2=>?_)
       refine zAt (.str f.text) (hp2 _) rfl<|zi (tN h0) ?_;refine hx _ i (zl f) _ rfl hfm (fun b2 j2 hp2=>?_)
       refine zAt (.str f.text) (hp2 _) rfl<|zM (ht _)<|zG<|zS (r:=i+1) rfl tO ?_;refine zAR (i+1) rfl ⟨rfl,by omega, ?_⟩ tO
       rw [zlD tO,zmO,hf];exact hq
      ·rw [zlD hz] at hq;subst hq;refine zFH hv<|zn tT ?_;refine hx _ i (zl f) _ rfl hfm (fun b2 j2 hp2=>?_)
       refine zAt (zCx f.col f.row) (hp2 _) rfl<|zM (ha _)<|zG<|zi tF<|zG<|zG ?_;refine hx _ i (zl f) _ rfl hfm (fun b2 j2 hp2=>?_)
       refine zAt (.str f.text) (hp2 _) rfl<|zi (tN h0) ?_;refine hx _ i (zl f) _ rfl hfm (fun b2 j2 hp2=>?_)
       refine zAt (.str f.text) (hp2 _) rfl<|zM (ht _)<|zn (zlz.2 tO) ?_
       exact sRr
    ·obtain ⟨g,hg⟩:∃ g,l[i-1]?=some g:=⟨_,zlI tO⟩;have hgm:(l.map zl)[i-1]?=some (zl g):=by rw [zlQ,hg];rfl
     rw [zlD hi0,hg] at hq;have hq:(if (if zE8 g f=false then 5 else if f.text=[] then 3 else zBu f.text)=0 then zGv (some f) (l.drop (i+1)) else if zE8 g f=false then 5 else if f.text=[] then 3 else zBu f.text)=r:=hq;have hls:=hL g f;clear hL;cases hlp:zE8 g f with
     |false=>
      rw [hlp] at hls hq;have hq:5=r:=hq;subst hq;clear ht;refine zFH hv<|zn tT ?_;refine hx _ i (zl f) _ rfl hfm (fun b2 j2 hp2=>?_)
      refine zAt (zCx f.col f.row) (hp2 _) rfl<|zM (ha _)<|zG<|zn tT<|zS (r:=i-1) tO tO ?_;refine hx _ (i-1) (zl g) _ tO hgm (fun b2 j2 hp2=>?_)
      refine zAt (zCx g.col g.row) (hp2 _) rfl ?_;refine hx _ i (zl f) _ rfl hfm (fun b2 j2 hp2=>?_);refine zAt (zCx f.col f.row) (hp2 _) rfl<|zM (hls _)<|zE<|zE ?_
      exact sRr
     |true=>
      rw [hlp] at hls hq;rw [zlD (by simp:¬ (true=false))] at hq;by_cases h0:f.text=[]
      ·rw [zlF h0] at hq;have hq:3=r:=hq;subst hq;clear ht;refine zFH hv<|sW ?_;refine hx _ i (zl f) _ rfl hfm (fun b2 j2 hp2=>?_)
       refine zAt (zCx f.col f.row) (hp2 _) rfl<|zM (ha _)<|zG<|zn tT<|zS (r:=i-1) tO tO ?_;refine hx _ (i-1) (zl g) _ tO hgm (fun b2 j2 hp2=>?_)
       refine zAt (zCx g.col g.row) (hp2 _) rfl ?_;refine hx _ i (zl f) _ rfl hfm (fun b2 j2 hp2=>?_);refine zAt (zCx f.col f.row) (hp2 _) rfl<|zM (hls _)<|zE<|zG ?_;refine hx _ i (zl f) _ rfl hfm (fun b2 j2 hp2=>?_)
       refine zAt (.str f.text) (hp2 _) rfl<|zn (tE h0) ?_
       exact sRr
      ·rw [zlD h0] at hq;by_cases hz:zBu f.text=0
       ·rw [zlF hz] at hq;rw [hz] at ht;refine zFH hv<|sX ?_;refine hx _ i (zl f) _ rfl hfm (fun b2 j2 hp2=>?_)
        refine zAt (zCx f.col f.row) (hp2 _) rfl<|zM (ha _)<|zG<|zn tT<|zS (r:=i-1) tO tO ?_;refine hx _ (i-1) (zl g) _ tO hgm (fun b2 j2 hp2=>?_)
        refine zAt (zCx g.col g.row) (hp2 _) rfl ?_;refine hx _ i (zl f) _ rfl hfm (fun b2 j2 hp2=>?_);refine zAt (zCx f.col f.row) (hp2 _) rfl<|zM (hls _)<|zE<|zG ?_;refine hx _ i (zl f) _ rfl hfm (fun b2 j2 hp2=>?_)
        refine zAt (.str f.text) (hp2 _) rfl<|zi (tN h0) ?_;refine hx _ i (zl f) _ rfl hfm (fun b2 j2 hp2=>?_)
        refine zAt (.str f.text) (hp2 _) rfl<|zM (ht _)<|zG<|zS (r:=i+1) rfl tO ?_;refine zAR (i+1) rfl ⟨rfl,by omega, ?_⟩ tO
        rw [zlD tO,zmO,hf];exact hq
       ·rw [zlD hz] at hq;subst hq;refine zFH hv<|zn tT ?_;refine hx _ i (zl f) _ rfl hfm (fun b2 j2 hp2=>?_)
        refine zAt (zCx f.col f.row) (hp2 _) rfl<|zM (ha _)<|zG<|zn tT<|zS (r:=i-1) tO tO ?_;refine hx _ (i-1) (zl g) _ tO hgm (fun b2 j2 hp2=>?_)
        refine zAt (zCx g.col g.row) (hp2 _) rfl ?_;refine hx _ i (zl f) _ rfl hfm (fun b2 j2 hp2=>?_);refine zAt (zCx f.col f.row) (hp2 _) rfl<|zM (hls _)<|zE<|zG ?_;refine hx _ i (zl f) _ rfl hfm (fun b2 j2 hp2=>?_)
        refine zAt (.str f.text) (hp2 _) rfl<|zi (tN h0) ?_;refine hx _ i (zl f) _ rfl hfm (fun b2 j2 hp2=>?_)
        refine zAt (.str f.text) (hp2 _) rfl<|zM (ht _)<|zn (zlz.2 tO) ?_
        exact sRr
 ·have hd:l.drop i=[]:=zl3 tO;rw [hd] at hq;have hq:0=r:=hq;subst hq;clear hA hL hT;refine zFH hv<|zi tF ?_
  exact sRr
end
structure RefK3 (PR:Program):Prop extends RefK2 PR where
 check:zt PR zCf zGN=true
section
variable {PR:Program} {GT:zG_}
theorem ziN (k:RefK3 PR) (g:BigG PR GT) (lv:AV) (l:List Fil) (H:Heap) (hv:view H 3 lv=some (l.map zl)):Good PR GT zCf [lv] H (zK (zCA l)) H:=zF k.hm k.check (zbz (q_in k.toRefK2) (zby k.toRefK2) (zkQ k.toRefK2 g) lv l H hv)
end
end Go.AM
