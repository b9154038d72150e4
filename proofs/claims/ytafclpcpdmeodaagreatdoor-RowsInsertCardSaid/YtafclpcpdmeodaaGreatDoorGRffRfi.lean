/- Several texts of mine in one (Rff, Chk, Rfg, Rfh, Rfi). Own work. -/
import Derived.Test.YtafclpcpdmeodaaGreatDoorGAm30Fp1
import Derived.Test.YtafclpcpdmeodaaGreatDoorGRfaRfe
import Derived.Test.YtafclpcpdmeodaaGreatDoorGFr7ToldQ
import Derived.Test.YtafclpcpdmeodaaGreatDoorGFq0Bg0
import Derived.Test.YtafclpcpdmeodaaGreatDoorGAm31Rf1
set_option linter.all false
set_option maxRecDepth 20000
namespace Go.AM
section
variable {C:CSpec} {GT:Nat->Option AV}
theorem rloose_bad (b:Nat) (s:Bs) (p d l:Nat) (n0:Nd) (W:Bd) (hW:W.ok s) (H:Heap) (hb:H[b]?=some (rP s p d)) (ho:∀ H,H[b]?=some (rP s p d)->C zAL [pR b] H (ndV n0) (H.set b (W.blk s))) :
  zCr C GT zCI [pR b,zK l] H b [] .undef (some (ndV zZ,W.blk s)):=by
 have hbl:b<H.length:=(zg hb).1;have hwe:=hW.1;refine zAH<|sX ?_;refine sSA (ndV n0) ?_;refine zBB (fun m:Nat=>[(4,pR H.length),(5,pR m),(0,pR b),(1,zK l)])
  (fun _ H'=>OldB H b (W.blk s) H'/\H'[b]?=some (W.blk s)/\H'[H.length]?=some (.box (ndC zZ)))
  (fun _=>0) _ rfl ⟨((((((OldB.start hb).push _).setB _).push _).set (by simp) _)),hP,hP⟩ (fun _ H1 ⟨hob,hb1,h4⟩=>?_)
 have h4l:=(zg h4).1;have hb1':H1[b]?=some (.box [.str s,zJ W.a,zJ W.w,zJ W.e,zJ W.d]):=hb1;refine zA (zJ W.e) hb1' rfl<|zk (tN hwe)<|sX ?_;refine sSA (.agg (zN 0 0 [])) ?_
 exact zAF (o:=0) (ndV zZ) rfl rfl rfl (zH hP) rfl rfl rfl hO rfl
theorem rloose_ef (hT:∀ s a H,a<=s.length->s.length<=1000->C zY [.str s,zK a] H (tkV s a) H)
  (hSg:∀ t H,C zDK [.str t] H (zK (zCA t)) H) (hTi:∀ op H,op<=1000->C zAg [zK op] H (zK (tight op)) H)
  (b:Nat) (s:Bs) (p d l:Nat) (hp:p<=s.length) (hl:s.length<=200)
  (hLo:∀ a l',p<a->a<=s.length->CF C zX [pR b,zK l'] b s a d ((P s).loose l' a d))
  (hOne:CF C zAL [pR b] b s p d ((P s).one p d)):EF C GT zCI [pR b,zK l] b s p d ((P s).loose l p d):=by
 rw [zJs l d hp];unfold zEV;cases h1:(P s).one p d with
 |none=>
  obtain ⟨n,a,w,e,d',h2,h3,h4⟩:=hOne.2 h1;exact ⟨fun n e h=>(by cases h),fun _=>⟨zZ,a,w,e,d',h2,h3,fun H hb=>rloose_bad b s p d l n ⟨a,w,e,d'⟩ ⟨h2,h3⟩ H hb h4⟩⟩
 |some x=>
  obtain ⟨n0,e0⟩:=x;have hx:=(zCv s).one p d _ hp h1;simp only at hx;have ho:=hOne.1 n0 e0 h1;have go:=fun RV RB h2 h3 h4 H hb=>rloose_ev (GT:=GT) hT hSg hTi b s p d l hp hl (fun a l' m e h1 h2 h3=>(hLo a l' h1 h2).1 m e h3) n0 e0 hx.1 hx.2 RV RB h2 h3 h4 H hb ho;simp only [zRO];cases h2:(P s).ll l n0 e0 d with
  |some y=>
   obtain ⟨n',e'⟩:=y;refine ⟨fun n e h H hb=>?_,fun h=>by cases h⟩;cases h;exact go _ _ (fun _=>rfl) ⟨n',rfl⟩ (.inl ⟨n',e',h2,rfl,rfl⟩) H hb
  |none=>
   obtain ⟨W,hW⟩:=ll_fail (C:=C) p hLo (s.length-e0) n0 e0 hx.1 hx.2 (zQU _) h2;exact ⟨fun n e h=>(by cases h),fun _=>⟨zZ,W.a,W.w,W.e,W.d,hW.ok.1,hW.ok.2,fun H hb=>go _ _ (fun _=>rfl) ⟨zZ,rfl⟩ (.inr ⟨W,hW,rfl,rfl⟩) H hb⟩⟩
end
structure RefK (PR:Program):Prop where
 hm:PR.follows .mixedOrders=true
 wordly:zt PR zCD zEL=true
 wrongs:zt PR zAy zFf=true
 bad:zt PR zCx zIL=true
 named:zt PR zCg zGI=true
 token:zt PR zY zGF=true
 called:zt PR z8 zFg=true
 whole:zt PR zr zDe=true
 ref:zt PR zm zDr=true
 sign:zt PR zDK zHE=true
 tight:zt PR zAg zGG=true
 fail:zt PR zc zFD=true
 deeper:zt PR ze zEU=true
 close:zt PR zb zCK=true
 one:zt PR zAL zQ=true
 call:zt PR zCf zBp=true
 loose:zt PR zX zCI=true
structure BigG (PR:Program) (GT:Nat->Option AV):Prop where
 new:∀ v H,zEC v->Good PR GT zAQ [zJ v] H (.ref H.length 0 0 0) (H++[.box (zF5 v)])
 mul:∀ b t v av H,H[b]?=some (.box [.bool false,av])->H[t]?=some (.box (zF5 10))->Mag av v->(wds v).length<=1000->Good PR GT zBE [.ref b 0 0 0,.ref b 0 0 0,.ref t 0 0 0] H (.ref b 0 0 0) (H.set b (.box [.bool false,mulV v]))
 add:∀ (b t v d:Nat) (av:AV) (H:Heap),H[b]?=some (.box [.bool false,av])->H[t]?=some (.box (zF5 d))->Mag av v->(wds v).length<=1000->(wds d).length<=1000->Good PR GT zBF [.ref b 0 0 0,.ref b 0 0 0,.ref t 0 0 0] H (.ref b 0 0 0) (H.set b (.box (zF5 ((v+d:Nat):Int))))
 fit:∀ b v H,H[b]?=some (.box (zF5 v))->(wds v.natAbs).length<=100->Good PR GT zD6 [.ref b 0 0 0] H (.bool (decide (zEC v))) H
 i64:∀ b v H,H[b]?=some (.box (zF5 v))->zEC v->Good PR GT zAr [.ref b 0 0 0] H (zJ v) H
section
variable {PR:Program} {GT:Nat->Option AV}
theorem cf_of (hm:PR.follows .mixedOrders=true) {f:Nat} {F:AF} {args:List AV} {b:Nat} {s:Bs} {p d:Nat} {r:Option (Nd×Nat)} (hc:zt PR f F=true) (h:EF (Good PR GT) GT F args b s p d r) (hn:zKH args=true:=by rfl):CF (Good PR GT) f args b s p d r:=
 ⟨fun n e hr H hb=>(zAm hm hc (h.1 n e hr H hb) hn).1 _ _ rfl,fun hr=>by
  obtain ⟨n,a,w,e,d',h1,h2,h3⟩:=h.2 hr;exact ⟨n,a,w,e,d',h1,h2,fun H hb=>(zAm hm hc (h3 H hb) hn).1 _ _ rfl⟩⟩
theorem q_wordly (k:RefK PR) (c:UInt8) (H:Heap):Good PR GT zCD [byV c] H (.bool (zh c)) H:=zE k.hm k.wordly (rwordly_ev c H)
theorem q_wrongs (k:RefK PR) (H:Heap):Good PR GT zAy [] H (.lst (some false) 1 (wrL.map AV.str)) H:=zE k.hm k.wrongs (rwrongs_ev H)
theorem q_bad (k:RefK PR) (n:Nat) (H:Heap):Good PR GT zCx [zK n] H (.agg [.int .i64 4,zK n,.str []]) H:=zE k.hm k.bad (rbad_ev n H)
theorem q_named (k:RefK PR) (n:Nat) (H:Heap) (h1:1<=n) (h6:n<=6):Good PR GT zCg [.str (wrongs.getD (n-1) [])] H (.tup [.agg [.int .i64 4,zK n,.str []],.bool true]) H:=zE k.hm k.named (rnamed_ev (q_wrongs k) (q_bad k) n h1 h6 H)
theorem zIk (k:RefK PR) (s:Bs) (a:Nat) (H:Heap) (ha:a<=s.length) (hl:s.length<=1000):Good PR GT zY [.str s,zK a] H (tkV s a) H:=zE k.hm k.token (rtoken_ev (q_wordly k) (q_wrongs k) s a H ha hl)
theorem q_called (k:RefK PR) (s:Bs) (H:Heap) (hl:s.length<=1000):Good PR GT z8 [.str s] H (.bool (zA3 s)) H:=zE k.hm k.called (rcalled_ev s H hl)
theorem q_whole (k:RefK PR) (g:BigG PR GT) (s:Bs) (H:Heap) (hl:s.length<=200):Good PR GT zr [.str s,.bool false] H (zLG (zCL s)) H:=zE k.hm k.whole (rwhole_ev g.new g.mul g.add g.fit g.i64 s H hl)
theorem q_ref (k:RefK PR) (g:BigG PR GT) (s:Bs) (H:Heap) (hl:s.length<=200):Good PR GT zm [.str s] H (refRV (zE9 s)) H:=zE k.hm k.ref (rref_ev (q_whole k g) s H hl)
theorem q_sign (k:RefK PR) (t:Bs) (H:Heap):Good PR GT zDK [.str t] H (zK (zCA t)) H:=zE k.hm k.sign (rsign_ev t H)
theorem q_tight (k:RefK PR) (op:Nat) (H:Heap) (h:op<=1000):Good PR GT zAg [zK op] H (zK (tight op)) H:=zE k.hm k.tight (rtight_ev op H h)
theorem q_fail (k:RefK PR) (b:Nat) (s:Bs) (p d a e:Int) (H:Heap) (hb:H[b]?=some (pB s p 0 0 d)):Good PR GT zc [pR b,zJ a,zJ e] H (.tup []) (H.set b (pB s p a e d)):=(zAm k.hm k.fail (rfail_ev b s p d a 0 e H hb .undef [])).1 _ _ rfl
theorem q_deeper (k:RefK PR) (b:Nat) (s:Bs) (p:Int) (d:Nat) (a:Int) (H:Heap) (hb:H[b]?=some (pB s p 0 0 d)) (hd:d<=1000) :
  (d=30->Good PR GT ze [pR b,zJ a] H (.bool false) (H.set b (pB s p a 4 d)))/\(d≠30->Good PR GT ze [pR b,zJ a] H (.bool true) (H.set b (pB s p 0 0 (d+1:Nat)))):=
 have h:=zAm k.hm k.deeper (rdeeper_ev (GT:=GT) (q_fail k) b s p d a H hb hd .undef [])
 ⟨fun e=>h.1 _ _ (by rw [zQQ e]),fun e=>h.1 _ _ (by rw [zQN e])⟩
theorem q_close1 (k:RefK PR) (b:Nat) (s:Bs) (p d e:Nat) (H:Heap) (hb:H[b]?=some (rP s p (d+1))) (hp:p<=s.length) (hl:s.length<=200) (hd:d<=1000) (hk:tok s p=.sign e [41]):Good PR GT zb [pR b] H (.tup []) (H.set b (rP s e d)):=(zAm k.hm k.close (rclose_ok (zIk k) b s p d e H hb hp hl hd hk)).1 _ _ rfl
theorem q_close2 (k:RefK PR) (b:Nat) (s:Bs) (p d:Nat) (H:Heap) (hb:H[b]?=some (rP s p (d+1))) (hp:p<=s.length) (hl:s.length<=200) (hd:d<=1000) (hk:¬ ∃ e,tok s p=.sign e [41]):Good PR GT zb [pR b] H (.tup []) (H.set b (pB s (tkE (skip s p) (tok s p):Nat) (skip s p:Nat) 2 d)):=(zAm k.hm k.close (rclose_no (zIk k) (q_fail k) b s p d H hb hp hl hd hk)).1 _ _ rfl
theorem q_close3 (k:RefK PR) (b:Nat) (s:Bs) (p:Nat) (w e d:Int) (H:Heap) (hb:H[b]?=some (pB s p w e d)) (he:e≠0) (hp:p<=s.length) (hl:s.length<=200):Good PR GT zb [pR b] H (.tup []) (H.set b (pB s (tkE (skip s p) (tok s p):Nat) w e (IntKind.wrap .i64 (d-1)))):=(zAm k.hm k.close (rclose_bad (zIk k) b s p w e d H hb he hp hl)).1 _ _ rfl
theorem q_all (k:RefK PR) (g:BigG PR GT) (b:Nat) (s:Bs) (hl:s.length<=200):∀ n p,p<=s.length->s.length-p=n->∀ d,d+(s.length-p)<=500 ->
  CF (Good PR GT) zAL [pR b] b s p d ((P s).one p d)/\∀ l,CF (Good PR GT) zX [pR b,zK l] b s p d ((P s).loose l p d):=by
 intro n;induction n using Nat.strongRecOn with
 |_ n ih=>
  intro p hp hn d hd;have ih':=fun p' (h1:p<p') (h2:p'<=s.length) d' h3=>ih (s.length-p') tO p' h2 rfl d' h3;clear ih;have one:CF (Good PR GT) zAL [pR b] b s p d ((P s).one p d):=by
   refine cf_of k.hm k.one (rone_ef (zIk k) (q_called k) (q_whole k g) (q_ref k g) (fun n H=>q_named k n H) (q_fail k) (fun b s p d a H=>q_deeper k b s p d a H) (q_close1 k) (q_close2 k) (q_close3 k) b s p d hp hl tO (fun a h1 h2=>(ih' a h1 h2 (d+1) tO).1) (fun a h1 h2=>(ih' a h1 h2 (d+1) tO).2 1) (fun e t h40 h1 h2=>?_));have he:=(zg h40).1;have h:=rcall_ef (GT:=GT) (zIk k) (q_ref k g) (q_fail k) (q_close1 k) (q_close2 k) (q_close3 k) b s t e d h40 hl tO (fun a h1 h2=>(ih' a tO h2 (d+1) tO).2 1);refine ⟨fun n e2 hr H hb=>(zAm k.hm k.call (h.1 n e2 hr H hb)).1 _ _ rfl,fun hr=>?_⟩;obtain ⟨n,a,w,e',d',g1,g2,g3⟩:=h.2 hr;exact ⟨n,a,w,e',d',g1,g2,fun H hb=>(zAm k.hm k.call (g3 H hb)).1 _ _ rfl⟩
  exact ⟨one,fun l=>cf_of k.hm k.loose (rloose_ef (zIk k) (q_sign k) (q_tight k) b s p d l hp hl (fun a l' h1 h2=>(ih' a h1 h2 d tO).2 l') one)⟩
end
end Go.AM
set_option maxRecDepth 20000
namespace Go.AM
structure Fil where
 col:Int
 row:Int
 text:Bs
 deriving DecidableEq
def zCs (c r:Int):AV:=.agg [zJ c,zJ r]
def zl (f:Fil):AV:=.agg [zJ f.col,zJ f.row,.str f.text]
def okC (c r:Int):Bool:=decide (1<=c)&&decide (c<=26)&&decide (1<=r)&&decide (r<=99)
def cmp3 (a b:Int):Int:=if a<b then -1 else if b<a then 1 else 0
def cmpC (c1 r1 c2 r2:Int):Int:=if cmp3 r1 r2≠0 then cmp3 r1 r2 else cmp3 c1 c2
def zE2 (a b:Fil):Bool:=decide (cmpC a.col a.row b.col b.row<0)
def zBq (s:Bs):Nat:=if 200<s.length then 4 else if s.head?=some 61 then (match zAi s with
 |some _=>0
 |none=>2) else 0
def eV (n:Nat):AV:=if n=0 then .nili else zIb n
def filN (prev:Option Fil) (f:Fil):Nat:=if okC f.col f.row=false then 1 else if (match prev with
 |some p=>zE2 p f
 |none=>true)=false then 5 else if f.text=[] then 3 else zBq f.text
def zGi (prev:Option Fil):List Fil->Nat
 |[]=>0
 |f::r=>if filN prev f=0 then zGi (some f) r else filN prev f
def zB6 (l:List Fil):Nat:=if 200<l.length then 4 else zGi none l
theorem zNL (l:List Fil) (i:Nat) (f:Fil) (h:l[i]?=some f) (prev:Option Fil):zGi prev (l.drop i)=if filN prev f=0 then zGi (some f) (l.drop (i+1)) else filN prev f:=by
 have hi:=(zg h).1;have e:l.drop i=f::l.drop (i+1):=by
  rw [zRU hi];rw [(zg h).2]
 rw [e];rfl
theorem sIdxW {v:AV} {H:Heap} {k:Nat} {xs:List AV} {n:Int} {K:AV->Prop} (i:Nat) (x:AV) (hv:view H k v=some xs) (hn:n=(i:Int)) (hx:xs[i]?=some x) (q1:K (.lref x 0)) (q2:∀ b j,zAA H (.ref b k j 0)=some (x.cells,0)->K (.ref b k j 0)):idxN k v n K:=by
 have hlt:=(zg hx).1;unfold view at hv;split at hv
 ·split at hv
  ·rename_i hk;cases hv;subst hk;exact sIdx hn hx q1
  ·split at hv
   ·cases hv;simp at hlt
   ·cases hv
 ·rw [zJ3];unfold idxNW;simp only;split at hv
  ·rename_i hk;subst hk;split at hv
   ·rename_i hb;split at hv
    ·rename_i hc;cases hv;rw [zQk,zQp] at hlt;rw [zQ3,zQQ tO,zQ4] at hx;subst hn;rw [hc.1] at hb;refine zBA ⟨rfl,by omega,by omega⟩ (q2 _ _ (ptr_row hb hx))
    ·cases hv
   ·rename_i hb;split at hv
    ·rename_i hc;cases hv;rw [zQk,zQp] at hlt;rw [zQ3,zQQ tO,zQ4] at hx;subst hn;rw [hc.1] at hb;refine zBA ⟨rfl,by omega,by omega⟩ (q2 _ _ ?_);show zAA H (.ref _ _ _ _)=_;simp only [zAA,hb,zQz,zQy,hx,zQg]
    ·cases hv
   ·cases hv
  ·cases hv
 ·cases hv
section
variable {C:CSpec} {GT:Nat->Option AV}
theorem aok_ev (c r:Int) (H:Heap):EFun C GT a_addr_ok [zCs c r] H (.bool (okC c r)) H:=by
 refine zI ?_;unfold okC;by_cases h1:1<=c
 ·rw [zQj h1];by_cases h2:c<=26
  ·rw [zQj h2];by_cases h3:1<=r
   ·rw [zQj h3];refine zBr (x:=zCs c r) rfl<|sW ?_
    exact sRv
   ·rw [zQs h3];refine zBr (x:=zCs c r) rfl<|sW ?_
    exact sRv
  ·rw [zQs h2];refine zBr (x:=zCs c r) rfl<|sW ?_
   exact sRv
 ·rw [zQs h1];refine zBr (x:=zCs c r) rfl<|sW ?_
  exact sRv
theorem acheck_ev (hO:∀ c r H,C zGA [zCs c r] H (.bool (okC c r)) H) (c r:Int) (H:Heap):EFun C GT zNc [zCs c r] H (if okC c r=true then .nili else zIb 1) H:=by
 have ho:=hO c r;clear hO;refine zI ?_;cases hk:okC c r with
 |true=>
  rw [hk] at ho;refine zBr (x:=zCs c r) rfl<|sW ?_
  exact sRv
 |false=>
  rw [hk] at ho;refine zBr (x:=zCs c r) rfl<|sW ?_
  exact sRv
theorem nan_ev (a:Int) (H:Heap):EFun C GT zIx [zJ a] H (.bool false) H:=by
 refine zI ?_;refine zID ?_ rfl rfl rfl rfl (Old.refl _);show AV.bool false=AV.bool (a != a);simp
theorem ccmp_ev (hN:∀ a H,C zDI [zJ a] H (.bool false) H) (a b:Int) (H:Heap):EFun C GT zGr [zJ a,zJ b] H (zJ (cmp3 a b)) H:=by
 have hn:=hN;clear hN;refine zI ?_;unfold cmp3;by_cases h1:a<b
 ·rw [zQQ h1];refine sW ?_;exact sRv
 ·rw [zQN h1];by_cases h2:b<a
  ·rw [zQQ h2];refine sW ?_;exact sRv
  ·rw [zQN h2];refine sW ?_;exact sRv
theorem cor_ev (b:Nat) (x y:Int) (H:Heap) (hb:H[b]?=some (.row 1 [zJ x,zJ y])):EFun C GT zL0 [.sl (some false) b 1 0 2] H (zJ (if x≠0 then x else y)) H:=by
 refine zI ?_;obtain ⟨r,hr⟩:∃ r,(if x≠0 then x else y)=r:=⟨_,rfl⟩;rw [hr];refine zHb ?_;refine zBB (fun i:Nat=>[(8,zK i),(3,zJ 0),(6,.sl (some false) b 1 0 2),(7,zK 2)]) (fun i H'=>H'=H/\i<=2/\(1<=i->x=0)/\(2<=i->y=0)) (fun i=>2-i) 0 rfl ⟨rfl,by omega,fun h=>by omega,fun h=>by omega⟩ (fun i H1 ⟨hH,hi,hx,hy⟩=>?_);subst hH;dsimp only;rcases (show i=0\/i=1\/i=2 by omega) with rfl|rfl|rfl
 ·by_cases h0:x=0
  ·refine sW ?_;refine sAt ⟨by omega,by omega⟩<|zBV 0 (zJ x) (zJ x) rfl hb rfl rfl<|zk (zQo.2 tO)<|zS (r:=1) rfl tO ?_;refine zAP 1 rfl ⟨rfl,by omega,fun _=>h0,fun h=>by omega⟩ tO
  ·rw [zQQ h0] at hr;subst hr;refine sW ?_;refine sAt ⟨by omega,by omega⟩<|zBV 0 (zJ x) (zJ x) rfl hb rfl rfl<|zp (zQ8.2 tO) ?_
   exact sRv
 ·have h0:=hx tO;rw [zQN (fun h=>h h0)] at hr;subst hr;by_cases h1:y=0
  ·refine sW ?_;refine sAt ⟨by omega,by omega⟩<|zBV 1 (zJ y) (zJ y) rfl hb rfl rfl<|zk (zQo.2 tO)<|zS (r:=2) rfl tO ?_;refine zAP 2 rfl ⟨rfl,by omega,fun _=>h0,fun _=>h1⟩ tO
  ·refine sW ?_;refine sAt ⟨by omega,by omega⟩<|zBV 1 (zJ y) (zJ y) rfl hb rfl rfl<|zp (zQ8.2 tO) ?_
   exact sRv
 ·have h0:=hx tO;have h1:=hy tO;rw [zQN (fun h=>h h0),h1] at hr;subst hr;refine sW ?_;exact sRv
theorem acomp_ev (hC:∀ a b H,C zCE [zJ a,zJ b] H (zJ (cmp3 a b)) H) (hO:∀ b x y H,H[b]?=some (.row 1 [zJ x,zJ y])->C zFw [.sl (some false) b 1 0 2] H (zJ (if x≠0 then x else y)) H) (c1 r1 c2 r2:Int) (H:Heap) :
  EFun C GT zKf [zCs c1 r1,zCs c2 r2] H (zJ (cmpC c1 r1 c2 r2)) H:=by
 have hc:=hC;have ho:=fun b H h=>hO b (cmp3 r1 r2) (cmp3 c1 c2) H h;clear hO hC;refine zI ?_;unfold cmpC;refine zBr (x:=zCs c1 r1) rfl<|zBr (x:=zCs c2 r2) rfl<|sW ?_;refine zAW (vs':=[zJ (cmp3 r1 r2),zJ (cmp3 c1 c2)]) rfl rfl<|sW ?_
 exact sRv
theorem aless_ev (hC:∀ c1 r1 c2 r2 H,C zFJ [zCs c1 r1,zCs c2 r2] H (zJ (cmpC c1 r1 c2 r2)) H) (a b:Fil) (H:Heap):EFun C GT zPM [zCs a.col a.row,zCs b.col b.row] H (.bool (zE2 a b)) H:=by
 have hc:=hC a.col a.row b.col b.row;clear hC;refine zI ?_;unfold zE2;refine zBr (x:=zCs a.col a.row) rfl<|zBr (x:=zCs b.col b.row) rfl<|sW ?_
 exact sRv
theorem gtext_ev (hCo:∀ s H,C zAc [.str s] H (.bool (decide (s.head?≠some 61))) H) (hP:∀ s H,C zAD [.str s] H (zFE s) H) (s:Bs) (H:Heap):EFun C GT zNd [.str s] H (eV (zBq s)) H:=by
 have hc:=hCo s;have hp:=hP s;clear hCo hP;refine zI ?_;unfold zBq;by_cases hl:200<s.length
 ·rw [zQQ hl];refine sW ?_;exact sRv
 ·rw [zQN hl];by_cases h:s.head?=some 61
  ·rw [zQQ h];rw [tF (fun x=>x h)] at hc;unfold zFE at hp;cases hq:zAi s with
   |some n=>
    rw [hq] at hp;have hp:∀ H,C zAD [.str s] H (.tup [ndV n,.int .i64 0,.nili]) H:=hp;refine sW ?_;refine sSA (ndV n) ?_;refine sW ?_;exact sRv
   |none=>
    rw [hq] at hp;have hp:∀ H,C zAD [.str s] H (.tup [ndV zZ,.sca,.iface zO .undef]) H:=hp;refine sW ?_;refine sSA (ndV zZ) ?_;refine sW ?_;exact sRv
  ·rw [zQN h];rw [zQj h] at hc;refine sW ?_;exact sRv
theorem gcheck_ev (hA:∀ c r H,C zAp [zCs c r] H (if okC c r=true then .nili else zIb 1) H) (hL:∀ a b H,C zIF [zCs a.col a.row,zCs b.col b.row] H (.bool (zE2 a b)) H) (hT:∀ s H,C zCt [.str s] H (eV (zBq s)) H)
  (lv:AV) (l:List Fil) (H:Heap) (hv:view H 3 lv=some (l.map zl)):EFun C GT zLq [lv] H (eV (zB6 l)) H:=by
 have hlm:(l.map zl).length=l.length:=zQW _;refine zI ?_;unfold zB6;by_cases hl:200<l.length
 ·rw [zQQ hl];clear hA hL hT;refine zFB hv<|sW ?_
  exact sRv
 rw [zQN hl];obtain ⟨r,hr⟩:∃ r,zGi none l=r:=⟨_,rfl⟩;rw [hr];refine zFB hv<|sW ?_;refine zFB hv ?_;refine zBB (fun i:Nat=>[(12,zK i),(0,lv),(10,lv),(11,.int .i64 ((l.map zl).length:Nat))]) (fun i H'=>Old H H'/\view H' 3 lv=some (l.map zl)/\i<=l.length/\zGi (if i=0 then none else l[i-1]?) (l.drop i)=r) (fun i=>l.length-i) 0 rfl ⟨Old.refl _,hv,by omega,hr⟩ (fun i H1 ⟨hH,hv1,hi,hq⟩=>?_)
 dsimp only;by_cases hlt:i<l.length
 ·obtain ⟨f,hf⟩:∃ f,l[i]?=some f:=⟨_,zQS hlt⟩;have hfm:(l.map zl)[i]?=some (zl f):=by rw [zQa,hf];rfl
  rw [zNL l i f hf] at hq;have hvo:view ((H1++[ABlk.box zV3]).set (List.length H1) (ABlk.box (zl f).cells)) 3 lv=some (l.map zl):=view_old (((Old.refl H1).push _).set (zQU _) _) hv1;have ha:=hA f.col f.row;have ht:=hT f.text;have hH2:∀ X Y,Old H ((H1++[X]).set H1.length Y):=fun X Y=>(hH.push _).set hH.1 _;clear hA hT;unfold filN at hq;cases hok:okC f.col f.row with
  |false=>
   rw [hok] at ha hq;have hq:1=r:=hq;subst hq;clear hL ht;refine sW ?_;refine sIdxV i (zl f) hv1 rfl hfm (fun p hp=>?_);refine zAn (zl f) hp rfl<|sSA (zl f) ?_;refine sW ?_
   exact zAq rfl rfl rfl rfl (hH2 _ _)
  |true=>
   rw [hok] at ha hq;rw [zQN (by simp:¬ (true=false))] at hq;have ha:∀ H,C zAp [zCs f.col f.row] H .nili H:=ha;by_cases hi0:i=0
   ·rw [zQQ hi0] at hq;have hq:(if (if f.text=[] then 3 else zBq f.text)=0 then zGi (some f) (l.drop (i+1)) else if f.text=[] then 3 else zBq f.text)=r:=hq;clear hL;by_cases h0:f.text=[]
    ·rw [zQQ h0] at hq;have hq:3=r:=hq;subst hq;clear ht;refine sW ?_;refine sIdxV i (zl f) hv1 rfl hfm (fun p hp=>?_);refine zAn (zl f) hp rfl<|zL (v:=zl f) (AV.cells (zl f)) zB rfl rfl rfl rfl<|zA (AV.agg [zJ f.col,zJ f.row]) hP rfl<|zM (ha _)<|zy rfl ?_;refine zG<|zk tF<|zG<|zG<|zA (AV.str f.text) hP rfl<|zp (tE h0) ?_
     exact zAq rfl rfl rfl rfl (hH2 _ _)
    ·rw [zQN h0] at hq;by_cases hz:zBq f.text=0
     ·rw [zQQ hz] at hq;rw [hz] at ht;have ht:∀ H,C zCt [.str f.text] H .nili H:=ht;refine sW ?_;refine sIdxV i (zl f) hv1 rfl hfm (fun p hp=>?_);refine zAn (zl f) hp rfl<|zL (v:=zl f) (AV.cells (zl f)) zB rfl rfl rfl rfl<|zA (AV.agg [zJ f.col,zJ f.row]) hP rfl<|zM (ha _)<|zy rfl ?_;refine zG<|zk tF<|zG<|zG<|zA (AV.str f.text) hP rfl<|zk (tN h0) ?_;refine zA (AV.str f.text) hP rfl<|zM (ht _)<|zy rfl<|zG<|zS (r:=i+1) rfl tO ?_;refine zAP (i+1) rfl ⟨hH2 _ _,hvo,by omega, ?_⟩ tO
      rw [zQN tO,zRX,hf];exact hq
     ·rw [zQN hz] at hq;subst hq;have ht:∀ H,C zCt [.str f.text] H (zIb (zBq f.text)) H:=fun H=>by have:=ht H;rwa [eV,zQN hz] at this
      rw [eV,zQN hz];refine sW ?_;refine sIdxV i (zl f) hv1 rfl hfm (fun p hp=>?_);refine zAn (zl f) hp rfl<|zL (v:=zl f) (AV.cells (zl f)) zB rfl rfl rfl rfl<|zA (AV.agg [zJ f.col,zJ f.row]) hP rfl<|zM (ha _)<|zy rfl ?_;refine zG<|zk tF<|zG<|zG<|zA (AV.str f.text) hP rfl<|zk (tN h0) ?_;refine zA (AV.str f.text) hP rfl<|zM (ht _)<|zy rfl<|zD ?_
      exact zAq rfl rfl rfl rfl (hH2 _ _)
   ·obtain ⟨g,hg⟩:∃ g,l[i-1]?=some g:=⟨_,zQS tO⟩;have hgm:(l.map zl)[i-1]?=some (zl g):=by rw [zQa,hg];rfl
    rw [zQN hi0,hg] at hq;have hq:(if (if zE2 g f=false then 5 else if f.text=[] then 3 else zBq f.text)=0 then zGi (some f) (l.drop (i+1)) else if zE2 g f=false then 5 else if f.text=[] then 3 else zBq f.text)=r:=hq;have hls:=hL g f;clear hL;cases hlp:zE2 g f with
    |false=>
     rw [hlp] at hls hq;have hq:5=r:=hq;subst hq;clear ht;refine sW ?_;refine sIdxV i (zl f) hv1 rfl hfm (fun p hp=>?_);refine zAn (zl f) hp rfl<|sSA (zl f) ?_;refine sW ?_;refine zS (r:=i-1) tO tO ?_;refine sIdxW (i-1) (zl g) hvo rfl hgm ?_ (fun b2 j2 hp2=>?_)
     ·refine sW ?_;exact zAq rfl rfl rfl rfl (hH2 _ _)
     ·refine zAn (zCs g.col g.row) hp2 rfl<|sW ?_
      exact zAq rfl rfl rfl rfl (hH2 _ _)
    |true=>
     rw [hlp] at hls hq;rw [zQN (by simp:¬ (true=false))] at hq;by_cases h0:f.text=[]
     ·rw [zQQ h0] at hq;have hq:3=r:=hq;subst hq;clear ht;refine sW ?_;refine sIdxV i (zl f) hv1 rfl hfm (fun p hp=>?_);refine zAn (zl f) hp rfl<|sSA (zl f) ?_;refine sW ?_;refine zS (r:=i-1) tO tO ?_;refine sIdxW (i-1) (zl g) hvo rfl hgm ?_ (fun b2 j2 hp2=>?_)
      ·refine zA4 (zCs g.col g.row) rfl<|zA (AV.agg [zJ f.col,zJ f.row]) hP rfl<|zM (hls _)<|zD<|zG<|zA (AV.str f.text) hP rfl ?_;refine zp (tE h0) ?_
       exact zAq rfl rfl rfl rfl (hH2 _ _)
      ·refine zAn (zCs g.col g.row) hp2 rfl<|zA (AV.agg [zJ f.col,zJ f.row]) hP rfl<|zM (hls _)<|zD<|zG<|zA (AV.str f.text) hP rfl ?_;refine zp (tE h0) ?_
       exact zAq rfl rfl rfl rfl (hH2 _ _)
     ·rw [zQN h0] at hq;by_cases hz:zBq f.text=0
      ·rw [zQQ hz] at hq;rw [hz] at ht;have ht:∀ H,C zCt [.str f.text] H .nili H:=ht;refine sW ?_;refine sIdxV i (zl f) hv1 rfl hfm (fun p hp=>?_);refine zAn (zl f) hp rfl<|sSA (zl f) ?_;refine sW ?_;refine zS (r:=i-1) tO tO ?_;refine sIdxW (i-1) (zl g) hvo rfl hgm ?_ (fun b2 j2 hp2=>?_)
       ·refine zA4 (zCs g.col g.row) rfl<|zA (AV.agg [zJ f.col,zJ f.row]) hP rfl<|zM (hls _)<|zD<|zG<|zA (AV.str f.text) hP rfl ?_;refine zk (tN h0)<|zA (AV.str f.text) hP rfl<|zM (ht _)<|zy rfl<|zG<|zS (r:=i+1) rfl tO ?_;refine zAP (i+1) rfl ⟨hH2 _ _,hvo,by omega, ?_⟩ tO
        rw [zQN tO,zRX,hf];exact hq
       ·refine zAn (zCs g.col g.row) hp2 rfl<|zA (AV.agg [zJ f.col,zJ f.row]) hP rfl<|zM (hls _)<|zD<|zG<|zA (AV.str f.text) hP rfl ?_;refine zk (tN h0)<|zA (AV.str f.text) hP rfl<|zM (ht _)<|zy rfl<|zG<|zS (r:=i+1) rfl tO ?_;refine zAP (i+1) rfl ⟨hH2 _ _,hvo,by omega, ?_⟩ tO
        rw [zQN tO,zRX,hf];exact hq
      ·rw [zQN hz] at hq;subst hq;have ht:∀ H,C zCt [.str f.text] H (zIb (zBq f.text)) H:=fun H=>by have:=ht H;rwa [eV,zQN hz] at this
       rw [eV,zQN hz];refine sW ?_;refine sIdxV i (zl f) hv1 rfl hfm (fun p hp=>?_);refine zAn (zl f) hp rfl<|sSA (zl f) ?_;refine sW ?_;refine zS (r:=i-1) tO tO ?_;refine sIdxW (i-1) (zl g) hvo rfl hgm ?_ (fun b2 j2 hp2=>?_)
       ·refine zA4 (zCs g.col g.row) rfl<|zA (AV.agg [zJ f.col,zJ f.row]) hP rfl<|zM (hls _)<|zD<|zG<|zA (AV.str f.text) hP rfl ?_;refine zk (tN h0)<|zA (AV.str f.text) hP rfl<|zM (ht _)<|zy rfl<|zD ?_
        exact zAq rfl rfl rfl rfl (hH2 _ _)
       ·refine zAn (zCs g.col g.row) hp2 rfl<|zA (AV.agg [zJ f.col,zJ f.row]) hP rfl<|zM (hls _)<|zD<|zG<|zA (AV.str f.text) hP rfl ?_;refine zk (tN h0)<|zA (AV.str f.text) hP rfl<|zM (ht _)<|zy rfl<|zD ?_
        exact zAq rfl rfl rfl rfl (hH2 _ _)
 ·have hd:l.drop i=[]:=zRD tO;rw [hd] at hq;have hq:0=r:=hq;subst hq;clear hA hL hT;refine sW ?_;exact zAq rfl rfl rfl rfl hH
end
end Go.AM
set_option maxRecDepth 20000
namespace Go.AM
theorem cmpC_less (a b:Fil):zE2 a b=if a.row≠b.row then decide (a.row<b.row) else decide (a.col<b.col):=by
 unfold zE2 cmpC cmp3;by_cases h1:a.row<b.row
 ·have h2:a.row≠b.row:=by omega
  simp [h1,h2]
 ·by_cases h2:b.row<a.row
  ·have h3:a.row≠b.row:=by omega
   simp [h1,h2,h3]
  ·have h3:a.row=b.row:=by omega
   by_cases h4:a.col<b.col
   ·simp [h3,h4]
   ·by_cases h5:b.col<a.col
    ·simp [h3,h4,h5]
    ·simp [h3,h4,h5]
theorem zDj {F:AF} {a s t1 t2:Nat} {ag:Bool} {H H1:Heap} {fr:Fr} {v v1 v2:AV} {cs:List AV} {o:Nat} (hF:F.results=[.cell a s ag,.tmp t1,.tmp t2]) (hk:F.keep=false) (hp:zAA H1 (zLQ fr a)=some (cs,o)) (hpt:part cs o s ag=some v) (ht1:zLQ fr t1=v1) (ht2:zLQ fr t2=v2)
  (hf:zEE H.length (.tup [v,v1,v2]) H1=some (.tup [v,v1,v2],H1)) (hb:(AV.tup [v,v1,v2]).bel H.length=true) (ho:Old H H1):retP F H fr H1 (.tup [v,v1,v2]) H:=by
 refine zAq hk ?_ hf hb ho;rw [zFA] at hp ht1 ht2;simp only [hF,zBa,zKq,hp,hpt,ht1,ht2,zQg];rfl
section
variable {C:CSpec} {GT:Nat->Option AV}
theorem rin_ev (c r:Int) (H:Heap):EFun C GT zJU [zCs c r] H (.bool (okC c r)) H:=by
 refine zI ?_;unfold okC;by_cases h1:1<=c
 ·rw [zQj h1];by_cases h2:c<=26
  ·rw [zQj h2];by_cases h3:1<=r
   ·rw [zQj h3];refine zBr (x:=zCs c r) rfl<|zA (zJ c) zB rfl<|zp tT<|zA (zJ c) zB rfl<|zD<|zp tT ?_;refine zA (zJ r) zB rfl<|zD<|zp tT<|zA (zJ r) zB rfl<|zD ?_
    exact zAq rfl rfl rfl rfl ((Old.refl _).push _)
   ·rw [zQs h3];refine zBr (x:=zCs c r) rfl<|zA (zJ c) zB rfl<|zp tT<|zA (zJ c) zB rfl<|zD<|zp tT ?_;refine zA (zJ r) zB rfl<|zD<|zk tF<|zG ?_
    exact zAq rfl rfl rfl rfl ((Old.refl _).push _)
  ·rw [zQs h2];refine zBr (x:=zCs c r) rfl<|zA (zJ c) zB rfl<|zp tT<|zA (zJ c) zB rfl ?_;refine zD<|zk tF<|zG<|zG<|zG ?_
   exact zAq rfl rfl rfl rfl ((Old.refl _).push _)
 ·rw [zQs h1];refine zBr (x:=zCs c r) rfl<|zA (zJ c) zB rfl ?_;refine zk tF<|zG<|zG<|zG<|zG<|zG ?_
  exact zAq rfl rfl rfl rfl ((Old.refl _).push _)
theorem rahead_ev (a b:Fil) (H:Heap):EFun C GT zGD [zCs a.col a.row,zCs b.col b.row] H (.bool (zE2 a b)) H:=by
 rw [cmpC_less];refine zI ?_;by_cases h:a.row≠b.row
 ·rw [zQQ h];refine zBr (x:=zCs a.col a.row) rfl<|zBr (x:=zCs b.col b.row) rfl<|zA (zJ a.row) hP rfl<|zA (zJ b.row) zB rfl<|zp (zQ8.2 h)<|zA (zJ a.row) hP rfl ?_;refine zA (zJ b.row) zB rfl ?_
  exact zAq rfl rfl rfl rfl (((Old.refl _).push _).push _)
 ·rw [zQN h];have h:a.row=b.row:=Classical.not_not.1 h;refine zBr (x:=zCs a.col a.row) rfl<|zBr (x:=zCs b.col b.row) rfl<|zA (zJ a.row) hP rfl<|zA (zJ b.row) zB rfl<|zk (zQo.2 h)<|zA (zJ a.col) hP rfl ?_;refine zA (zJ b.col) zB rfl ?_
  exact zAq rfl rfl rfl rfl (((Old.refl _).push _).push _)
def RPar (C:CSpec) (s:Bs):Prop:=
 (∀ n,zAi s=some n->∀ H,C zBD [.str s] H (.tup [ndV n,zJ 0,zJ 0]) H)/\(zAi s=none->∀ H,∃ w e:Int,e≠0/\C zBD [.str s] H (.tup [ndV zZ,zJ w,zJ e]) H)
theorem rparse_ok (hT:∀ s a H,a<=s.length->s.length<=1000->C zY [.str s,zK a] H (tkV s a) H) (s:Bs) (hl:s.length<=200) (h61:s[0]?=some 61) (n:Nd) (e:Nat) (he:e<=s.length) (hk:tok s e=.fin)
  (hLo:∀ b H,H[b]?=some (rP s 1 0)->C zX [pR b,.int .i64 1] H (ndV n) (H.set b (rP s e 0))) (H:Heap):EFun C GT zDd [.str s] H (.tup [ndV n,zJ 0,zJ 0]) H:=by
 have htk:=fun H=>hT s e H he tO;rw [zG6,hk] at htk;clear hT;refine zI ?_;have hne:s≠[]:=fun x=>by subst x;cases h61
 generalize skip s e=q at *;refine zk tF<|zk (tN hne)<|zCB rfl h61<|zG<|zG<|zy (v:=[AV.str s,.int .i64 1,.int .i64 0,.int .i64 0,.int .i64 0]) rfl ?_;refine zBr (x:=AV.agg [AV.str s,.int .i64 1,.int .i64 0,.int .i64 0,.int .i64 0]) rfl<|zCM (hLo _ _ hP) (fun h=>by cases h)<|zL (v:=ndV n) (AV.cells (ndV n)) zB rfl rfl rfl rfl<|zA (zJ ↑e) hP rfl<|zM (htk _)<|zL (v:=kV (tkK Tok.fin) q (tkE q Tok.fin) (tkT Tok.fin)) (AV.cells (kV (tkK Tok.fin) q (tkE q Tok.fin) (tkT Tok.fin))) zB rfl rfl rfl rfl ?_
 refine zA (zJ 0) hP rfl<|zD<|zA (zK (tkK Tok.fin)) hP rfl<|zD<|zG<|zA (zJ 0) hP rfl ?_;refine zG<|zA (ndV n) hP rfl<|zL (v:=ndV n) (AV.cells (ndV n)) hP rfl rfl rfl rfl ?_
 exact zDj (o:=0) rfl rfl (zH hP) rfl rfl rfl rfl rfl hO
theorem rparse_tail (hT:∀ s a H,a<=s.length->s.length<=1000->C zY [.str s,zK a] H (tkV s a) H)
  (hF:∀ b s p d a e H,H[b]?=some (pB s p 0 0 d)->C zc [pR b,zJ a,zJ e] H (.tup []) (H.set b (pB s p a e d)))
  (s:Bs) (hl:s.length<=200) (h61:s[0]?=some 61) (n:Nd) (e:Nat) (he:e<=s.length) (hk:tkK (tok s e)≠0)
  (hLo:∀ b H,H[b]?=some (rP s 1 0)->C zX [pR b,.int .i64 1] H (ndV n) (H.set b (rP s e 0))) (H:Heap):EFun C GT zDd [.str s] H (.tup [ndV zZ,zK (skip s e),zJ 2]) H:=by
 have htk:=fun H=>hT s e H he tO;rw [zG6] at htk;have hf:=fun b H=>hF b s e 0 (skip s e:Nat) 2 H;clear hT hF;refine zI ?_;have hne:s≠[]:=fun x=>by subst x;cases h61
 generalize tkE (skip s e) (tok s e)=ee at *;generalize tkK (tok s e)=kk at *;generalize tkT (tok s e)=t at *;generalize skip s e=q at *;refine zk tF<|zk (tN hne)<|zCB rfl h61<|zG<|zG<|zy (v:=[AV.str s,.int .i64 1,.int .i64 0,.int .i64 0,.int .i64 0]) rfl ?_;refine zBr (x:=AV.agg [AV.str s,.int .i64 1,.int .i64 0,.int .i64 0,.int .i64 0]) rfl<|zCM (hLo _ _ hP) (fun h=>by cases h)<|zL (v:=ndV n) (AV.cells (ndV n)) zB rfl rfl rfl rfl<|zA (zJ ↑e) hP rfl<|zM (htk _)<|zL (v:=kV kk q ee t) (AV.cells (kV kk q ee t)) zB rfl rfl rfl rfl ?_
 refine zA (zJ 0) hP rfl<|zp (tE (by rfl))<|zA (zK kk) hP rfl<|zD<|zp (zQ8.2 tO)<|zA (zK q) hP rfl ?_;refine zCM (hf _ _ hP) (fun h=>by cases h)<|zA (zJ 2) hP rfl<|zp (zQ8.2 tO)<|zy (v:=(zN 0 0 [])) rfl ?_;refine zHB ?_ ?_
 ·refine zA (zJ ↑q) hP rfl ?_;refine zHB ?_ ?_
  ·refine zA (zJ 2) hP rfl<|zL (v:=.agg (zN 0 0 [])) (AV.cells (.agg (zN 0 0 []))) hP rfl rfl rfl rfl ?_
   exact zDj (o:=0) rfl rfl (zH hP) rfl rfl rfl rfl rfl hO
  ·refine zL (v:=.agg (zN 0 0 [])) (AV.cells (.agg (zN 0 0 []))) hP rfl rfl rfl rfl<|zA (zJ 2) hP rfl ?_
   exact zDj (o:=0) rfl rfl (zH hP) rfl rfl rfl rfl rfl hO
 ·refine zHB ?_ ?_
  ·refine zA (zJ 2) hP rfl ?_;refine zHB ?_ ?_
   ·refine zA (zJ ↑q) hP rfl<|zL (v:=.agg (zN 0 0 [])) (AV.cells (.agg (zN 0 0 []))) hP rfl rfl rfl rfl ?_
    exact zDj (o:=0) rfl rfl (zH hP) rfl rfl rfl rfl rfl hO
   ·refine zL (v:=.agg (zN 0 0 [])) (AV.cells (.agg (zN 0 0 []))) hP rfl rfl rfl rfl<|zA (zJ ↑q) hP rfl ?_
    exact zDj (o:=0) rfl rfl (zH hP) rfl rfl rfl rfl rfl hO
  ·refine zL (v:=.agg (zN 0 0 [])) (AV.cells (.agg (zN 0 0 []))) hP rfl rfl rfl rfl<|zA (zJ ↑q) hP rfl<|zA (zJ 2) hP rfl ?_
   exact zDj (o:=0) rfl rfl (zH hP) rfl rfl rfl rfl rfl hO
theorem rparse_bad (hT:∀ s a H,a<=s.length->s.length<=1000->C zY [.str s,zK a] H (tkV s a) H)
  (s:Bs) (hl:s.length<=200) (h61:s[0]?=some 61) (n:Nd) (a:Nat) (w e d:Int) (ha:a<=s.length) (he:e≠0) (H:Heap)
  (hLo:∀ H',H'[(H++[ABlk.box (ndC zZ)]).length]?=some (rP s 1 0)->C zX [pR (H++[ABlk.box (ndC zZ)]).length,.int .i64 1] H' (ndV n) (H'.set (H++[ABlk.box (ndC zZ)]).length (pB s a w e d))):EFun C GT zDd [.str s] H (.tup [ndV zZ,zJ w,zJ e]) H:=by
 have htk:=fun H=>hT s a H ha tO;rw [zG6] at htk;clear hT;refine zI ?_;have hne:s≠[]:=fun x=>by subst x;cases h61
 generalize tkE (skip s a) (tok s a)=ee at *;generalize tkK (tok s a)=kk at *;generalize tkT (tok s a)=t at *;generalize skip s a=q at *;refine zk tF<|zk (tN hne)<|zCB rfl h61<|zG<|zG<|zy (v:=[AV.str s,.int .i64 1,.int .i64 0,.int .i64 0,.int .i64 0]) rfl ?_;refine zBr (x:=AV.agg [AV.str s,.int .i64 1,.int .i64 0,.int .i64 0,.int .i64 0]) rfl<|zCM (hLo _ hP) (fun h=>by cases h)<|zL (v:=ndV n) (AV.cells (ndV n)) zB rfl rfl rfl rfl<|zA (zJ ↑a) hP rfl<|zM (htk _)<|zL (v:=kV kk q ee t) (AV.cells (kV kk q ee t)) zB rfl rfl rfl rfl ?_
 refine zA (zJ e) hP rfl<|zk tF<|zG<|zG<|zA (zJ e) hP rfl<|zp (zQ8.2 he) ?_;refine zy (v:=(zN 0 0 [])) rfl ?_;refine zHB ?_ ?_
 ·refine zA (zJ w) hP rfl ?_;refine zHB ?_ ?_
  ·refine zA (zJ e) hP rfl<|zL (v:=.agg (zN 0 0 [])) (AV.cells (.agg (zN 0 0 []))) hP rfl rfl rfl rfl ?_
   exact zDj (o:=0) rfl rfl (zH hP) rfl rfl rfl rfl rfl hO
  ·refine zL (v:=.agg (zN 0 0 [])) (AV.cells (.agg (zN 0 0 []))) hP rfl rfl rfl rfl<|zA (zJ e) hP rfl ?_
   exact zDj (o:=0) rfl rfl (zH hP) rfl rfl rfl rfl rfl hO
 ·refine zHB ?_ ?_
  ·refine zA (zJ e) hP rfl ?_;refine zHB ?_ ?_
   ·refine zA (zJ w) hP rfl<|zL (v:=.agg (zN 0 0 [])) (AV.cells (.agg (zN 0 0 []))) hP rfl rfl rfl rfl ?_
    exact zDj (o:=0) rfl rfl (zH hP) rfl rfl rfl rfl rfl hO
   ·refine zL (v:=.agg (zN 0 0 [])) (AV.cells (.agg (zN 0 0 []))) hP rfl rfl rfl rfl<|zA (zJ w) hP rfl ?_
    exact zDj (o:=0) rfl rfl (zH hP) rfl rfl rfl rfl rfl hO
  ·refine zL (v:=.agg (zN 0 0 [])) (AV.cells (.agg (zN 0 0 []))) hP rfl rfl rfl rfl<|zA (zJ w) hP rfl<|zA (zJ e) hP rfl ?_
   exact zDj (o:=0) rfl rfl (zH hP) rfl rfl rfl rfl rfl hO
end
end Go.AM
set_option maxRecDepth 20000
namespace Go.AM
theorem idx_two {v:AV} {H:Heap} {k:Nat} {xs:List AV} (hv:view H k v=some xs):(∀ (n:Int) (i:Nat) (x:AV) (K:AV->Prop),n=(i:Int)->xs[i]?=some x->K (.lref x 0)->idxN k v n K) \/
  (∀ (n:Int) (i:Nat) (x:AV) (K:AV->Prop),n=(i:Int)->xs[i]?=some x->(∀ b j,(∀ o,zAA H (.ref b k j o)=some (x.cells,o))->K (.ref b k j 0))->idxN k v n K):=by
 unfold view at hv;split at hv
 ·split at hv
  ·rename_i hk;cases hv;subst hk;exact .inl fun n i x K hn hx q=>sIdx hn hx q
  ·split at hv
   ·cases hv;exact .inl fun n i x K hn hx q=>by simp at hx
   ·cases hv
 ·refine .inr fun n i x K hn hx q2=>?_;have hlt:=(zg hx).1;rw [zJ3];unfold idxNW;simp only;split at hv
  ·rename_i hk;subst hk;split at hv
   ·rename_i hb;split at hv
    ·rename_i hc;cases hv;rw [zQk,zQp] at hlt;rw [zQ3,zQQ tO,zQ4] at hx;subst hn;rw [hc.1] at hb;refine zBA ⟨rfl,by omega,by omega⟩ (q2 _ _ fun o=>?_);show zAA H (.ref _ _ _ _)=_;simp only [zAA,hb,zQz,zQy,hx,zQg]
    ·cases hv
   ·rename_i hb;split at hv
    ·rename_i hc;cases hv;rw [zQk,zQp] at hlt;rw [zQ3,zQQ tO,zQ4] at hx;subst hn;rw [hc.1] at hb;refine zBA ⟨rfl,by omega,by omega⟩ (q2 _ _ fun o=>?_);show zAA H (.ref _ _ _ _)=_;simp only [zAA,hb,zQz,zQy,hx,zQg]
    ·cases hv
   ·cases hv
  ·cases hv
 ·cases hv
section
variable {C:CSpec} {GT:Nat->Option AV}
theorem rtext_ev (hP:∀ s,s.length<=200->s.head?=some 61->RPar C s) (s:Bs) (H:Heap):EFun C GT zHD [.str s] H (zK (zBq s)) H:=by
 have hp:=hP s;clear hP;refine zI ?_;unfold zBq;by_cases hl:200<s.length
 ·rw [zQQ hl];clear hp;refine sX ?_;exact sRv
 ·rw [zQN hl];cases s with
  |nil=>
   clear hp;refine sX ?_;exact sRv
  |cons c r=>
   have hne:(c::r)≠[]:=by simp
   have h0:(c::r)[0]?=some c:=rfl;by_cases h:c=61
   ·subst h;have hp:=hp tO rfl;rw [zQQ (show (61::r:Bs).head?=some 61 from rfl)];obtain ⟨s,hs⟩:∃ s:Bs,(61::r:Bs)=s:=⟨_,rfl⟩;rw [hs] at hl hp hne h0 ⊢;cases hq:zAi s with
    |some n=>
     have hp:=hp.1 n hq;refine sX ?_;refine zp (zQ8.2 hne)<|sX ?_;refine sSA (ndV n) ?_;refine sX ?_
     exact sRv
    |none=>
     obtain ⟨w,e,he,hp⟩:=hp.2 hq H;refine sX ?_;refine zp (zQ8.2 hne)<|sX ?_;refine sSA (ndV zZ) ?_;refine zp (zQ8.2 he) ?_
     exact sRv
   ·rw [zQN (show ¬ (c::r:Bs).head?=some 61 from fun x=>h (zQl x))];clear hp;obtain ⟨s,hs⟩:∃ s:Bs,(c::r:Bs)=s:=⟨_,rfl⟩;rw [hs] at hl hne h0 ⊢;refine sX ?_;refine zp (zQ8.2 hne)<|sX ?_;refine zk (tN (fun x=>h (zQm.1 (by have:(61:UInt8).toNat=61:=rfl;omega)))) ?_
    exact sRv
end
structure RefK2 (PR:Program):Prop extends RefK PR where
 parse:zt PR zBD zDd=true
 isIn:zt PR zBX zJU=true
 ahead:zt PR zBu zGD=true
 text:zt PR zD3 zHD=true
section
variable {PR:Program} {GT:Nat->Option AV}
theorem q_parse (k:RefK2 PR) (g:BigG PR GT) (s:Bs) (hl:s.length<=200) (h61:s.head?=some 61):RPar (Good PR GT) s:=by
 have h0:s[0]?=some 61:=by rw [<-List.head?_eq_getElem?];exact h61
 have h1:1<=s.length:=by cases s with
  |nil=>cases h61
  |cons c r=>simp
 have lo:=fun b=>(q_all k.toRefK g b s hl (s.length-1) 1 h1 rfl 0 tO).2 1;cases hlo:(P s).loose 1 1 0 with
 |none=>
  have hpp:zAi s=none:=by unfold zAi;rw [zQQ ⟨hl,h61⟩,hlo];rfl
  refine ⟨fun n h=>(by rw [hpp] at h;cases h),fun _ H=>?_⟩;obtain ⟨n,a,w,e,d,h2,h3,h4⟩:=(lo (H++[ABlk.box (ndC zZ)]).length).2 hlo;exact ⟨w,e,h2,zE k.hm k.parse (rparse_bad (zIk k.toRefK) s hl h0 n a w e d h3 h2 H h4)⟩
 |some x=>
  obtain ⟨n,e⟩:=x;have hx:=(zCv s).loose 1 1 0 _ h1 hlo;simp only at hx;have hl2:=fun b=>(lo b).1 n e hlo;by_cases hk:tok s e=.fin
  ·have hpp:zAi s=some n:=by unfold zAi;rw [zQQ ⟨hl,h61⟩,hlo];simp only [zRO,hk]
   refine ⟨fun n' h H=>?_,fun h=>by rw [hpp] at h;cases h⟩;rw [hpp] at h;cases h;exact zE k.hm k.parse (rparse_ok (zIk k.toRefK) s hl h0 n e hx.2 hk hl2 H)
  ·have hpp:zAi s=none:=by
    unfold zAi;rw [zQQ ⟨hl,h61⟩,hlo];simp only [zRO]
   refine ⟨fun n h=>(by rw [hpp] at h;cases h),fun _ H=>⟨_,2,by decide,zE k.hm k.parse (rparse_tail (zIk k.toRefK) (q_fail k.toRefK) s hl h0 n e hx.2 (fun h=>hk ?_) hl2 H)⟩⟩;cases ht:tok s e <;> rw [ht] at h <;> first|rfl|(simp only [tkK] at h;omega)
theorem q_in (k:RefK2 PR) (c r:Int) (H:Heap):Good PR GT zBX [zCs c r] H (.bool (okC c r)) H:=zE k.hm k.isIn (rin_ev c r H)
theorem q_ahead (k:RefK2 PR) (a b:Fil) (H:Heap):Good PR GT zBu [zCs a.col a.row,zCs b.col b.row] H (.bool (zE2 a b)) H:=zE k.hm k.ahead (rahead_ev a b H)
theorem q_text (k:RefK2 PR) (g:BigG PR GT) (s:Bs) (H:Heap):Good PR GT zD3 [.str s] H (zK (zBq s)) H:=zE k.hm k.text (rtext_ev (q_parse k g) s H)
end
end Go.AM
set_option maxRecDepth 20000
namespace Go.AM
section
variable {C:CSpec} {GT:Nat->Option AV}
theorem rcheck_ev (hA:∀ c r H,C zBX [zCs c r] H (.bool (okC c r)) H) (hL:∀ a b H,C zBu [zCs a.col a.row,zCs b.col b.row] H (.bool (zE2 a b)) H) (hT:∀ s H,C zD3 [.str s] H (zK (zBq s)) H)
  (lv:AV) (l:List Fil) (H:Heap) (hv:view H 3 lv=some (l.map zl)):EFun C GT zGC [lv] H (zK (zB6 l)) H:=by
 have hlm:(l.map zl).length=l.length:=zQW _;refine zI ?_;unfold zB6;by_cases hl:200<l.length
 ·rw [zQQ hl];clear hA hL hT;refine zFB hv<|sX ?_
  exact sRv
 rw [zQN hl];obtain ⟨r,hr⟩:∃ r,zGi none l=r:=⟨_,rfl⟩;rw [hr];refine zFB hv<|sX ?_;refine zBB (fun i:Nat=>[(3,zK i),(0,lv)]) (fun i H'=>H'=H/\i<=l.length/\zGi (if i=0 then none else l[i-1]?) (l.drop i)=r) (fun i=>l.length-i) 0 rfl ⟨rfl,by omega,hr⟩ (fun i H1 ⟨hH,hi,hq⟩=>?_)
 subst hH;dsimp only;by_cases hlt:i<l.length
 ·obtain ⟨f,hf⟩:∃ f,l[i]?=some f:=⟨_,zQS hlt⟩;have hfm:(l.map zl)[i]?=some (zl f):=by rw [zQa,hf];rfl
  rw [zNL l i f hf] at hq;have ha:=hA f.col f.row;have ht:=hT f.text;clear hA hT;unfold filN at hq;rcases idx_two hv with hx|hx
  ·cases hok:okC f.col f.row with
   |false=>
    rw [hok] at ha hq;have hq:1=r:=hq;subst hq;clear hL ht;refine zFB hv<|sX ?_;refine hx _ i (zl f) _ rfl hfm ?_;refine sX ?_
    exact sRv
   |true=>
    rw [hok] at ha hq;rw [zQN (by simp:¬ (true=false))] at hq;by_cases hi0:i=0
    ·rw [zQQ hi0] at hq;have hq:(if (if f.text=[] then 3 else zBq f.text)=0 then zGi (some f) (l.drop (i+1)) else if f.text=[] then 3 else zBq f.text)=r:=hq;clear hL;by_cases h0:f.text=[]
     ·rw [zQQ h0] at hq;have hq:3=r:=hq;subst hq;clear ht;refine zFB hv<|sX ?_;refine hx _ i (zl f) _ rfl hfm ?_;refine sX ?_;refine hx _ i (zl f) _ rfl hfm ?_;refine zA4 (.str f.text) rfl<|zp (tE h0) ?_
      exact sRv
     ·rw [zQN h0] at hq;by_cases hz:zBq f.text=0
      ·rw [zQQ hz] at hq;rw [hz] at ht;refine zFB hv<|sX ?_;refine hx _ i (zl f) _ rfl hfm ?_;refine sX ?_;refine hx _ i (zl f) _ rfl hfm ?_;refine zA4 (.str f.text) rfl<|zk (tN h0) ?_;refine hx _ i (zl f) _ rfl hfm ?_;refine sX ?_;refine zS (r:=i+1) rfl tO ?_;refine zAP (i+1) rfl ⟨rfl,by omega, ?_⟩ tO
       rw [zQN tO,zRX,hf];exact hq
      ·rw [zQN hz] at hq;subst hq;refine zFB hv<|sX ?_;refine hx _ i (zl f) _ rfl hfm ?_;refine sX ?_;refine hx _ i (zl f) _ rfl hfm ?_;refine zA4 (.str f.text) rfl<|zk (tN h0) ?_;refine hx _ i (zl f) _ rfl hfm ?_;refine sX ?_;refine zp (zQ8.2 tO) ?_
       exact sRv
    ·obtain ⟨g,hg⟩:∃ g,l[i-1]?=some g:=⟨_,zQS tO⟩;have hgm:(l.map zl)[i-1]?=some (zl g):=by rw [zQa,hg];rfl
     rw [zQN hi0,hg] at hq;have hq:(if (if zE2 g f=false then 5 else if f.text=[] then 3 else zBq f.text)=0 then zGi (some f) (l.drop (i+1)) else if zE2 g f=false then 5 else if f.text=[] then 3 else zBq f.text)=r:=hq;have hls:=hL g f;clear hL;cases hlp:zE2 g f with
     |false=>
      rw [hlp] at hls hq;have hq:5=r:=hq;subst hq;clear ht;refine zFB hv<|sX ?_;refine hx _ i (zl f) _ rfl hfm ?_;refine sX ?_;refine zS (r:=i-1) tO tO ?_;refine hx _ (i-1) (zl g) _ tO hgm ?_;refine sX ?_;refine hx _ i (zl f) _ rfl hfm ?_;refine sX ?_
      exact sRv
     |true=>
      rw [hlp] at hls hq;rw [zQN (by simp:¬ (true=false))] at hq;by_cases h0:f.text=[]
      ·rw [zQQ h0] at hq;have hq:3=r:=hq;subst hq;clear ht;refine zFB hv<|sX ?_;refine hx _ i (zl f) _ rfl hfm ?_;refine sX ?_;refine zS (r:=i-1) tO tO ?_;refine hx _ (i-1) (zl g) _ tO hgm ?_;refine sX ?_;refine hx _ i (zl f) _ rfl hfm ?_;refine sX ?_;refine hx _ i (zl f) _ rfl hfm ?_;refine zA4 (.str f.text) rfl<|zp (tE h0) ?_
       exact sRv
      ·rw [zQN h0] at hq;by_cases hz:zBq f.text=0
       ·rw [zQQ hz] at hq;rw [hz] at ht;refine zFB hv<|sX ?_;refine hx _ i (zl f) _ rfl hfm ?_;refine sX ?_;refine zS (r:=i-1) tO tO ?_;refine hx _ (i-1) (zl g) _ tO hgm ?_;refine sX ?_;refine hx _ i (zl f) _ rfl hfm ?_;refine sX ?_;refine hx _ i (zl f) _ rfl hfm ?_;refine zA4 (.str f.text) rfl<|zk (tN h0) ?_;refine hx _ i (zl f) _ rfl hfm ?_;refine sX ?_;refine zS (r:=i+1) rfl tO ?_;refine zAP (i+1) rfl ⟨rfl,by omega, ?_⟩ tO
        rw [zQN tO,zRX,hf];exact hq
       ·rw [zQN hz] at hq;subst hq;refine zFB hv<|sX ?_;refine hx _ i (zl f) _ rfl hfm ?_;refine sX ?_;refine zS (r:=i-1) tO tO ?_;refine hx _ (i-1) (zl g) _ tO hgm ?_;refine sX ?_;refine hx _ i (zl f) _ rfl hfm ?_;refine sX ?_;refine hx _ i (zl f) _ rfl hfm ?_;refine zA4 (.str f.text) rfl<|zk (tN h0) ?_;refine hx _ i (zl f) _ rfl hfm ?_;refine sX ?_;refine zp (zQ8.2 tO) ?_
        exact sRv
  ·cases hok:okC f.col f.row with
   |false=>
    rw [hok] at ha hq;have hq:1=r:=hq;subst hq;clear hL ht;refine zFB hv<|sX ?_;refine hx _ i (zl f) _ rfl hfm (fun b2 j2 hp2=>?_)
    refine zAn (zCs f.col f.row) (hp2 _) rfl<|zM (ha _)<|sW ?_
    exact sRr
   |true=>
    rw [hok] at ha hq;rw [zQN (by simp:¬ (true=false))] at hq;by_cases hi0:i=0
    ·rw [zQQ hi0] at hq;have hq:(if (if f.text=[] then 3 else zBq f.text)=0 then zGi (some f) (l.drop (i+1)) else if f.text=[] then 3 else zBq f.text)=r:=hq;clear hL;by_cases h0:f.text=[]
     ·rw [zQQ h0] at hq;have hq:3=r:=hq;subst hq;clear ht;refine zFB hv<|sX ?_;refine hx _ i (zl f) _ rfl hfm (fun b2 j2 hp2=>?_)
      refine zAn (zCs f.col f.row) (hp2 _) rfl<|sX ?_;refine hx _ i (zl f) _ rfl hfm (fun b2 j2 hp2=>?_)
      refine zAn (.str f.text) (hp2 _) rfl<|zp (tE h0) ?_
      exact sRv
     ·rw [zQN h0] at hq;by_cases hz:zBq f.text=0
      ·rw [zQQ hz] at hq;rw [hz] at ht;refine zFB hv<|sX ?_;refine hx _ i (zl f) _ rfl hfm (fun b2 j2 hp2=>?_)
       refine zAn (zCs f.col f.row) (hp2 _) rfl<|zM (ha _)<|zG<|zk tF<|zG<|zG ?_;refine hx _ i (zl f) _ rfl hfm (fun b2 j2 hp2=>?_)
       refine zAn (.str f.text) (hp2 _) rfl<|zk (tN h0) ?_;refine hx _ i (zl f) _ rfl hfm (fun b2 j2 hp2=>?_)
       refine zAn (.str f.text) (hp2 _) rfl<|zM (ht _)<|zG<|zS (r:=i+1) rfl tO ?_;refine zAP (i+1) rfl ⟨rfl,by omega, ?_⟩ tO
       rw [zQN tO,zRX,hf];exact hq
      ·rw [zQN hz] at hq;subst hq;refine zFB hv<|zp tT ?_;refine hx _ i (zl f) _ rfl hfm (fun b2 j2 hp2=>?_)
       refine zAn (zCs f.col f.row) (hp2 _) rfl<|zM (ha _)<|zG<|zk tF<|zG<|zG ?_;refine hx _ i (zl f) _ rfl hfm (fun b2 j2 hp2=>?_)
       refine zAn (.str f.text) (hp2 _) rfl<|zk (tN h0) ?_;refine hx _ i (zl f) _ rfl hfm (fun b2 j2 hp2=>?_)
       refine zAn (.str f.text) (hp2 _) rfl<|zM (ht _)<|zp (zQ8.2 tO) ?_
       exact sRr
    ·obtain ⟨g,hg⟩:∃ g,l[i-1]?=some g:=⟨_,zQS tO⟩;have hgm:(l.map zl)[i-1]?=some (zl g):=by rw [zQa,hg];rfl
     rw [zQN hi0,hg] at hq;have hq:(if (if zE2 g f=false then 5 else if f.text=[] then 3 else zBq f.text)=0 then zGi (some f) (l.drop (i+1)) else if zE2 g f=false then 5 else if f.text=[] then 3 else zBq f.text)=r:=hq;have hls:=hL g f;clear hL;cases hlp:zE2 g f with
     |false=>
      rw [hlp] at hls hq;have hq:5=r:=hq;subst hq;clear ht;refine zFB hv<|zp tT ?_;refine hx _ i (zl f) _ rfl hfm (fun b2 j2 hp2=>?_)
      refine zAn (zCs f.col f.row) (hp2 _) rfl<|zM (ha _)<|zG<|zp tT<|zS (r:=i-1) tO tO ?_;refine hx _ (i-1) (zl g) _ tO hgm (fun b2 j2 hp2=>?_)
      refine zAn (zCs g.col g.row) (hp2 _) rfl ?_;refine hx _ i (zl f) _ rfl hfm (fun b2 j2 hp2=>?_);refine zAn (zCs f.col f.row) (hp2 _) rfl<|zM (hls _)<|zD<|zD ?_
      exact sRr
     |true=>
      rw [hlp] at hls hq;rw [zQN (by simp:¬ (true=false))] at hq;by_cases h0:f.text=[]
      ·rw [zQQ h0] at hq;have hq:3=r:=hq;subst hq;clear ht;refine zFB hv<|sW ?_;refine hx _ i (zl f) _ rfl hfm (fun b2 j2 hp2=>?_)
       refine zAn (zCs f.col f.row) (hp2 _) rfl<|zM (ha _)<|zG<|zp tT<|zS (r:=i-1) tO tO ?_;refine hx _ (i-1) (zl g) _ tO hgm (fun b2 j2 hp2=>?_)
       refine zAn (zCs g.col g.row) (hp2 _) rfl ?_;refine hx _ i (zl f) _ rfl hfm (fun b2 j2 hp2=>?_);refine zAn (zCs f.col f.row) (hp2 _) rfl<|zM (hls _)<|zD<|zG ?_;refine hx _ i (zl f) _ rfl hfm (fun b2 j2 hp2=>?_)
       refine zAn (.str f.text) (hp2 _) rfl<|zp (tE h0) ?_
       exact sRr
      ·rw [zQN h0] at hq;by_cases hz:zBq f.text=0
       ·rw [zQQ hz] at hq;rw [hz] at ht;refine zFB hv<|sX ?_;refine hx _ i (zl f) _ rfl hfm (fun b2 j2 hp2=>?_)
        refine zAn (zCs f.col f.row) (hp2 _) rfl<|zM (ha _)<|zG<|zp tT<|zS (r:=i-1) tO tO ?_;refine hx _ (i-1) (zl g) _ tO hgm (fun b2 j2 hp2=>?_)
        refine zAn (zCs g.col g.row) (hp2 _) rfl ?_;refine hx _ i (zl f) _ rfl hfm (fun b2 j2 hp2=>?_);refine zAn (zCs f.col f.row) (hp2 _) rfl<|zM (hls _)<|zD<|zG ?_;refine hx _ i (zl f) _ rfl hfm (fun b2 j2 hp2=>?_)
        refine zAn (.str f.text) (hp2 _) rfl<|zk (tN h0) ?_;refine hx _ i (zl f) _ rfl hfm (fun b2 j2 hp2=>?_)
        refine zAn (.str f.text) (hp2 _) rfl<|zM (ht _)<|zG<|zS (r:=i+1) rfl tO ?_;refine zAP (i+1) rfl ⟨rfl,by omega, ?_⟩ tO
        rw [zQN tO,zRX,hf];exact hq
       ·rw [zQN hz] at hq;subst hq;refine zFB hv<|zp tT ?_;refine hx _ i (zl f) _ rfl hfm (fun b2 j2 hp2=>?_)
        refine zAn (zCs f.col f.row) (hp2 _) rfl<|zM (ha _)<|zG<|zp tT<|zS (r:=i-1) tO tO ?_;refine hx _ (i-1) (zl g) _ tO hgm (fun b2 j2 hp2=>?_)
        refine zAn (zCs g.col g.row) (hp2 _) rfl ?_;refine hx _ i (zl f) _ rfl hfm (fun b2 j2 hp2=>?_);refine zAn (zCs f.col f.row) (hp2 _) rfl<|zM (hls _)<|zD<|zG ?_;refine hx _ i (zl f) _ rfl hfm (fun b2 j2 hp2=>?_)
        refine zAn (.str f.text) (hp2 _) rfl<|zk (tN h0) ?_;refine hx _ i (zl f) _ rfl hfm (fun b2 j2 hp2=>?_)
        refine zAn (.str f.text) (hp2 _) rfl<|zM (ht _)<|zp (zQ8.2 tO) ?_
        exact sRr
 ·have hd:l.drop i=[]:=zRD tO;rw [hd] at hq;have hq:0=r:=hq;subst hq;clear hA hL hT;refine zFB hv<|zk tF ?_
  exact sRr
end
structure RefK3 (PR:Program):Prop extends RefK2 PR where
 check:zt PR zCa zGC=true
section
variable {PR:Program} {GT:Nat->Option AV}
theorem q_check (k:RefK3 PR) (g:BigG PR GT) (lv:AV) (l:List Fil) (H:Heap) (hv:view H 3 lv=some (l.map zl)):Good PR GT zCa [lv] H (zK (zB6 l)) H:=zE k.hm k.check (rcheck_ev (q_in k.toRefK2) (q_ahead k.toRefK2) (q_text k.toRefK2 g) lv l H hv)
end
end Go.AM
