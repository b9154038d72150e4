/- Several texts of mine in one (Rf5, Bg1, Bg2, Bgm, Rf3). Own work. -/
import Derived.Test.YtafclpcpdmeodaaGreatDoorGAm30Fp1
import Derived.Test.YtafclpcpdmeodaaGreatDoorRf2
import Derived.Test.YtafclpcpdmeodaaGreatDoorGFq0Bg0
import Derived.Test.YtafclpcpdmeodaaGreatDoorGAm23Am29
import Derived.Test.YtafclpcpdmeodaaGreatDoorXc
import Derived.Test.YtafclpcpdmeodaaGreatDoorGAm31Rf1
set_option linter.all false
set_option maxRecDepth 20000
namespace Go.AM
def tkK:Tok->Nat
 |.fin=>0
 |.word _ _=>1
 |.txt _ _=>2
 |.bad _ _=>3
 |.sign _ _=>4
 |.none=>9
def tkE (q:Nat):Tok->Nat
 |.fin=>q
 |.word e _=>e
 |.txt e _=>e
 |.bad e _=>e
 |.sign e _=>e
 |.none=>q
def tkT:Tok->Bs
 |.fin=>[]
 |.word _ t=>t
 |.txt _ t=>t
 |.bad _ k=>wrongs.getD (k-1) []
 |.sign _ t=>t
 |.none=>[]
theorem zG6 (s:Bs) (a:Nat):tkV s a=kV (tkK (tok s a)) (skip s a) (tkE (skip s a) (tok s a)) (tkT (tok s a)):=by
 unfold tkV tkAt tok;cases zBg s (skip s a) <;> rfl
theorem zKo {s:Bs} {a:Nat} (h:a<=s.length):tkE (skip s a) (tok s a)<=s.length:=by
 have h1:=zB3 s a;have h2:=zCS h;cases hk:tok s a <;> rw [hk] at h1 <;> simp only [tkE,Tok.endsBy] at h1 ⊢ <;> omega
theorem tkT_41 {s:Bs} {a:Nat}:(∃ e,tok s a=.sign e [41])↔tkK (tok s a)=4/\tkT (tok s a)=[41]:=by
 constructor
 ·rintro ⟨e,h⟩;rw [h];exact ⟨rfl,rfl⟩
 ·intro h;cases hk:tok s a <;> rw [hk] at h <;> simp only [tkK,tkT] at h
  all_goals first|omega|skip
  exact ⟨_,by rw [h.2]⟩
section
variable {C:CSpec} {GT:Nat->Option AV}
theorem rclose_ok (hT:∀ s a H,a<=s.length->s.length<=1000->C zY [.str s,zK a] H (tkV s a) H)
  (b:Nat) (s:Bs) (p d e:Nat) (H:Heap) (hb:H[b]?=some (rP s p (d+1))) (hp:p<=s.length) (hl:s.length<=200) (hd:d<=1000) (hk:tok s p=.sign e [41]):zCr C GT zCK [pR b] H b [] .undef (some (.tup [],rP s e d)):=by
 have hbl:b<H.length:=(zg hb).1;have ht:=fun H=>hT s p H hp tO;rw [zG6,hk] at ht;have ht:∀ H,C zY [.str s,zK p] H (kV 4 (skip s p) e [41]) H:=ht;generalize skip s p=q at *;clear hT;refine zAH<|sX ?_;refine zHB ?_ ?_
 all_goals
  refine sX ?_;refine sSA (kV 4 q e [41]) ?_;refine sX ?_;refine sS (zK e) [AV.str s,zK e,zJ 0,zJ 0,zJ ↑(d+1)] ?_;refine sX ?_;refine zS (r:=d) tO tO<|sS (.int .i64 ↑d) [AV.str s,zK e,zJ 0,zJ 0,.int .i64 ↑d] ?_
  exact sRo
theorem rclose_no (hT:∀ s a H,a<=s.length->s.length<=1000->C zY [.str s,zK a] H (tkV s a) H)
  (hF:∀ b s p d a e H,H[b]?=some (pB s p 0 0 d)->C zc [pR b,zJ a,zJ e] H (.tup []) (H.set b (pB s p a e d)))
  (b:Nat) (s:Bs) (p d:Nat) (H:Heap) (hb:H[b]?=some (rP s p (d+1))) (hp:p<=s.length) (hl:s.length<=200) (hd:d<=1000) (hk:¬ ∃ e,tok s p=.sign e [41]):zCr C GT zCK [pR b] H b [] .undef (some (.tup [],pB s (tkE (skip s p) (tok s p):Nat) (skip s p:Nat) 2 d)):=by
 have hbl:b<H.length:=(zg hb).1;have ht:=fun H=>hT s p H hp tO;rw [zG6] at ht;rw [tkT_41] at hk;have hf:=fun H=>hF b s p (d+1:Nat) (skip s p:Nat) 2 H;clear hT hF;generalize tkE (skip s p) (tok s p)=e at *;generalize tkK (tok s p)=kk at *;generalize tkT (tok s p)=t at *;generalize skip s p=q at *;refine zAH ?_;by_cases h4:kk=4
 ·subst h4;have h41:t≠[41]:=fun x=>hk ⟨rfl,x⟩;refine sX ?_;refine zHB ?_ ?_
  all_goals
   refine sX ?_;refine sSA (kV 4 q e t) ?_;refine sX ?_;refine zp (zQ8.2 h41)<|sX ?_;refine sS (zK e) [AV.str s,zK e,zJ ↑q,zJ 2,zJ ↑(d+1)] ?_;refine sX ?_;refine zS (r:=d) tO tO<|sS (.int .i64 ↑d) [AV.str s,zK e,zJ ↑q,zJ 2,.int .i64 ↑d] ?_
   exact sRo
 ·refine sX ?_;refine zHB ?_ ?_
  all_goals
   refine sX ?_;refine sSA (kV kk q e t) ?_;refine sX ?_;refine zp (zQ8.2 tO)<|sX ?_;refine sS (zK e) [AV.str s,zK e,zJ ↑q,zJ 2,zJ ↑(d+1)] ?_;refine sX ?_;refine zS (r:=d) tO tO<|sS (.int .i64 ↑d) [AV.str s,zK e,zJ ↑q,zJ 2,.int .i64 ↑d] ?_
   exact sRo
theorem rclose_bad (hT:∀ s a H,a<=s.length->s.length<=1000->C zY [.str s,zK a] H (tkV s a) H)
  (b:Nat) (s:Bs) (p:Nat) (w e d:Int) (H:Heap) (hb:H[b]?=some (pB s p w e d)) (he:e≠0) (hp:p<=s.length) (hl:s.length<=200):zCr C GT zCK [pR b] H b [] .undef (some (.tup [],pB s (tkE (skip s p) (tok s p):Nat) w e (IntKind.wrap .i64 (d-1)))):=by
 have hbl:b<H.length:=(zg hb).1;have ht:=fun H=>hT s p H hp tO;rw [zG6] at ht;clear hT;generalize tkE (skip s p) (tok s p)=ee at *;generalize tkK (tok s p)=kk at *;generalize tkT (tok s p)=t at *;generalize skip s p=q at *;refine zAH<|sX ?_;refine zHB ?_ ?_
 all_goals
  refine sX ?_;refine sSA (kV kk q ee t) ?_;refine zA (zJ e) (zC tA (zF hb)) rfl<|zk (tN he)<|sX ?_;refine sS (zK ee) [AV.str s,zK ee,zJ w,zJ e,zJ d] ?_;refine sX ?_;refine zFR rfl<|sS (.int .i64 (IntKind.i64.wrap (d-1))) [AV.str s,zK ee,zJ w,zJ e,.int .i64 (IntKind.i64.wrap (d-1))] ?_
  exact sRo
end
end Go.AM
set_option maxRecDepth 20000
namespace Go.AM
def zBT (w:Nat):AV:=.int .u32 w
def u64V (w:Nat):AV:=.int .u64 w
def zFL (n:Nat):AV:=.lst (some false) 1 ((wds n).map zBT)
def Mag (v:AV) (n:Nat):Prop:=zDa v 1 ((wds n).map zBT)
theorem zGR (n:Nat):Mag (zFL n) n:=⟨_,_,rfl,.inl rfl⟩
theorem Mag.nil (k:Nat):Mag (.lst (some true) k []) 0:=⟨_,_,rfl,.inr rfl⟩
theorem zKp {n i:Nat} (h:i<(wds n).length):((wds n).map zBT)[i]?=some (zBT (wds n)[i]):=by rw [zQa,zQS h];rfl
theorem sl_take {b m n:Nat} (h:n<=m):zB5 (some 1) (.sl (some false) b 1 0 m) none (some (.int .i64 (n:Int)))=some (.sl (some false) b 1 0 n):=by
 have e:zDb m none (some (.int .i64 (n:Int)))=some (0,n):=by
  simp only [zDb,aHi,aLo];rw [zQQ ⟨by omega,by omega⟩];simp
 simp only [zB5,zQz,e,zQg,zQ7,zSr];rfl
theorem zP7 {H0 H:Heap} {b n:Nat} {ws:List Nat} (hbl:H0.length<=b) (hb:H[b]?=some (.row 1 (ws.map zBT))) (hw:Small ws) (hn:wval ws=n) :
  zEE H0.length (.sl (some false) b 1 0 (wds n).length) H=some (zFL n,H.set b (.frz 1 (ws.map zBT))):=by
 subst hn;have h:=wds_take hw;simp only [zEE,hb];rw [zQN tO,zQQ ⟨trivial,by rw [zQW];omega⟩];simp only [zSN,<-List.map_take,h.2];rfl
theorem shr32 (s:Nat):zDl .shr .u64 (s:Int) 32=some (.int .u64 ((s/4294967296:Nat):Int)):=by
 simp only [zDl];rw [zQN tO];have:(2:Int)^Nat.min (32:Int).toNat IntKind.u64.bits=4294967296:=by rfl
 rw [this,zSg _ tO];rfl
theorem shr63 (s:Nat):zDl .shr .u64 (s:Int) 63=some (.int .u64 ((s/9223372036854775808:Nat):Int)):=by
 simp only [zDl];rw [zQN tO];have:(2:Int)^Nat.min (63:Int).toNat IntKind.u64.bits=9223372036854775808:=by rfl
 rw [this,zSg _ tO];rfl
theorem zNK {x:Int} {K:Int->Prop} (r:Nat) (h:x%4294967296=r) (k:K (r:Int)):valP (IntKind.wrap .u32 x) K:=zFR (by rw [IntKind.wrap_u32];omega) k
theorem sWu64 {x:Int} {K:Int->Prop} (r:Nat) (h:x%18446744073709551616=r) (k:K (r:Int)):valP (IntKind.wrap .u64 x) K:=zFR (by rw [IntKind.wrap_u64];omega) k
theorem set_pad (ds:List Nat) (m d:Nat):((ds++List.replicate (m+1) 0).map zBT).set ds.length (zBT d)=((ds++[d])++List.replicate m 0).map zBT:=by
 rw [zSk,<-List.map_set,zRv _ _ (zQU _),Nat.sub_self];simp
theorem pad_get (ds:List Nat) (m:Nat):((ds++List.replicate (m+1) 0).map zBT)[ds.length]?=some (zBT 0):=by
 rw [zQa,zQn (zQU _),Nat.sub_self,zSk];rfl
theorem Small.snoc {ds:List Nat} {d:Nat} (h:Small ds) (hd:d<4294967296):Small (ds++[d]):=by
 intro w hw;rcases zSE.1 hw with hw|hw
 ·exact h w hw
 ·rw [zQ1.1 hw];exact hd
section
variable {C:CSpec} {GT:Nat->Option AV}
theorem trim_ev (b m:Nat) (ws:List Nat) (H:Heap) (hm:ws.length=m) (hb:H[b]?=some (.row 1 (ws.map zBT))) (hw:Small ws) (hl:m<=1000000) :
  EFun C GT zGN [.sl (some false) b 1 0 m] H (.sl (some false) b 1 0 (wds (wval ws)).length) H:=by
 have hbl:b<H.length:=(zg hb).1;subst hm;have fin:∀ n:Nat,n<=ws.length->(wds (wval ws)).length=n->(.sl (some false) b 1 0 (wds (wval ws)).length:AV)=.sl (some false) b 1 0 n:=fun n _ h=>by rw [h]
 refine zI ?_;refine zHb ?_;refine zBB (fun n:Nat=>[(3,zK n),(0,.sl (some false) b 1 0 ws.length)]) (fun n H'=>H'=H/\n<=ws.length/\wval (ws.take n)=wval ws) (fun n=>n) ws.length rfl ⟨rfl,zQU _,by rw [zRs]⟩ (fun n H1 ⟨e,hn,hv⟩=>?_);subst e;dsimp only;have hsm:Small (ws.take n):=fun w h=>hw w (zR1 h);refine zEQ (fun h=>?_) (fun h=>?_)
 ·have h:0<n:=by have:=zQ2 h;omega
  have hi:n-1<ws.length:=by omega
  have hx:(ws.map zBT)[n-1]?=some (zBT ws[n-1]):=by rw [zQa,zQS hi];rfl
  have ht:ws.take n=ws.take (n-1)++[ws[n-1]]:=by
   have:=zSA hi
   rwa [Nat.sub_add_cancel h] at this
  refine zS (r:=n-1) tO tO<|sAt ⟨by omega,by omega⟩<|zBV (n-1) (zBT ws[n-1]) (zBT ws[n-1]) tO hb hx rfl<|zD ?_;refine zEQ (fun h0=>?_) (fun h0=>?_)
  ·have h0:ws[n-1]=0:=by have:=eq_of_beq h0;omega
   refine zS (r:=n-1) tO tO ?_;refine zAP (n-1) rfl ⟨rfl,by omega, ?_⟩ tO;rw [<-hv,ht,zE1,h0];simp
  ·have h0:ws[n-1]≠0:=fun e=>by rw [e] at h0;exact absurd h0 (by simp)
   have hd:wds (wval ws)=ws.take n:=by
    rw [<-hv];refine wds_val hsm fun w hw=>?_;rw [ht,List.getLast?_concat] at hw;cases hw;exact h0
   have e:=fin n hn (by rw [hd,zQk];omega);refine zy (sl_take hn) ?_;exact zID e rfl rfl (by simp only [zEE];rw [zQQ hbl]) (by simp only [AV.bel];exact zQj hbl) (Old.refl _)
 ·have h:n=0:=by have:=zRA h;omega
  subst h;have e:=fin 0 hn (by rw [<-hv];rfl);refine zG<|zG<|zy (sl_take hn) ?_
  exact zID e rfl rfl (by simp only [zEE];rw [zQQ hbl]) (by simp only [AV.bel];exact zQj hbl) (Old.refl _)
theorem words_ev (hT:∀ b m ws H,ws.length=m->H[b]?=some (.row 1 (ws.map zBT))->Small ws->m<=1000000->C zAE [.sl (some false) b 1 0 m] H (.sl (some false) b 1 0 (wds (wval ws)).length) H)
  (x:Nat) (hx:x<18446744073709551616) (H:Heap):EFun C GT zFn [u64V x] H (zFL x) H:=by
 have hb:(H++[ABlk.row 1 [zBT (x%4294967296),zBT (x/4294967296)]])[H.length]?=some (.row 1 (([x%4294967296,x/4294967296]:List Nat).map zBT)):=zB;have hw:Small [x%4294967296,x/4294967296]:=by
  intro w hw;simp at hw;omega
 have hv:wval [x%4294967296,x/4294967296]=x:=by simp only [wval];omega
 have ht:=hT H.length 2 [x%4294967296,x/4294967296] _ rfl hb hw tO;rw [hv] at ht;refine zI ?_;refine zNK (x%4294967296) tO<|zy (shr32 x)<|zNK (x/4294967296) tO<|zAW (vs':=[zBT (x%4294967296),zBT (x/4294967296)]) rfl rfl<|zM (ht) ?_
 exact sRetF rfl rfl (zP7 (zQU _) hb hw hv) rfl (((Old.refl H).push _).set (zQU _) _)
structure SAd where
 i:Nat
 c:Nat
 ds:List Nat
section
variable (hT:∀ b m ws H,ws.length=m->H[b]?=some (.row 1 (ws.map zBT))->Small ws->m<=1000000->C zAE [.sl (some false) b 1 0 m] H (.sl (some false) b 1 0 (wds (wval ws)).length) H) (av bv:AV)
include hT av bv
theorem add_tail (x y n:Nat) (H:Heap) (ha:Mag av x) (hb:Mag bv y) (hn:(wds x).length=n) (hle:(wds y).length<=n) (hl:n<=100000) :
  EW C GT (zGx.behind 2) (finF zEw H (zFL (x+y)) H) [(1,bv),(0,av)] H:=by
 have hal:((wds x).map zBT).length=n:=by rw [zQW,hn]
 refine zBC n ha hal<|zS (r:=n+1) rfl tO<|sMake (n:=n+1) rfl (Int.le_refl _) ⟨by omega,by omega⟩ rfl ?_;refine zBB (fun s:SAd=>[(7,zK s.i),(5,.sl (some false) H.length 1 0 (n+1)),(1,bv),(0,av),(6,u64V s.c)])
  (fun s H'=>Old H H'/\s.ds.length=s.i/\s.i<=n/\Small s.ds/\s.c<=1/\H'[H.length]?=some (.row 1 ((s.ds++List.replicate (n+1-s.i) 0).map zBT))/\wval s.ds+4294967296^s.i*s.c=wval ((wds x).take s.i)+wval ((wds y).take s.i)) (fun s=>n-s.i) ⟨0,0,[]⟩ rfl
  ⟨(Old.refl _).push _,rfl,zRG _,(fun w hw=>by cases hw),zRG _,by rw [zRC,zSr,zSt];exact zB,rfl⟩ (fun ⟨i,c,ds⟩ H1 ⟨hO,hd,hi,hsm,hc,hrow,hval⟩=>?_)
 simp only at hd hi hsm hc hrow hval;dsimp only;refine zBC n ha hal ?_;refine zEQ (fun h=>?_) (fun h=>?_)
 ·have h:i<n:=by have:=zQ2 h;omega
  have hx:i<(wds x).length:=by omega
  have hax:=zKp hx;have htx:=zED hx;have hsx:=zB0 x _ (zRV hx);obtain ⟨a,had⟩:∃ a,(wds x)[i]=a:=⟨_,rfl⟩;rw [had] at hax htx hsx;have hm:n+1-i=(n-i)+1:=by omega
  rw [hm] at hrow;have hget:=pad_get ds (n-i);have hset:=fun d=>set_pad ds (n-i) d;rw [hd] at hget hset;have hlen:ds.length=i:=hd;refine zE6 i (zBT a) ha rfl hax<|zA4 (zBT a) rfl<|zEA (r:=a) rfl tO<|zEA (r:=c+a) tO tO<|zBC (wds y).length hb (by simp) ?_;refine zEQ (fun h2=>?_) (fun h2=>?_)
  ·have h2:i<(wds y).length:=by have:=zQ2 h2;omega
   have hby:=zKp h2;have hty:=zED h2;have hsy:=zB0 y _ (zRV h2);obtain ⟨d,hdd⟩:∃ d,(wds y)[i]=d:=⟨_,rfl⟩;rw [hdd] at hby hty hsy;refine zE6 i (zBT d) hb rfl hby<|zA4 (zBT d) rfl<|zEA (r:=d) rfl tO<|zEA (r:=c+a+d) tO tO<|zNK ((c+a+d)%4294967296) tO<|sAt ⟨by omega,by omega⟩ ?_;refine zKb i (zBT ((c+a+d)%4294967296)) tO hrow hget rfl (by decide) rfl (fun cs h=>by cases h)<|zy (shr32 (c+a+d))<|zS (r:=i+1) rfl tO ?_;refine zAP (SAd.mk (i+1) ((c+a+d)/4294967296) (ds++[(c+a+d)%4294967296])) rfl ⟨hO.set (zQU _) _,by simp [hlen],by simp only;omega,hsm.snoc tO,by simp only;omega, ?_, ?_⟩ (by simp only;omega)
   ·rw [hset];have:n+1-(i+1)=n-i:=by omega
    simp only [this];exact zV hrow
   ·simp only [zE1,hlen,htx,hty,zRS];have e:(c+a+d)%4294967296+4294967296*((c+a+d)/4294967296)=c+a+d:=by omega
    have e2:4294967296^i*((c+a+d)%4294967296)+4294967296^i*4294967296*((c+a+d)/4294967296)=4294967296^i*c+4294967296^i*a+4294967296^i*d:=by
     rw [zR9,<-Nat.mul_add,e,zSM,zSM]
    omega
  ·have h2:(wds y).length<=i:=by have:=zRA h2;omega
   have hty:wval ((wds y).take (i+1))=wval ((wds y).take i):=by rw [zQ6 tO,zQ6 h2]
   refine zNK ((c+a)%4294967296) tO<|sAt ⟨by omega,by omega⟩<|zKb i (zBT ((c+a)%4294967296)) tO hrow hget rfl (by decide) rfl (fun cs h=>by cases h)<|zy (shr32 (c+a))<|zS (r:=i+1) rfl tO ?_;refine zAP (SAd.mk (i+1) ((c+a)/4294967296) (ds++[(c+a)%4294967296])) rfl ⟨hO.set (zQU _) _,by simp [hlen],by simp only;omega,hsm.snoc tO,by simp only;omega, ?_, ?_⟩ (by simp only;omega)
   ·rw [hset];have:n+1-(i+1)=n-i:=by omega
    simp only [this];exact zV hrow
   ·simp only [zE1,hlen,htx,hty,zRS];have e:(c+a)%4294967296+4294967296*((c+a)/4294967296)=c+a:=by omega
    have e2:4294967296^i*((c+a)%4294967296)+4294967296^i*4294967296*((c+a)/4294967296)=4294967296^i*c+4294967296^i*a:=by
     rw [zR9,<-Nat.mul_add,e,zSM]
    omega
 ·have h:i=n:=by have:=zRA h;omega
  subst h;have hm:i+1-i=0+1:=by omega
  rw [hm] at hrow;have hget:=pad_get ds 0;have hset:=fun d=>set_pad ds 0 d;rw [hd] at hget hset;rw [zQ6 tO,zQ6 tO,zE0,zE0,<-hd,<-zE1] at hval;have hsm2:Small (ds++[c]):=hsm.snoc tO;have hr2:(H1.set H.length (.row 1 ((ds++[c]).map zBT)))[H.length]?=some (.row 1 ((ds++[c]).map zBT)):=zV hrow;have hset2:((ds++List.replicate (0+1) 0).map zBT).set i (zBT c)=(ds++[c]).map zBT:=by rw [hset];simp
  have ht:=hT H.length (i+1) (ds++[c]) _ (by simp [hd]) hr2 hsm2 tO;rw [hval] at ht;rw [<-hset2] at ht hr2;refine zBC i ha hal<|zNK c tO<|sAt ⟨by omega,by omega⟩<|zKb i (zBT c) tO hrow hget rfl (by decide) rfl (fun cs h=>by cases h)<|zM ht ?_
  rw [hset2] at hr2;exact sRetF rfl rfl (zP7 (zQU _) (by rw [hset2];exact hr2) hsm2 hval) rfl ((hO.set (zQU _) _).set (zQU _) _)
theorem add_ev (x y:Nat) (H:Heap) (ha:Mag av x) (hb:Mag bv y) (h1:(wds x).length<=100000) (h2:(wds y).length<=100000):EFun C GT zEw [av,bv] H (zFL (x+y)) H:=by
 refine zI ?_;refine zBC (wds x).length ha (by simp)<|zBC (wds y).length hb (by simp) ?_;refine zEQ (fun h=>?_) (fun h=>?_)
 ·have h:(wds x).length<(wds y).length:=by have:=zQ2 h;omega
  rw [zSO x y];refine sTail rfl (add_tail hT bv av y x _ H hb ha rfl tO h2) ?_;rfl
 ·have h:(wds y).length<=(wds x).length:=by have:=zRA h;omega
  refine sTail rfl (add_tail hT av bv x y _ H ha hb rfl h h1) ?_;rfl
theorem sub_ev (x y n:Nat) (H:Heap) (ha:Mag av x) (hb:Mag bv y) (hyx:y<=x) (hn:(wds x).length=n) (hl:n<=100000):EFun C GT zGz [av,bv] H (zFL (x-y)) H:=by
 have hal:((wds x).map zBT).length=n:=by rw [zQW,hn]
 have hle:(wds y).length<=n:=by rw [<-hn];exact zNj hyx
 refine zI ?_;refine zBC n ha hal<|sMake (n:=n) rfl (Int.le_refl _) ⟨by omega,by omega⟩ rfl ?_;refine zBB (fun s:SAd=>[(7,zK s.i),(5,.sl (some false) H.length 1 0 n),(1,bv),(6,u64V s.c),(0,av)])
  (fun s H'=>Old H H'/\s.ds.length=s.i/\s.i<=n/\Small s.ds/\s.c<=1/\H'[H.length]?=some (.row 1 ((s.ds++List.replicate (n-s.i) 0).map zBT))/\wval s.ds+wval ((wds y).take s.i)=wval ((wds x).take s.i)+4294967296^s.i*s.c) (fun s=>n-s.i) ⟨0,0,[]⟩ rfl
  ⟨(Old.refl _).push _,rfl,zRG _,(fun w hw=>by cases hw),zRG _,by rw [zRC,zSr,zSt];exact zB,rfl⟩ (fun ⟨i,c,ds⟩ H1 ⟨hO,hd,hi,hsm,hc,hrow,hval⟩=>?_)
 simp only at hd hi hsm hc hrow hval;dsimp only;refine zBC n ha hal ?_;refine zEQ (fun h=>?_) (fun h=>?_)
 ·have h:i<n:=by have:=zQ2 h;omega
  have hx:i<(wds x).length:=by omega
  have hax:=zKp hx;have htx:=zED hx;have hsx:=zB0 x _ (zRV hx);obtain ⟨a,had⟩:∃ a,(wds x)[i]=a:=⟨_,rfl⟩;rw [had] at hax htx hsx;obtain ⟨m,hm⟩:∃ m,n-i=m+1:=⟨n-i-1,by omega⟩;rw [hm] at hrow;have hget:=pad_get ds m;have hset:=fun d=>set_pad ds m d;rw [hd] at hget hset;have hlen:ds.length=i:=hd;refine zE6 i (zBT a) ha rfl hax<|zA4 (zBT a) rfl<|zEA (r:=a) rfl tO<|sWu64 ((((a:Int)-c)%18446744073709551616).toNat) tO<|zBC (wds y).length hb (by simp) ?_
  have next:∀ (e d c':Nat),(e:Int)=(a:Int)-c'-c\/True->True:=fun _ _ _ _=>trivial;refine zEQ (fun h2=>?_) (fun h2=>?_)
  ·have h2:i<(wds y).length:=by have:=zQ2 h2;omega
   have hby:=zKp h2;have hty:=zED h2;have hsy:=zB0 y _ (zRV h2);obtain ⟨d,hdd⟩:∃ d,(wds y)[i]=d:=⟨_,rfl⟩;rw [hdd] at hby hty hsy;obtain ⟨D,hD⟩:∃ D:Nat,(((a:Int)-c-d)%18446744073709551616)=D:=⟨(((a:Int)-c-d)%18446744073709551616).toNat,by omega⟩;refine zE6 i (zBT d) hb rfl hby<|zA4 (zBT d) rfl<|zEA (r:=d) rfl tO<|sWu64 D tO<|zNK (D%4294967296) tO<|sAt ⟨by omega,by omega⟩ ?_;refine zKb i (zBT (D%4294967296)) tO hrow hget rfl (by decide) rfl (fun cs h=>by cases h)<|zy (shr63 D)<|zS (r:=i+1) rfl tO ?_;refine zAP (SAd.mk (i+1) (D/9223372036854775808) (ds++[D%4294967296])) rfl ⟨hO.set (zQU _) _,by simp [hlen],by simp only;omega,hsm.snoc tO,by simp only;omega, ?_, ?_⟩ (by simp only;omega)
   ·rw [hset];have:n-(i+1)=m:=by omega
    simp only [this];exact zV hrow
   ·simp only [zE1,hlen,htx,hty,zRS];have e:D%4294967296+c+d=a+4294967296*(D/9223372036854775808):=by omega
    have e2:4294967296^i*(D%4294967296)+4294967296^i*c+4294967296^i*d=4294967296^i*a+4294967296^i*4294967296*(D/9223372036854775808):=by
     rw [zR9,<-Nat.mul_add,<-Nat.mul_add,e,zSM]
    omega
  ·have h2:(wds y).length<=i:=by have:=zRA h2;omega
   have hty:wval ((wds y).take (i+1))=wval ((wds y).take i):=by rw [zQ6 tO,zQ6 h2]
   obtain ⟨D,hD⟩:∃ D:Nat,(((a:Int)-c)%18446744073709551616).toNat=D:=⟨_,rfl⟩;rw [hD];refine zNK (D%4294967296) tO<|sAt ⟨by omega,by omega⟩<|zKb i (zBT (D%4294967296)) tO hrow hget rfl (by decide) rfl (fun cs h=>by cases h)<|zy (shr63 D)<|zS (r:=i+1) rfl tO ?_;refine zAP (SAd.mk (i+1) (D/9223372036854775808) (ds++[D%4294967296])) rfl ⟨hO.set (zQU _) _,by simp [hlen],by simp only;omega,hsm.snoc tO,by simp only;omega, ?_, ?_⟩ (by simp only;omega)
   ·rw [hset];have:n-(i+1)=m:=by omega
    simp only [this];exact zV hrow
   ·simp only [zE1,hlen,htx,hty,zRS];have e:D%4294967296+c=a+4294967296*(D/9223372036854775808):=by omega
    have e2:4294967296^i*(D%4294967296)+4294967296^i*c=4294967296^i*a+4294967296^i*4294967296*(D/9223372036854775808):=by
     rw [zR9,<-Nat.mul_add,<-Nat.mul_add,e]
    omega
 ·have h:i=n:=by have:=zRA h;omega
  subst h;rw [Nat.sub_self,zSl,zRk] at hrow;rw [zQ6 tO,zQ6 tO,zE0,zE0] at hval;have hv:wval ds=x-y:=by
   have h1:=wval_lt hsm;rw [hd] at h1;have hc0:c=0:=by
    rcases zST c with h|h
    ·exact h
    ·have hc1:c=1:=by omega
     rw [hc1,zSh] at hval;omega
   rw [hc0] at hval;omega
  have ht:=hT H.length i ds _ hd hrow hsm tO;rw [hv] at ht;refine zM ht ?_;exact sRetF rfl rfl (zP7 (zQU _) hrow hsm hv) rfl (hO.set (zQU _) _)
end
def cmpN (x y:Nat):Int:=if x<y then -1 else if x=y then 0 else 1
theorem cmpN_lt {x y:Nat} (h:x<y):cmpN x y=-1:=zQQ h
theorem cmpN_eq (x:Nat):cmpN x x=0:=by unfold cmpN;rw [zQN tO,zQQ rfl]
theorem cmpN_gt {x y:Nat} (h:y<x):cmpN x y=1:=by unfold cmpN;rw [zQN tO,zQN tO]
theorem bcmp_ev (av bv:AV) (x y:Nat) (H:Heap) (ha:Mag av x) (hb:Mag bv y) (h1:(wds x).length<=100000) (h2:(wds y).length<=100000):EFun C GT zGy [av,bv] H (zJ (cmpN x y)) H:=by
 refine zI ?_;refine zBC (wds x).length ha (by simp)<|zBC (wds y).length hb (by simp) ?_;refine zEQ (fun h=>?_) (fun h=>?_)
 ·have h:(wds x).length≠(wds y).length:=by simp only [zQ8,ne_eq] at h;omega
  refine zBC (wds x).length ha (by simp)<|zBC (wds y).length hb (by simp) ?_;refine zEQ (fun h2=>?_) (fun h2=>?_)
  ·have h2:(wds x).length<(wds y).length:=by have:=zQ2 h2;omega
   rw [cmpN_lt (zNG h2)];exact sRr
  ·have h2:(wds y).length<(wds x).length:=by have:=zRA h2;omega
   rw [cmpN_gt (zNG h2)];exact sRr
 have h:(wds x).length=(wds y).length:=by simp only [zQo] at h;omega
 have key:∀ (e:Int),cmpN x y=e->True:=fun _ _=>trivial;refine zBC (wds x).length ha (by simp)<|sW64 ⟨by omega,by omega⟩ ?_;refine zBB (fun k:Nat=>[(5,zJ ((k:Int)-1)),(1,bv),(0,av)]) (fun k H'=>H'=H/\k<=(wds x).length/\(wds x).drop k=(wds y).drop k) (fun k=>k) (wds x).length rfl
  ⟨rfl,zQU _,by rw [List.drop_length,h,List.drop_length]⟩ (fun k H1 ⟨e,hk,hd⟩=>?_)
 subst e;dsimp only;refine zEQ (fun h3=>?_) (fun h3=>?_)
 ·have h3:1<=k:=by have:=zQ2 h3;omega
  obtain ⟨i,rfl⟩:∃ i,k=i+1:=⟨k-1,by omega⟩;have hx:i<(wds x).length:=by omega
  have hy:i<(wds y).length:=by omega
  have hax:=zKp hx;have hby:=zKp hy;have hsx:=zB0 x _ (zRV hx);have hsy:=zB0 y _ (zRV hy);have top1:=fun hlt=>cmp_top (zB0 x) (zB0 y) h hx hd hlt;have top2:=fun hlt=>cmp_top (zB0 y) (zB0 x) h.symm hy hd.symm hlt;rw [zE0,zE0] at top1 top2;have hdx:(wds x).drop i=(wds x)[i]::(wds x).drop (i+1):=(zSW hx).symm;have hdy:(wds y).drop i=(wds y)[i]::(wds y).drop (i+1):=(zSW hy).symm;generalize (wds x)[i]=a at *;generalize (wds y)[i]=d at *;refine zE6 i (zBT a) ha tO hax<|zA4 (zBT a) rfl<|zE6 i (zBT d) hb tO hby<|zA4 (zBT d) rfl ?_;refine zEQ (fun h4=>?_) (fun h4=>?_)
  ·have h4:a≠d:=by simp only [zQ8,ne_eq] at h4;omega
   refine zE6 i (zBT a) ha tO hax<|zA4 (zBT a) rfl<|zE6 i (zBT d) hb tO hby<|zA4 (zBT d) rfl ?_;refine zEQ (fun h5=>?_) (fun h5=>?_)
   ·have h5:a<d:=by have:=zQ2 h5;omega
    rw [cmpN_lt (top1 h5)];exact sRr
   ·have h5:d<a:=by have:=zRA h5;omega
    rw [cmpN_gt (top2 h5)];exact sRr
  ·have h4:a=d:=by simp only [zQo] at h4;omega
   refine sW64 ⟨by omega,by omega⟩ ?_;refine zAP i ?_ ⟨rfl,by omega,by rw [hdx,hdy,h4,hd]⟩ tO;have:((i+1:Nat):Int)-1-1=(i:Int)-1:=by omega
   simp only [<-this];rfl
 ·have h3:k=0:=by have:=zRA h3;omega
  subst h3;have e:x=y:=by
   rw [<-zE0 x,<-zE0 y];simp only [zSN] at hd;rw [hd]
  rw [e,cmpN_eq];exact sRr
def sumS (xn:Bool) (x:Nat) (yn:Bool) (y:Nat):Bool×Nat:=if xn=yn then (xn,x+y) else if y<=x then (xn,x-y) else (yn,y-x)
theorem bsum_ev (hA:∀ av bv x y H,Mag av x->Mag bv y->(wds x).length<=100000->(wds y).length<=100000->C zDU [av,bv] H (zFL (x+y)) H)
  (hS:∀ av bv x y H,Mag av x->Mag bv y->y<=x->(wds x).length<=100000->C zCG [av,bv] H (zFL (x-y)) H)
  (hC:∀ av bv x y H,Mag av x->Mag bv y->(wds x).length<=100000->(wds y).length<=100000->C zDV [av,bv] H (zJ (cmpN x y)) H)
  (av bv:AV) (xn yn:Bool) (x y:Nat) (H:Heap) (ha:Mag av x) (hb:Mag bv y) (h1:(wds x).length<=100000) (h2:(wds y).length<=100000) :
  EFun C GT zGw [.bool xn,av,.bool yn,bv] H (.tup [.bool (sumS xn x yn y).1,zFL (sumS xn x yn y).2]) H:=by
 obtain ⟨r,hr⟩:∃ r,sumS xn x yn y=r:=⟨_,rfl⟩;rw [hr];unfold sumS at hr;have c1:=hA av bv x y H ha hb h1 h2;have c2:=hC av bv x y H ha hb h1 h2;refine zI ?_;by_cases he:xn=yn
 ·rw [zQQ he] at hr;subst hr;subst he;cases xn
  ·refine zD<|zM (c1) ?_
   exact sRr
  ·refine zD<|zM (c1) ?_
   exact sRr
 rw [zQN he] at hr;by_cases hle:y<=x
 ·rw [zQQ hle] at hr;subst hr;have c3:=hS av bv x y H ha hb hle h1;have hg:decide (cmpN x y>=0)=true:=by unfold cmpN;rw [zQN tO];split <;> rfl
  cases xn <;> cases yn <;> first|exact absurd rfl he|skip
  all_goals
   refine zG<|zM (c2) ?_;refine zEQ (fun _=>?_) (fun h=>absurd (hg.symm.trans h) (by simp))
   refine zM (c3) ?_;exact sRr
 ·rw [zQN hle] at hr;subst hr;have c3:=hS bv av y x H hb ha tO h2;have hg:decide (cmpN x y>=0)=false:=by unfold cmpN;rw [zQQ tO];rfl
  cases xn <;> cases yn <;> first|exact absurd rfl he|skip
  all_goals
   refine zG<|zM (c2) ?_;refine zEQ (fun h=>absurd (hg.symm.trans h) (by simp)) (fun _=>?_)
   refine zM (c3) ?_;exact sRr
end
end Go.AM
set_option maxRecDepth 20000
namespace Go.AM
def zF5 (v:Int):List AV:=[.bool (decide (v<0)),zFL v.natAbs]
theorem wds_get:∀ (n q:Nat),q<(wds n).length->(wds n)[q]?=some (n/4294967296^q%4294967296):=by
 intro n;induction n using Nat.strongRecOn with
 |ind n ih=>
  intro q hq;have hn:n≠0:=fun e=>by subst e;simp [zEz] at hq
  rw [zDC hn] at hq ⊢;cases q with
  |zero=>simp
  |succ q=>
   rw [zSG,ih _ tO q (by simpa using hq),zSX,zRS,zRj 4294967296]
theorem B_pow (q:Nat):4294967296^q=2^(32*q):=by rw [Nat.pow_mul]
theorem bit_of_word (m i:Nat):m/4294967296^(i/32)%4294967296/2^(i%32)%2=m/2^i%2:=by
 have hr:i%32<32:=Nat.mod_lt _ tO;obtain ⟨k,hk⟩:∃ k,32=i%32+(k+1):=⟨31-i%32,by omega⟩;have e1:(4294967296:Nat)=2^(i%32)*2^(k+1):=by rw [<-Nat.pow_add,<-hk]
 have e2:m/4294967296^(i/32)%4294967296/2^(i%32)=m/4294967296^(i/32)/2^(i%32)%2^(k+1):=by
  conv=>lhs;lhs;rhs;rw [e1]
  rw [Nat.mod_mul_right_div_self]
 rw [e2,Nat.mod_mod_of_dvd _ (by rw [zRS];exact Nat.dvd_mul_left 2 _),B_pow,zSX,<-Nat.pow_add];have:32*(i/32)+i%32=i:=Nat.div_add_mod i 32;rw [this]
theorem bit_high {m i:Nat} (h:(wds m).length<=i/32):m/2^i%2=0:=by
 have h1:=wds_lt m;have h2:4294967296^(wds m).length<=4294967296^(i/32):=zRd tO h;rw [B_pow (i/32)] at h2;have h3:2^(32*(i/32))<=2^i:=zRd tO tO;rw [Nat.div_eq_of_lt tO]
theorem bits_shift:∀ k n:Nat,n/2^k≠0->bits n=bits (n/2^k)+k
 |0,n,_=>by simp
 |k+1,n,h=>by
  have hn:n≠0:=fun e=>by subst e;simp at h
  have e:n/2^(k+1)=n/2/2^k:=by rw [zSX,zRS,zRj]
  rw [e] at h ⊢;rw [zOe hn,bits_shift k (n/2) h];omega
theorem bits_top:∀ (m k:Nat),(wds m).length=k+1->bits m=k*32+bits (m/4294967296^k%4294967296):=by
 intro m;induction m using Nat.strongRecOn with
 |ind m ih=>
  intro k hk;have hm:m≠0:=fun e=>by subst e;simp [zEz] at hk
  rw [zDC hm,zQO] at hk;by_cases h2:m/4294967296=0
  ·rw [h2,zEz] at hk;have:k=0:=by simpa using hk.symm
   subst this;rw [Nat.pow_zero,Nat.div_one,zSf tO];omega
  ·have h3:(wds (m/4294967296)).length≠0:=by rw [zDC h2];simp
   obtain ⟨j,rfl⟩:∃ j,k=j+1:=⟨k-1,by omega⟩;have h4:=ih (m/4294967296) tO j tO;have h5:=bits_shift 32 m (by simpa using h2);have e:(2:Nat)^32=4294967296:=by decide
   rw [e] at h5;rw [h5,h4,zSX,zRS,zRj 4294967296];omega
theorem tz_exists:∀ m:Nat,m≠0->∃ n,m%2^n=0/\m/2^n%2=1:=by
 intro m;induction m using Nat.strongRecOn with
 |ind m ih=>
  intro h;by_cases ho:m%2=1
  ·exact ⟨0,by simp [Nat.mod_one],by simpa using ho⟩
  ·obtain ⟨n,h1,h2⟩:=ih (m/2) tO tO;refine ⟨n+1, ?_, ?_⟩
   ·rw [zRS,zRj,Nat.mod_mul,h1];omega
   ·rw [zRS,zRj,<-Nat.div_div_eq_div_mul];exact h2
theorem tz_low {m n k:Nat} (h:m%2^n=0) (hk:k<n):m/2^k%2=0:=by
 obtain ⟨c,rfl⟩:=Nat.dvd_of_mod_eq_zero h;obtain ⟨j,rfl⟩:∃ j,n=k+(j+1):=⟨n-k-1,by omega⟩;rw [Nat.pow_add,zR9,Nat.mul_div_cancel_left _ (Nat.two_pow_pos k),zRS,zRj (2^j) 2,zR9,Nat.mul_mod_right]
theorem tz_63 {m:Nat} (h:m<18446744073709551616) (h1:m%2^63=0) (h2:m/2^63%2=1):m=9223372036854775808:=by
 have e:(2:Nat)^63=9223372036854775808:=by decide
 rw [e] at h1 h2;omega
theorem shrN (w r:Nat) (h:r<=32):zDl .shr .u32 (w:Int) (r:Int)=some (.int .u32 ((w/2^r:Nat):Int)):=by
 simp only [zDl];rw [zQN tO];have e:Nat.min (r:Int).toNat IntKind.u32.bits=r:=by
  rw [zQy];exact zR6 h
 have e2:((2:Int)^r)=((2^r:Nat):Int):=by simp
 rw [e,e2,zSg _ (zS9 _)];rfl
theorem shr1w (w:Nat):zDl .shr .u32 (w:Int) 1=some (.int .u32 ((w/2:Nat):Int)):=by
 have:=shrN w 1 tO;simpa using this
theorem and1 (a:Nat) (h:a<18446744073709551616):zIn .and .u64 (a:Int) 1=some (.int .u64 ((a%2:Nat):Int)):=by
 simp only [zIn];have e:(BitVec.ofInt IntKind.u64.bits (a:Int) &&& BitVec.ofInt IntKind.u64.bits 1).toNat=a%2:=by
  rw [BitVec.toNat_and];have h1:(BitVec.ofInt IntKind.u64.bits (a:Int)).toNat=a:=by
   show (BitVec.ofInt 64 (a:Int)).toNat=a;rw [BitVec.toNat_ofInt];have:((a:Int)%((2^64:Nat):Int))=(a:Int):=by rw [Int.emod_eq_of_lt tO (by simp;omega)]
   rw [this,zQy]
  have h2:(BitVec.ofInt IntKind.u64.bits 1).toNat=1:=by decide
  rw [h1,h2,Nat.and_one_is_mod]
 rw [e,IntKind.wrap_u64];have:((a%2:Nat):Int)%18446744073709551616=((a%2:Nat):Int):=by omega
 rw [this]
theorem shl32 (a:Nat) (h:a<4294967296):zDl .shl .u64 (a:Int) 32=some (.int .u64 ((a*4294967296:Nat):Int)):=by
 simp only [zDl];rw [zQN tO];have:(2:Int)^Nat.min (32:Int).toNat IntKind.u64.bits=4294967296:=by rfl
 rw [this,IntKind.wrap_u64];have:((a:Int)*4294967296)%18446744073709551616=((a*4294967296:Nat):Int):=by omega
 rw [this]
theorem or32 (a b:Nat) (ha:a<4294967296) (hb:b<4294967296):zIn .or .u64 (a:Int) ((b*4294967296:Nat):Int)=some (.int .u64 ((a+4294967296*b:Nat):Int)):=by
 simp only [zIn];have of (x:Nat) (hx:x<18446744073709551616):(BitVec.ofInt IntKind.u64.bits (x:Int)).toNat=x:=by
  show (BitVec.ofInt 64 (x:Int)).toNat=x;rw [BitVec.toNat_ofInt];have:((x:Int)%((2^64:Nat):Int))=(x:Int):=by rw [Int.emod_eq_of_lt tO (by simp;omega)]
  rw [this,zQy]
 have e:(BitVec.ofInt IntKind.u64.bits (a:Int) ||| BitVec.ofInt IntKind.u64.bits ((b*4294967296:Nat):Int)).toNat=a+4294967296*b:=by
  rw [BitVec.toNat_or,of a tO,of _ tO,Nat.or_comm,zRj b];have:=Nat.two_pow_add_eq_or_of_lt (i:=32) (b:=a) (by simpa using ha) b;have e32:(2:Nat)^32=4294967296:=by decide
  rw [e32] at this;rw [<-this];omega
 rw [e,IntKind.wrap_u64];have:((a+4294967296*b:Nat):Int)%18446744073709551616=((a+4294967296*b:Nat):Int):=by omega
 rw [this]
theorem zP8 {F:AF} {H H1:Heap} {fr:Fr} {v:AV} {b:Nat} {cs:List AV} (hH:H1=H.set b (.box cs)) (hk:F.keep=false) (hr:(zBa fr H1 F.results).map tupled=some v) (hf:zEE H.length v H1=some (v,H1)) (hb:v.bel H.length=true) (hc:zHT H.length (.box cs)=true) :
  retP F H fr H1 v (H.set b (.box cs)):=by
 refine sRet ?_;unfold zHU;cases hs:zBa fr H1 F.results with
 |none=>rw [hs] at hr;cases hr
 |some vs=>
  rw [hs] at hr;simp only [zQg,zQT] at hr;subst hr;simp only [hk,hf,zQY,zQt];subst hH;refine ⟨hb,fun c hc'=>?_,trivial, ?_⟩
  ·by_cases e:b=c
   ·subst e;exact .inr ⟨_,zQr hc',hc⟩
   ·exact .inl (zQw e)
  ·rw [zQ6 (by rw [zQZ];omega)]
theorem zLF {F:AF} {H H1:Heap} {fr:Fr} {v:AV} (hk:F.keep=true) (hr:(zBa fr H1 F.results).map tupled=some v):retP F H fr H1 v H1:=by
 refine sRet ?_;unfold zHU;cases hs:zBa fr H1 F.results with
 |none=>rw [hs] at hr;cases hr
 |some vs=>
  rw [hs] at hr;simp only [zQg,zQT] at hr;subst hr;simp only [hk,zQz];exact ⟨trivial,trivial⟩
section
variable {C:CSpec} {GT:Nat->Option AV}
theorem bit_ev (av:AV) (m i:Nat) (H:Heap) (ha:Mag av m) (hl:(wds m).length<=100000) (hi:i<=1000000):EFun C GT zG0 [av,zJ i] H (u64V (m/2^i%2)) H:=by
 obtain ⟨r,hr⟩:∃ r,m/2^i%2=r:=⟨_,rfl⟩;have hd:(i:Int).tdiv 32=((i/32:Nat):Int):=(Int.ofNat_tdiv i 32).symm;rw [hr];refine zI<|sX ?_;refine zBA (by decide)<|zS (r:=i/32) hd tO<|zBC (wds m).length ha (by simp)<|sX ?_;refine zEQ (fun h=>?_) (fun h=>?_)
 ·have h:(wds m).length<=i/32:=by have:=zQ2 h;omega
  rw [bit_high h] at hr;subst hr;exact sRv
 ·have h:i/32<(wds m).length:=by have:=zRA h;omega
  have hg:=zKp h;have hw:=zB0 m _ (zRV h);have he:=wds_get m (i/32) h;rw [zQS h] at he;have he:=zQl he;have hb:=bit_of_word m i;rw [<-he,hr] at hb;generalize (wds m)[i/32]=w at *;have hw2:w/2^(i%32)<=w:=Nat.div_le_self _ _;have hm:(i:Int).tmod 32=((i%32:Nat):Int):=(Int.ofNat_tmod i 32).symm;subst hb;refine zBA (by decide)<|zS (r:=i/32) hd tO<|zE6 (i/32) (zBT w) ha rfl hg<|sX ?_;refine zEA (r:=i) rfl tO<|zBA (by decide)<|zFR (r:=((i%32:Nat):Int)) hm<|zy (shrN w (i%32) tO)<|zEA (r:=w/2^(i%32)) rfl tO<|zy (and1 (w/2^(i%32)) tO) ?_
  exact sRv
theorem tzb_ev (hB:∀ (av:AV) (m i:Nat) (H:Heap),Mag av m->(wds m).length<=100000->i<=1000000->C zDW [av,zJ i] H (u64V (m/2^i%2)) H) (b m n:Nat) (x av:AV) (H:Heap) (hb:H[b]?=some (.box [x,av])) (ha:Mag av m) (h0:m≠0) (hl:(wds m).length<=100) (hn:n<=10000) (h1:m%2^n=0) (h2:m/2^n%2=1) :
  EFun C GT zBm [.ref b 0 0 0] H (u64V n) H:=by
 have hlz:(wds m).length≠0:=by rw [zDC h0];simp
 refine zI<|sX ?_;refine zBC (wds m).length ha (by simp) ?_;refine zEQ (fun h=>absurd (eq_of_beq h) tO) (fun _=>?_)
 refine zBB (fun k:Nat=>[(3,u64V k),(0,.ref b 0 0 0)]) (fun k H'=>H'=H/\k<=n) (fun k=>n-k) 0 rfl ⟨rfl,zRG _⟩ (fun k H1 ⟨e,hk⟩=>?_);subst e;dsimp only;have hbk:=hB av m k H1 ha tO tO;by_cases hkn:k=n
 ·subst hkn;rw [h2] at hbk;refine sX ?_;refine zS (r:=k) rfl tO<|sX ?_
  exact sRv
 ·rw [tz_low h1 (by omega:k<n)] at hbk;refine sX ?_;refine zS (r:=k) rfl tO<|sX ?_;refine zEA (r:=k+1) rfl tO ?_
  exact zAP (k+1) rfl ⟨rfl,by omega⟩ tO
structure SLe where
 t:Nat
 n:Nat
theorem length_ev (av:AV) (m:Nat) (H:Heap) (ha:Mag av m) (hl:(wds m).length<=1000):EFun C GT zFW [av] H (zK (bits m)) H:=by
 obtain ⟨r,hr⟩:∃ r,bits m=r:=⟨_,rfl⟩;rw [hr];refine zI<|zBC (wds m).length ha (by simp) ?_;refine zEQ (fun h=>?_) (fun h=>?_)
 ·have h:(wds m).length=0:=by have:=eq_of_beq h;omega
  have h0:m=0:=by
   by_cases e:m=0
   ·exact e
   ·rw [zDC e] at h;simp at h
  subst h0;subst hr;exact sRv
 ·have h:(wds m).length≠0:=fun e=>by rw [e] at h;exact absurd h (by simp)
  obtain ⟨k,hk⟩:∃ k,(wds m).length=k+1:=⟨(wds m).length-1,by omega⟩;have hlt:k<(wds m).length:=by omega
  have hg:=zKp hlt;have he:=wds_get m k hlt;rw [zQS hlt] at he;have he:=zQl he;have ht:=bits_top m k hk;rw [<-he,hr] at ht;have hw:=zB0 m _ (zRV hlt);generalize (wds m)[k]=w at *;have hbw:bits w<=32:=(bits_le 32 w).2 hw;refine zBC (k+1) ha (by simp [hk])<|zS (r:=k) tO tO<|sX ?_;refine zBB (fun s:SLe=>[(4,zBT s.t),(3,zK s.n),(0,av)]) (fun s H'=>H'=H/\s.n+bits s.t=bits w) (fun s=>s.t) ⟨w,0⟩ rfl ⟨rfl,by simp⟩ (fun ⟨t,n⟩ H1 ⟨e,hn⟩=>?_)
  subst e;simp only at hn;dsimp only;refine zEQ (fun hc=>?_) (fun hc=>?_)
  ·have hc:t≠0:=fun e=>by rw [e] at hc;exact absurd hc (by simp)
   rw [zOe hc] at hn;refine zS (r:=n+1) rfl tO<|zy (shr1w t) ?_
   exact zAP (SLe.mk (t/2) (n+1)) rfl ⟨rfl,by simp only;omega⟩ (by simp only;omega)
  ·have hc:t=0:=by simp only [zQo] at hc;omega
   subst hc;have hz:bits 0=0:=rfl;rw [hz] at hn;have hn':n=bits w:=by omega
   subst hn';subst ht;refine zBC (k+1) ha (by simp [hk])<|zS (r:=k) tO tO<|zS (r:=k*32) tO tO<|zS (r:=k*32+bits w) tO tO ?_
   exact sRv
theorem uint64_ev (b m:Nat) (x av:AV) (H:Heap) (hb:H[b]?=some (.box [x,av])) (ha:Mag av m) (hm:m<18446744073709551616):EFun C GT zDx [.ref b 0 0 0] H (u64V m) H:=by
 refine zI ?_;by_cases h0:m=0
 ·subst h0;refine sW ?_;refine zBC 0 ha rfl<|sW ?_;refine zBC 0 ha rfl<|sW ?_
  exact sRr
 have hw:wds m=(m%4294967296)::wds (m/4294967296):=zDC h0;by_cases h1:m/4294967296=0
 ·rw [h1,zEz] at hw;have hm':m%4294967296=m:=by omega
  rw [hm'] at hw;have ha':zDa av 1 [zBT m]:=by unfold Mag at ha;rw [hw] at ha;exact ha
  refine sX ?_;refine zBC 1 ha' rfl<|sX ?_;refine zE6 0 (zBT m) ha' rfl rfl<|sX ?_;refine zEA (r:=m) rfl tO<|sX ?_;refine zBC 1 ha' rfl<|sX ?_
  exact sRv
 ·have hw2:wds (m/4294967296)=[m/4294967296]:=by
   rw [zDC h1];have e1:m/4294967296/4294967296=0:=by omega
   have e2:m/4294967296%4294967296=m/4294967296:=by omega
   rw [e1,e2,zEz]
  rw [hw2] at hw;have ha':zDa av 1 [zBT (m%4294967296),zBT (m/4294967296)]:=by unfold Mag at ha;rw [hw] at ha;exact ha
  have e:m%4294967296+4294967296*(m/4294967296)=m:=by omega
  have hor:=or32 (m%4294967296) (m/4294967296) tO tO;rw [e] at hor;refine sX ?_;refine zBC 2 ha' rfl<|sX ?_;refine zE6 0 (zBT (m%4294967296)) ha' rfl rfl<|sX ?_;refine zEA (r:=m%4294967296) rfl tO<|sX ?_;refine zBC 2 ha' rfl<|sX ?_;refine zE6 1 (zBT (m/4294967296)) ha' rfl rfl<|sX ?_;refine zEA (r:=m/4294967296) rfl tO<|zy (shl32 (m/4294967296) tO)<|zy hor ?_
  exact sRr
theorem int64_ev (hU:∀ b m x av H,H[b]?=some (.box [x,av])->Mag av m->m<18446744073709551616->C zBM [.ref b 0 0 0] H (u64V m) H) (b:Nat) (v:Int) (H:Heap) (hb:H[b]?=some (.box (zF5 v))) (hv:zEC v) :
  EFun C GT zD7 [.ref b 0 0 0] H (zJ v) H:=by
 unfold zEC at hv;have hu:=hU b v.natAbs _ _ H hb (zGR _) tO;unfold zF5 at hb;refine zI ?_;by_cases hn:v<0
 ·rw [zQj hn] at hb;have e:aUn .neg (.int .i64 (if v=-9223372036854775808 then v else -v))=some (zJ v):=by
   simp only [aUn];rw [IntKind.wrap_i64];by_cases h:v=-9223372036854775808
   ·subst h;rfl
   ·rw [zQN h];have:(0 - -v+9223372036854775808)%18446744073709551616-9223372036854775808=v:=by omega
    rw [this];rfl
  refine sX ?_;refine zFR (r:=if v=-9223372036854775808 then v else -v) (by rw [IntKind.wrap_i64];split <;> omega)<|zA (AV.bool true) hb rfl<|zD<|zy e ?_
  exact sRr
 ·rw [zQs hn] at hb;refine sX ?_;refine zFR (r:=v) (by rw [IntKind.wrap_i64];omega)<|sX ?_
  exact sRv
theorem isInt64_ev (hL:∀ av m H,Mag av m->(wds m).length<=1000->C zCH [av] H (zK (bits m)) H)
  (hT:∀ b m n x av H,H[b]?=some (.box [x,av])->Mag av m->m≠0->(wds m).length<=100->n<=10000->m%2^n=0->m/2^n%2=1->C zAO [.ref b 0 0 0] H (u64V n) H)
  (b:Nat) (v:Int) (H:Heap) (hb:H[b]?=some (.box (zF5 v))) (hv:(wds v.natAbs).length<=100):EFun C GT zDg [.ref b 0 0 0] H (.bool (decide (zEC v))) H:=by
 obtain ⟨r,hr⟩:∃ r,decide (zEC v)=r:=⟨_,rfl⟩;rw [hr];have hl:=hL (zFL v.natAbs) v.natAbs H (zGR _) tO;have b63:=bits_le 63 v.natAbs;have b64:=bits_le 64 v.natAbs;have e63:(2:Nat)^63=9223372036854775808:=by decide
 have e64:(2:Nat)^64=18446744073709551616:=by decide
 rw [e63] at b63;rw [e64] at b64;have hb2:H[b]?=some (.box [.bool (decide (v<0)),zFL v.natAbs]):=hb;clear hb;refine zI<|sX ?_
 generalize bits v.natAbs=L at *;refine zEQ (fun h=>?_) (fun h=>?_)
 ·have h:L<=63:=by have:=zQ2 h;omega
  have:zEC v:=by unfold zEC;have:=b63.1 h;omega
  rw [zQj this] at hr;subst hr;refine sX ?_;exact sRv
 ·have h:¬ L<=63:=by have:=zRA h;omega
  have hbig:¬ v.natAbs<9223372036854775808:=fun h'=>h (b63.2 h');refine zEQ (fun h64=>?_) (fun h64=>?_)
  ·have h64:L<=64:=by have:=eq_of_beq h64;omega
   have hlt:=b64.1 h64;by_cases hn:v<0
   ·rw [zQj hn] at hb2;obtain ⟨n,t1,t2⟩:=tz_exists v.natAbs tO;have hn64:n<64:=by
     rcases zRz n 64 with h|h
     ·exact h
     ·have h1:2^64<=2^n:=zRd tO h;rw [e64] at h1;rw [zSf tO] at t1;omega
    have ht:=hT b v.natAbs n _ _ H hb2 (zGR _) tO hv tO t1 t2;by_cases h63:n=63
    ·subst h63;have:=tz_63 hlt t1 t2;have hin:zEC v:=by unfold zEC;omega
     rw [zQj hin] at hr;subst hr;refine sX ?_;exact sRv
    ·have hin:¬ zEC v:=fun hin=>by
      unfold zEC at hin;have e:v.natAbs=2^63:=by rw [e63];omega
      rw [e] at t1 t2;rcases Nat.lt_or_gt_of_ne h63 with h|h
      ·have:=tz_low (m:=2^63) (n:=63) (k:=n) (Nat.mod_self _) h;omega
      ·have h1:(2:Nat)^63<2^n:=Nat.pow_lt_pow_right tO h;rw [zSf h1] at t1;omega
     have hne:((n:Int)==63)=false:=by rw [beq_eq_false_iff_ne];omega
     rw [zQs hin] at hr;subst hr;refine sX ?_;exact zID (zQb AV.bool hne.symm) rfl rfl rfl rfl hO
   ·rw [zQs hn] at hb2;have hin:¬ zEC v:=fun hin=>by unfold zEC at hin;omega
    rw [zQs hin] at hr;subst hr;refine sX ?_;exact sRv
  ·have h64:¬ L<=64:=fun h'=>by
    have:L=64:=by omega
    rw [this] at h64;exact absurd h64 (by simp)
   have hgt:¬ v.natAbs<18446744073709551616:=fun h'=>h64 (b64.2 h');have hin:¬ zEC v:=fun hin=>by unfold zEC at hin;omega
   rw [zQs hin] at hr;subst hr;refine sX ?_;exact sRv
theorem give_ev (b n:Nat) (neg:Bool) (x0 x1:AV) (H:Heap) (hb:H[b]?=some (.box [x0,x1])):EFun C GT zCo [.ref b 0 0 0,.bool neg,zFL n] H (.ref b 0 0 0) (H.set b (.box [.bool (neg&&decide (0<n)),zFL n])):=by
 have hbl:b<H.length:=(zg hb).1;have hz:((wds n).length>0)↔0<n:=by
  by_cases e:n=0
  ·subst e;simp [zEz]
  ·rw [zDC e];simp;omega
 have hd:decide (((wds n).length:Int)>0)=decide (0<n):=by
  rw [zSp,zRp,zRp,<-hz];omega
 refine zI ?_;cases neg
 ·refine sS (zFL n) [x0,zFL n] ?_;refine sX ?_;refine sS (AV.bool false) [AV.bool false,zFL n] ?_;exact zP8 (by rw [zSs];rfl) rfl rfl rfl (zQj hbl) rfl
 ·refine sS (zFL n) [x0,zFL n] ?_;refine sX ?_;refine zBC (wds n).length (zGR n) (by simp)<|sX ?_;refine sS (.bool (decide (((wds n).length:Int)>0))) [.bool (decide (((wds n).length:Int)>0)),zFL n] ?_
  exact zP8 (by rw [zSs,hd];rfl) rfl rfl rfl (zQj hbl) rfl
theorem setInt64_ev (hW:∀ x H,x<18446744073709551616->C zCW [u64V x] H (zFL x) H) (hG:∀ b n neg x0 x1 H,H[b]?=some (.box [x0,x1])->C zz [.ref b 0 0 0,.bool neg,zFL n] H (.ref b 0 0 0) (H.set b (.box [.bool (neg&&decide (0<n)),zFL n])))
  (b:Nat) (v:Int) (x0 x1:AV) (H:Heap) (hb:H[b]?=some (.box [x0,x1])) (hv:zEC v):EFun C GT zDX [.ref b 0 0 0,zJ v] H (.ref b 0 0 0) (H.set b (.box (zF5 v))):=by
 have hbl:b<H.length:=(zg hb).1;unfold zEC at hv;have hw:=hW v.natAbs H tO;have hg:=hG b v.natAbs (decide (v<0)) x0 x1 H hb;have e0:(decide (v<0)&&decide (0<v.natAbs))=decide (v<0):=by
  by_cases h:v<0
  ·rw [zQj h,tT (by omega:0<v.natAbs)];rfl
  ·rw [zQs h];rfl
 rw [e0] at hg;refine zI ?_;by_cases hn:v<0
 ·have e:aUn .neg (.int .u64 (18446744073709551616+v))=some (u64V v.natAbs):=by
   simp only [aUn];rw [IntKind.wrap_u64];have:(0-(18446744073709551616+v))%18446744073709551616=(v.natAbs:Int):=by omega
   rw [this];rfl
  refine zFR (r:=18446744073709551616+v) (by rw [IntKind.wrap_u64];omega) ?_;refine zEQ (fun _=>?_) (fun h=>absurd hn (zRA h));refine zy e<|zM (hw)<|zCM hg (fun h=>by cases h) ?_
  exact zP8 rfl rfl rfl rfl (zQj hbl) rfl
 ·refine zFR (r:=(v.natAbs:Int)) (by rw [IntKind.wrap_u64];omega) ?_;refine zEQ (fun h=>absurd (zQ2 h) hn) (fun _=>?_);refine sX ?_;exact zP8 rfl rfl rfl rfl (zQj hbl) rfl
def a_bigNew:AF:={ zJg with keep:=true }
theorem newInt_ev (hS:∀ b v x0 x1 H,H[b]?=some (.box [x0,x1])->zEC v->C zA9 [.ref b 0 0 0,zJ v] H (.ref b 0 0 0) (H.set b (.box (zF5 v)))) (v:Int) (H:Heap) (hv:zEC v) :
  EFun C GT a_bigNew [zJ v] H (.ref H.length 0 0 0) (H++[.box (zF5 v)]):=by
 have hs:=hS H.length v (.bool false) (.lst (some true) 0 []) (H++[.box zV6]) zB hv;have e:(H++[ABlk.box zV6]).set H.length (.box (zF5 v))=H++[.box (zF5 v)]:=by
  rw [zRv _ _ (zQU _),Nat.sub_self];rfl
 rw [e] at hs;refine zI<|sX ?_
 exact zLF rfl rfl
theorem fits_ev (hI:∀ b v H,H[b]?=some (.box (zF5 v))->(wds v.natAbs).length<=100->C zBG [.ref b 0 0 0] H (.bool (decide (zEC v))) H) (b:Nat) (v:Int) (H:Heap) (hb:H[b]?=some (.box (zF5 v))) (hv:(wds v.natAbs).length<=100) :
  EFun C GT zKi [.ref b 0 0 0] H (.bool (decide (zEC v))) H:=by
 have h:=hI b v H hb hv;refine zI<|sX ?_
 exact sRv
theorem wds_fit {n k:Nat} (h:n<4294967296^k):(wds n).length<=k:=by
 rcases zRz k (wds n).length with h2|h2
 ·have hn:n≠0:=fun e=>by subst e;simp [zEz] at h2
  have h3:=wds_ge n hn;have h4:4294967296^k<=4294967296^((wds n).length-1):=zRd tO tO;omega
 ·exact h2
end
end Go.AM
set_option maxRecDepth 20000
namespace Go.AM
def mulV (v:Nat):AV:=if v=0 then .lst (some true) 0 [] else zFL (v*10)
theorem mulV_mag (v:Nat):Mag (mulV v) (v*10):=by
 unfold mulV;by_cases h:v=0
 ·rw [zQQ h];subst h;exact ⟨some true,0,rfl,.inr rfl⟩
 ·rw [zQN h];exact zGR _
theorem wds_ten:wds 10=[10]:=by rw [zDC (by decide)];rfl
theorem set_pad2 (ds:List Nat) (c m d e:Nat):((((ds++c::List.replicate (m+1) 0).map zBT).set ds.length (zBT d)).set (ds.length+1) (zBT e))=((ds++[d])++e::List.replicate m 0).map zBT:=by
 rw [<-List.map_set,<-List.map_set,zRv _ _ (zQU _),Nat.sub_self,zRv _ _ tO,zR4];simp [zSk]
theorem get_pad1 (ds:List Nat) (c:Nat) (zs:List Nat):((ds++c::zs).map zBT)[ds.length]?=some (zBT c):=by
 rw [zQa,zQn (zQU _),Nat.sub_self];rfl
theorem get_pad2 (ds:List Nat) (c m d:Nat):(((ds++c::List.replicate (m+1) 0).map zBT).set ds.length (zBT d))[ds.length+1]?=some (zBT 0):=by
 rw [zQw tO,zQa,zQn tO,zR4];rfl
structure SMu where
 i:Nat
 c:Nat
 ds:List Nat
structure SMj where
 j:Nat
 c:Nat
section
variable {C:CSpec} {GT:Nat->Option AV}
theorem mul10_ev (hT:∀ b m ws H,ws.length=m->H[b]?=some (.row 1 (ws.map zBT))->Small ws->m<=1000000->C zAE [.sl (some false) b 1 0 m] H (.sl (some false) b 1 0 (wds (wval ws)).length) H)
  (av:AV) (x n:Nat) (H:Heap) (ha:Mag av x) (hn:(wds x).length=n) (hl:n<=100000):EFun C GT zGv [av,zFL 10] H (mulV x) H:=by
 have hal:((wds x).map zBT).length=n:=by rw [zQW,hn]
 have hb:zDa (zFL 10) 1 [zBT 10]:=by have:=zGR 10;unfold Mag at this;rw [wds_ten] at this;exact this
 refine zI ?_;unfold mulV;by_cases h0:x=0
 ·subst h0;have hn0:n=0:=by rw [<-hn];rfl
  rw [zQQ rfl];refine sX ?_;exact sRv
 rw [zQN h0];have hn1:n≠0:=by rw [<-hn,zDC h0];simp
 refine zBC n ha hal<|sW ?_;refine zBC 1 hb rfl<|sW ?_;refine zBC n ha hal<|zBC 1 hb rfl<|zS (r:=n+1) rfl tO<|sMake (n:=n+1) rfl (Int.le_refl _) ⟨by omega,by omega⟩ rfl ?_;refine zBB (fun s:SMu=>[(6,zK s.i),(5,.sl (some false) H.length 1 0 (n+1)),(1,zFL 10),(0,av)])
  (fun s H'=>Old H H'/\s.ds.length=s.i/\s.i<=n/\Small s.ds/\s.c<=10/\H'[H.length]?=some (.row 1 ((s.ds++s.c::List.replicate (n-s.i) 0).map zBT))/\wval s.ds+4294967296^s.i*s.c=wval ((wds x).take s.i)*10) (fun s=>n-s.i) ⟨0,0,[]⟩ rfl
  ⟨(Old.refl _).push _,rfl,zRG _,(fun w hw=>by cases hw),by simp only;omega,by rw [zRC,zSr,<-List.replicate_succ,zSt];exact zB,rfl⟩ (fun ⟨i,c,ds⟩ H1 ⟨hO,hd,hi,hsm,hc,hrow,hval⟩=>?_)
 simp only at hd hi hsm hc hrow hval;dsimp only;refine sX ?_;refine zEQ (fun h=>?_) (fun h=>?_)
 ·have h:i<n:=by have:=zQ2 h;omega
  have hx:i<(wds x).length:=by omega
  have hax:=zKp hx;have htx:=zED hx;have hsx:=zB0 x _ (zRV hx);obtain ⟨a,had⟩:∃ a,(wds x)[i]=a:=⟨_,rfl⟩;rw [had] at hax htx hsx;obtain ⟨m,hm⟩:∃ m,n-i=m+1:=⟨n-i-1,by omega⟩;rw [hm] at hrow;have hg1:=get_pad1 ds c (List.replicate (m+1) 0);have hg2:=fun d=>get_pad2 ds c m d;have hset:=fun d e=>set_pad2 ds c m d e;rw [hd] at hg1 hg2 hset;have hsz:H1.length>H.length:=(zg hrow).1;refine zBB (fun s:SMj=>[(8,zK s.j),(6,zK i),(5,.sl (some false) H.length 1 0 (n+1)),(1,zFL 10),(0,av),(7,u64V s.c)])
   (fun s H'=>(s.j=0/\s.c=0/\H'=H1)\/(s.j=1/\s.c=(a*10+c)/4294967296/\H'=H1.set H.length (.row 1 (((ds++c::List.replicate (m+1) 0).map zBT).set i (zBT ((a*10+c)%4294967296)))))) (fun s=>1-s.j) ⟨0,0⟩ rfl (.inl ⟨rfl,rfl,rfl⟩) (fun ⟨j,c2⟩ H2 hj=>?_)
  dsimp only at hj ⊢;rcases hj with ⟨rfl,rfl,rfl⟩|⟨rfl,rfl,rfl⟩
  ·refine zBC 1 hb rfl<|zp (tT (by decide))<|sX ?_;refine zEA (r:=a) rfl tO<|zE6 0 (zBT 10) hb rfl rfl<|sW ?_;refine zEA (r:=10) rfl tO<|zEA (r:=a*10) rfl tO<|zS (r:=i) tO tO<|sAt ⟨by omega,by omega⟩<|zBV i (zBT c) (zBT c) tO hrow hg1 rfl<|zEA (r:=c) rfl tO<|zEA (r:=a*10+c) rfl tO<|zEA (r:=a*10+c) tO tO<|zS (r:=i) tO tO<|zNK ((a*10+c)%4294967296) tO<|sAt ⟨by omega,by omega⟩<|zKb i (zBT ((a*10+c)%4294967296)) tO hrow hg1 rfl (by decide) rfl (fun cs h=>by cases h)<|zy (shr32 (a*10+c))<|zS (r:=1) tO tO ?_
   refine zAP (SMj.mk 1 ((a*10+c)/4294967296)) rfl (.inr ⟨rfl,rfl,rfl⟩) (by simp)
  ·have hrow2:(H1.set H.length (.row 1 (((ds++c::List.replicate (m+1) 0).map zBT).set i (zBT ((a*10+c)%4294967296)))))[H.length]?=some (.row 1 (((ds++c::List.replicate (m+1) 0).map zBT).set i (zBT ((a*10+c)%4294967296)))):=zV hrow;refine zBC 1 hb rfl<|zk (tF (by decide))<|zBC 1 hb rfl<|zS (r:=i+1) rfl tO<|zNK ((a*10+c)/4294967296) tO<|sAt ⟨by omega,by omega⟩<|zKb (i+1) (zBT ((a*10+c)/4294967296)) tO hrow2 (hg2 _) rfl (by decide) rfl (fun cs h=>by cases h)<|zS (r:=i+1) rfl tO ?_;refine zAP (SMu.mk (i+1) ((a*10+c)/4294967296) (ds++[(a*10+c)%4294967296])) rfl ⟨(hO.set (zQU _) _).set (zQU _) _,by simp [hd],by simp only;omega,hsm.snoc tO,by simp only;omega, ?_, ?_⟩ (by simp only;omega)
   ·have:n-(i+1)=m:=by omega
    simp only [this];rw [hset];exact zV hrow2
   ·simp only [zE1,hd,htx,zRS];have e:(a*10+c)%4294967296+4294967296*((a*10+c)/4294967296)=a*10+c:=by omega
    have e2:4294967296^i*((a*10+c)%4294967296)+4294967296^i*4294967296*((a*10+c)/4294967296)=4294967296^i*a*10+4294967296^i*c:=by
     rw [zR9,<-Nat.mul_add,e,zSM,zR9]
    rw [zRK];omega
 ·have h:i=n:=by have:=zRA h;omega
  subst h;rw [Nat.sub_self,zSl] at hrow;rw [zQ6 tO,zE0,<-hd,<-zE1] at hval;have hsm2:Small (ds++[c]):=hsm.snoc tO;have ht:=hT H.length (i+1) (ds++[c]) _ (by simp [hd]) hrow hsm2 tO;rw [hval] at ht;refine sX ?_;exact sRetF rfl rfl (zP7 (zQU _) hrow hsm2 hval) rfl (hO.set (zQU _) _)
theorem give0_ev (b:Nat) (xs:List AV) (nv x0 x1:AV) (H:Heap) (hb:H[b]?=some (.box [x0,x1])) (hv:zDa nv 1 xs):EFun C GT zCo [.ref b 0 0 0,.bool false,nv] H (.ref b 0 0 0) (H.set b (.box [.bool false,nv])):=by
 have hbl:b<H.length:=(zg hb).1;obtain ⟨q,k',rfl,hk⟩:=hv;refine zI<|sS (AV.lst q k' xs) [x0,AV.lst q k' xs] ?_;refine sX ?_;refine sS (AV.bool false) [AV.bool false,AV.lst q k' xs] ?_
 exact zP8 (zSs ..) rfl rfl rfl (zQj hbl) rfl
theorem bigMul_ev (hM:∀ av x H,Mag av x->(wds x).length<=100000->C zDS [av,zFL 10] H (mulV x) H)
  (hG:∀ b xs nv x0 x1 H,H[b]?=some (.box [x0,x1])->zDa nv 1 xs->C zz [.ref b 0 0 0,.bool false,nv] H (.ref b 0 0 0) (H.set b (.box [.bool false,nv])))
  (b t v:Nat) (av:AV) (H:Heap) (hb:H[b]?=some (.box [.bool false,av])) (ht:H[t]?=some (.box (zF5 10))) (ha:Mag av v) (hl:(wds v).length<=1000) :
  EFun C GT zEu [.ref b 0 0 0,.ref b 0 0 0,.ref t 0 0 0] H (.ref b 0 0 0) (H.set b (.box [.bool false,mulV v])):=by
 have hbl:b<H.length:=(zg hb).1;have hm:=hM av v H ha tO;have hg:=hG b _ (mulV v) _ _ H hb (mulV_mag v);clear hM hG;have ht:H[t]?=some (.box [.bool false,zFL 10]):=ht;refine zI<|sX ?_
 exact zP8 rfl rfl rfl rfl (zQj hbl) (by unfold mulV;split <;> rfl)
theorem bigAddM_ev (hS:∀ av bv xn yn x y H,Mag av x->Mag bv y->(wds x).length<=100000->(wds y).length<=100000->C zDT [.bool xn,av,.bool yn,bv] H (.tup [.bool (sumS xn x yn y).1,zFL (sumS xn x yn y).2]) H)
  (hG:∀ b n neg x0 x1 H,H[b]?=some (.box [x0,x1])->C zz [.ref b 0 0 0,.bool neg,zFL n] H (.ref b 0 0 0) (H.set b (.box [.bool (neg&&decide (0<n)),zFL n])))
  (b t v d:Nat) (av:AV) (H:Heap) (hb:H[b]?=some (.box [.bool false,av])) (ht:H[t]?=some (.box (zF5 d))) (ha:Mag av v) (hl:(wds v).length<=1000) (hd:(wds d).length<=1000) :
  EFun C GT zEv [.ref b 0 0 0,.ref b 0 0 0,.ref t 0 0 0] H (.ref b 0 0 0) (H.set b (.box (zF5 ((v+d:Nat):Int)))):=by
 have hbl:b<H.length:=(zg hb).1;have e1:zF5 (d:Int)=[.bool false,zFL d]:=by unfold zF5;rw [tF];rfl
 have e2:zF5 ((v+d:Nat):Int)=[.bool false,zFL (v+d)]:=by unfold zF5;rw [tF];rfl
 have hs:=hS av (zFL d) false false v d H ha (zGR _) tO tO;have es:sumS false v false d=(false,v+d):=rfl;rw [es] at hs;have hg:=hG b (v+d) false (.bool false) av H hb;rw [e1] at ht;rw [e2];clear hS hG;refine zI<|sX ?_
 exact zP8 rfl rfl rfl rfl (zQj hbl) rfl
end
end Go.AM
set_option maxRecDepth 20000
namespace Go.AM
def zLG:Option Int->AV
 |some n=>.tup [zJ n,.bool true]
 |none=>.tup [zJ 0,.bool false]
theorem dec_take {s:Bs} {i:Nat} {c:UInt8} (h:s[i]?=some c):zDk (s.take (i+1))=zDk (s.take i)*10+(c.toNat-48):=by
 rw [zR5,h];exact decV_snoc _ _
theorem all_take {s:Bs} {i:Nat} {c:UInt8} (h:s[i]?=some c):(s.take (i+1)).all zG2=((s.take i).all zG2&&zG2 c):=by
 rw [zR5,h,List.all_append];simp
theorem bigC_nat (n:Nat):zF5 (n:Int)=[.bool false,zFL n]:=by unfold zF5;rw [tF];rfl
theorem pow_words2 (k:Nat):10^(9*k)<=4294967296^k:=by
 rw [Nat.pow_mul];exact Nat.pow_le_pow_left (by decide) k
theorem dec_words {s:Bs} (h:s.all zG2=true) (hl:s.length<=200):(wds (zDk s)).length<=23:=by
 refine wds_fit ?_;have h1:=zP2 s h;have h2:10^s.length<=10^(9*23):=zRd (by decide) tO;exact zRE h1 (zRb h2 (pow_words2 23))
section
variable {C:CSpec} {GT:Nat->Option AV}
theorem rwhole_ev (hNew:∀ v H,zEC v->C zAQ [zJ v] H (.ref H.length 0 0 0) (H++[.box (zF5 v)]))
  (hMul:∀ b t v av H,H[b]?=some (.box [.bool false,av])->H[t]?=some (.box (zF5 10))->Mag av v->(wds v).length<=1000->C zBE [.ref b 0 0 0,.ref b 0 0 0,.ref t 0 0 0] H (.ref b 0 0 0) (H.set b (.box [.bool false,mulV v])))
  (hAdd:∀ (b t v d:Nat) (av:AV) (H:Heap),H[b]?=some (.box [.bool false,av])->H[t]?=some (.box (zF5 d))->Mag av v->(wds v).length<=1000->(wds d).length<=1000->C zBF [.ref b 0 0 0,.ref b 0 0 0,.ref t 0 0 0] H (.ref b 0 0 0) (H.set b (.box (zF5 ((v+d:Nat):Int)))))
  (hFit:∀ b v H,H[b]?=some (.box (zF5 v))->(wds v.natAbs).length<=100->C zD6 [.ref b 0 0 0] H (.bool (decide (zEC v))) H)
  (hI:∀ b v H,H[b]?=some (.box (zF5 v))->zEC v->C zAr [.ref b 0 0 0] H (zJ v) H)
  (s:Bs) (H:Heap) (hl:s.length<=200):EFun C GT zDe [.str s,.bool false] H (zLG (zCL s)) H:=by
 refine zI ?_;cases s with
 |nil=>
  clear hNew hMul hAdd hFit hI;refine sX ?_;exact sRv
 |cons c0 r0=>
 have hc0:(c0::r0)[0]?=some c0:=rfl;have hne:((c0::r0)==([]:Bs))=false:=rfl;obtain ⟨s,hs⟩:∃ s,c0::r0=s:=⟨_,rfl⟩;have hh:s.head?=some c0:=by rw [<-hs];rfl
 have hs0:s≠[]:=by rw [<-hs];simp
 have hs1:1<=s.length:=by rw [<-hs];simp
 rw [hs] at hc0 hne hl ⊢;clear hs r0;by_cases h48:c0.toNat=48/\s≠[48]
 ·have e:zCL s=none:=by
   unfold zCL;rw [zQQ (.inr ⟨by rw [hh,show c0=48 from zQm.1 h48.1],h48.2⟩)]
  rw [e];clear hNew hMul hAdd hFit hI;refine sX ?_;refine zp (zQ8.2 h48.2) ?_;exact sRv
 have hform:¬ (s=[]\/(s.head?=some 48/\s≠[48])):=by
  rintro (h|⟨h,h'⟩)
  ·exact hs0 h
  ·rw [hh] at h;cases h;exact h48 ⟨rfl,h'⟩
 have main:loopP C GT [8,6,7,0] zHg (zKa 0 [7,0,6] (seqK (EW C GT (AC.rest (AC.rest (AC.rest (AC.rest (AC.rest (AC.rest zJe)))))) (finF zDe H (zLG (zCL s)) H)) (finF zDe H (zLG (zCL s)) H))) [(8,zK 0),(6,.str s),(7,.ref H.length 0 0 0),(0,.str s)] (H++[.box zV6]):=by
  have hwp:zCL s=if s.all zG2=true then (if zDk s<=9223372036854775807 then some (zDk s:Int) else none) else none:=by unfold zCL;rw [zQN hform]
  rw [hwp];obtain ⟨r,hr⟩:∃ r,(if s.all zG2=true then (if zDk s<=9223372036854775807 then some (zDk s:Int) else none) else none)=r:=⟨_,rfl⟩;rw [hr];refine zBB (fun i:Nat=>[(8,zK i),(6,.str s),(7,.ref H.length 0 0 0),(0,.str s)])
   (fun i H'=>Old H H'/\i<=s.length/\(s.take i).all zG2=true/\∃ av,H'[H.length]?=some (.box [.bool false,av])/\Mag av (zDk (s.take i))/\(1<=i->av=zFL (zDk (s.take i))))
   (fun i=>s.length-i) 0 rfl ⟨(Old.refl _).push _,by omega,rfl,_,zB,⟨some true,0,rfl,.inr rfl⟩,fun h=>by omega⟩ (fun i H1 ⟨hO,hi,hd,av,hb,hm,hav⟩=>?_)
  try dsimp only
  have hw:=dec_words hd (by rw [zQk];omega);by_cases hlt:i<s.length
  ·obtain ⟨c,hc⟩:∃ c,s[i]?=some c:=⟨_,zQS hlt⟩;have hdt:=dec_take hc;have hat:=all_take hc;have hc256:c.toNat<256:=zR2 c;by_cases hdg:zG2 c=true
   ·have hdg':=hdg;unfold zG2 at hdg';simp only [zQP,zQf] at hdg';rw [hd,hdg] at hat;have hd2:(wds (c.toNat-48)).length<=1000:=zRb (wds_fit (k:=1) tO) tO;have hmw:(wds (zDk (s.take i)*10)).length<=1000:=by
     have h1:=zP2 (s.take (i+1)) hat;refine zRb (wds_fit (k:=23) ?_) tO;have h2:10^(s.take (i+1)).length<=10^(9*23):=zRd (by decide) (by rw [zQk];omega);have h3:=pow_words2 23;omega
    have hn10:=hNew 10;have hnd:=hNew ((c.toNat-48:Nat):Int);have hmul:=fun t H h1 h2=>hMul H1.length t (zDk (s.take i)) av H h1 h2;clear hFit hI hNew;have hbl:H.length<H1.length:=(zg hb).1;refine zp tT<|zCB rfl hc<|zk tF<|zCB rfl hc<|zG<|zk tF<|zCM (hn10 _ (by decide)) (fun h=>by cases h)<|zCM (hMul H.length H1.length (zDk (s.take i)) av _ hP hP hm tO) (fun h=>by cases h)<|sX ?_;refine zS (r:=c.toNat) tO tO<|zS (r:=c.toNat-48) tO tO<|zCM (hnd _ (by unfold zEC;omega)) (fun h=>by cases h)<|zCM (hAdd H.length _ (zDk (s.take i)*10) (c.toNat-48) (mulV (zDk (s.take i))) _ hP hP (mulV_mag _) hmw hd2) (fun h=>by cases h)<|zS (r:=i+1) rfl tO ?_
    refine zAP (i+1) rfl ⟨?_,by omega,hat,zFL (zDk (s.take (i+1))), ?_,zGR _,fun _=>rfl⟩ tO
    ·exact (((hO.push _).set (zQU _) _).push _).set (zQU _) _
    ·rw [hdt,<-bigC_nat];exact hP
   ·have hdf:=zRI.2 hdg;have hall:s.all zG2=false:=by
     rw [zRI];intro h;exact hdg (zRN.1 h c (zQh hc))
    rw [hall] at hr;have hr:none=r:=hr;subst hr;clear hFit hI hNew hMul hAdd;unfold zG2 at hdf;by_cases h1:c.toNat<48
    ·refine sX ?_;exact sRv
    ·have h2:57<c.toNat:=by
      rw [tT (by omega:48<=c.toNat),zRt] at hdf;have:=zRA hdf;omega
     refine sX ?_;exact sRv
  ·have hin:i=s.length:=by omega
   subst hin;rw [zRs] at hd hm hav hw;have hav:=hav hs1;subst hav;rw [hd,zQQ rfl] at hr;have hb':H1[H.length]?=some (.box (zF5 ((zDk s:Nat):Int))):=by rw [bigC_nat];exact hb
   have hft:=hFit H.length ((zDk s:Nat):Int) H1 hb' (by simpa using (by omega:(wds (zDk s)).length<=100));have hi6:=hI H.length ((zDk s:Nat):Int) H1 hb';clear hFit hI hNew hMul hAdd;by_cases h64:zDk s<=9223372036854775807
   ·rw [zQQ h64] at hr;subst hr;have hin64:zEC ((zDk s:Nat):Int):=by unfold zEC;omega
    rw [zQj hin64] at hft;have hi6:=hi6 hin64;refine zk tF<|zk (zQo.2 rfl)<|zM hft<|zG<|zM hi6 ?_
    exact zAq rfl rfl rfl rfl hO
   ·rw [zQN h64] at hr;subst hr;have hin64:¬ zEC ((zDk s:Nat):Int):=by unfold zEC;omega
    rw [zQs hin64] at hft;refine zk tF<|zk (zQo.2 rfl)<|zM hft<|zD ?_
    exact zAq rfl rfl rfl rfl hO
 by_cases h0:c0.toNat=48
 ·have h1:s=[48]:=by
   rcases Classical.em (s=[48]) with h|h
   ·exact h
   ·exact absurd ⟨h0,h⟩ h48
  refine sX ?_;refine zk (zQo.2 h1) ?_;exact main
 ·refine sX ?_;exact main
end
end Go.AM
