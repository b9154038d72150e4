/- Several texts of mine in one (Rf5, Bg1, Bg2, Bgm, Rf3). Own work. -/
import Derived.Test.YtkeblfepjkdleaaGreatDoorGAm30Fp1
import Derived.Test.YtkeblfepjkdleaaGreatDoorRf2
import Derived.Test.YtkeblfepjkdleaaGreatDoorGFq0Bg0
import Derived.Test.YtkeblfepjkdleaaGreatDoorGAm23Am29
import Derived.Test.YtkeblfepjkdleaaGreatDoorAc
import Derived.Test.YtkeblfepjkdleaaGreatDoorGAm31Rf1
set_option maxRecDepth 20000
set_option linter.all false
namespace Go.AM
def tkK:Tok->Nat
 |.fin=>0
 |.word _ _=>1
 |.txt _ _=>2
 |.bad _ _=>3
 |.sign _ _=>4
 |.none=>9
def tkE (q:Nat):Tok->Nat
 |.fin=>q
 |.word e _=>e
 |.txt e _=>e
 |.bad e _=>e
 |.sign e _=>e
 |.none=>q
def tkT:Tok->Bs
 |.fin=>[]
 |.word _ t=>t
 |.txt _ t=>t
 |.bad _ k=>wrongs.getD (k-1) []
 |.sign _ t=>t
 |.none=>[]
theorem zHI (s:Bs) (a:Nat):tkV s a=kV (tkK (tok s a)) (skip s a) (tkE (skip s a) (tok s a)) (tkT (tok s a)):=by
 unfold tkV zZh tok;cases zBk s (skip s a) <;> rfl
theorem zK5 {s:Bs} {a:Nat} (h:a<=s.length):tkE (skip s a) (tok s a)<=s.length:=by
 have h1:=zB7 s a;have h2:=zCX h;cases hk:tok s a <;> rw [hk] at h1 <;> simp only [tkE,Tok.endsBy] at h1 ⊢ <;> omega
theorem zj9 {s:Bs} {a:Nat}:(∃ e,tok s a=.sign e [41])↔tkK (tok s a)=4/\tkT (tok s a)=[41]:=by
 constructor
 ·rintro ⟨e,h⟩;rw [h];exact ⟨rfl,rfl⟩
 ·intro h;cases hk:tok s a <;> rw [hk] at h <;> simp only [tkK,tkT] at h
  all_goals first|omega|skip
  exact ⟨_,by rw [h.2]⟩
section
variable {C:CSpec} {GT:zG_}
theorem zbD (hT:∀ s a H,a<=s.length->s.length<=1000->C zY [.str s,zK a] H (tkV s a) H)
  (b:Nat) (s:Bs) (p d e:Nat) (H:Heap) (hb:H[b]?=some (rP s p (d+1))) (hp:p<=s.length) (hl:s.length<=200) (hd:d<=1000) (hk:tok s p=.sign e [41]):zCw C GT zCP [pR b] H b [] .undef (some (.tup [],rP s e d)):=by
 have hbl:=zl_ hb;have ht:=fun H=>hT s p H hp tO;rw [zHI,hk] at ht;have ht:∀ H,C zY [.str s,zK p] H (kV 4 (skip s p) e [41]) H:=ht;generalize skip s p=q at *;clear hT;refine zAJ<|sX ?_;refine zHN ?_ ?_
 all_goals
  refine sX ?_;refine sSA (kV 4 q e [41]) ?_;refine sX ?_;refine sS (zK e) [.str s,zK e,zH 0,zH 0,zH ↑(d+1)] ?_;refine sX ?_;refine zS (r:=d) tO tO<|sS (.int .i64 ↑d) [.str s,zK e,zH 0,zH 0,.int .i64 ↑d] ?_
  exact sRo
theorem zbE (hT:∀ s a H,a<=s.length->s.length<=1000->C zY [.str s,zK a] H (tkV s a) H)
  (hF:∀ b s p d a e H,H[b]?=some (pB s p 0 0 d)->C zc [pR b,zH a,zH e] H (.tup []) (H.set b (pB s p a e d)))
  (b:Nat) (s:Bs) (p d:Nat) (H:Heap) (hb:H[b]?=some (rP s p (d+1))) (hp:p<=s.length) (hl:s.length<=200) (hd:d<=1000) (hk:¬ ∃ e,tok s p=.sign e [41]):zCw C GT zCP [pR b] H b [] .undef (some (.tup [],pB s (tkE (skip s p) (tok s p):Nat) (skip s p:Nat) 2 d)):=by
 have hbl:=zl_ hb;have ht:=fun H=>hT s p H hp tO;rw [zHI] at ht;rw [zj9] at hk;have hf:=fun H=>hF b s p (d+1:Nat) (skip s p:Nat) 2 H;clear hT hF;generalize tkE (skip s p) (tok s p)=e at *;generalize tkK (tok s p)=kk at *;generalize tkT (tok s p)=t at *;generalize skip s p=q at *;refine zAJ ?_;by_cases h4:kk=4
 ·subst h4;have h41:t≠[41]:=fun x=>hk ⟨rfl,x⟩;refine sX ?_;refine zHN ?_ ?_
  all_goals
   refine sX ?_;refine sSA (kV 4 q e t) ?_;refine sX ?_;refine zn (zlz.2 h41)<|sX ?_;refine sS (zK e) [.str s,zK e,zH ↑q,zH 2,zH ↑(d+1)] ?_;refine sX ?_;refine zS (r:=d) tO tO<|sS (.int .i64 ↑d) [.str s,zK e,zH ↑q,zH 2,.int .i64 ↑d] ?_
   exact sRo
 ·refine sX ?_;refine zHN ?_ ?_
  all_goals
   refine sX ?_;refine sSA (kV kk q e t) ?_;refine sX ?_;refine zn (zlz.2 tO)<|sX ?_;refine sS (zK e) [.str s,zK e,zH ↑q,zH 2,zH ↑(d+1)] ?_;refine sX ?_;refine zS (r:=d) tO tO<|sS (.int .i64 ↑d) [.str s,zK e,zH ↑q,zH 2,.int .i64 ↑d] ?_
   exact sRo
theorem zYq (hT:∀ s a H,a<=s.length->s.length<=1000->C zY [.str s,zK a] H (tkV s a) H)
  (b:Nat) (s:Bs) (p:Nat) (w e d:Int) (H:Heap) (hb:H[b]?=some (pB s p w e d)) (he:e≠0) (hp:p<=s.length) (hl:s.length<=200):zCw C GT zCP [pR b] H b [] .undef (some (.tup [],pB s (tkE (skip s p) (tok s p):Nat) w e (IntKind.wrap .i64 (d-1)))):=by
 have hbl:=zl_ hb;have ht:=fun H=>hT s p H hp tO;rw [zHI] at ht;clear hT;generalize tkE (skip s p) (tok s p)=ee at *;generalize tkK (tok s p)=kk at *;generalize tkT (tok s p)=t at *;generalize skip s p=q at *;refine zAJ<|sX ?_;refine zHN ?_ ?_
 all_goals
  refine sX ?_;refine sSA (kV kk q ee t) ?_;refine zA (zH e) (zC tA (zD hb)) rfl<|zi (tN he)<|sX ?_;refine sS (zK ee) [.str s,zK ee,zH w,zH e,zH d] ?_;refine sX ?_;refine zDh rfl<|sS (.int .i64 (IntKind.i64.wrap (d-1))) [.str s,zK ee,zH w,zH e,.int .i64 (IntKind.i64.wrap (d-1))] ?_
  exact sRo
end
def zBY (w:Nat):AV:=.int .u32 w
def zTc (w:Nat):AV:=.int .u64 w
def zFV (n:Nat):AV:=.lst (some false) 1 ((wds n).map zBY)
def Mag (v:AV) (n:Nat):Prop:=zDe v 1 ((wds n).map zBY)
theorem zGc (n:Nat):Mag (zFV n) n:=⟨_,_,rfl,.inl rfl⟩
theorem Mag.nil (k:Nat):Mag (.lst (some true) k []) 0:=⟨_,_,rfl,.inr rfl⟩
theorem zK6 {n i:Nat} (h:i<(wds n).length):((wds n).map zBY)[i]?=some (zBY (wds n)[i]):=by rw [zlQ,zlI h];rfl
theorem zbF {b m n:Nat} (h:n<=m):zB9 (some 1) (.sl (some false) b 1 0 m) none (some (.int .i64 (n:Int)))=some (.sl (some false) b 1 0 n):=by
 have e:zDf m none (some (.int .i64 (n:Int)))=some (0,n):=by
  simp only [zDf,aHi,aLo];rw [zlF ⟨by omega,by omega⟩];simp
 simp only [zB9,zlp,e,zlW,zlx,zni];rfl
theorem zQR {H0 H:Heap} {b n:Nat} {ws:List Nat} (hbl:H0.length<=b) (hb:H[b]?=some (.row 1 (ws.map zBY))) (hw:Small ws) (hn:wval ws=n) :
  zEM H0.length (.sl (some false) b 1 0 (wds n).length) H=some (zFV n,H.set b (.frz 1 (ws.map zBY))):=by
 subst hn;have h:=zeK hw;simp only [zEM,hb];rw [zlD tO,zlF ⟨trivial,by rw [zlM];omega⟩];simp only [znC,<-List.map_take,h.2];rfl
theorem zeq (s:Nat):zDr .shr .u64 (s:Int) 32=some (.int .u64 ((s/4294967296:Nat):Int)):=by
 simp only [zDr];rw [zlD tO];have:(2:Int)^Nat.min (32:Int).toNat IntKind.u64.bits=4294967296:=by rfl
 rw [this,znX _ tO];rfl
theorem zkA (s:Nat):zDr .shr .u64 (s:Int) 63=some (.int .u64 ((s/9223372036854775808:Nat):Int)):=by
 simp only [zDr];rw [zlD tO];have:(2:Int)^Nat.min (63:Int).toNat IntKind.u64.bits=9223372036854775808:=by rfl
 rw [this,znX _ tO];rfl
theorem zNi {x:Int} {K:Int->Prop} (r:Nat) (h:x%4294967296=r) (k:K (r:Int)):valP (IntKind.wrap .u32 x) K:=zDh (by rw [IntKind.wrap_u32];omega) k
theorem zh1 {x:Int} {K:Int->Prop} (r:Nat) (h:x%18446744073709551616=r) (k:K (r:Int)):valP (IntKind.wrap .u64 x) K:=zDh (by rw [IntKind.wrap_u64];omega) k
theorem zWD (ds:List Nat) (m d:Nat):((ds++List.replicate (m+1) 0).map zBY).set ds.length (zBY d)=((ds++[d])++List.replicate m 0).map zBY:=by
 rw [znb,<-List.map_set,zml _ _ (zlK _),Nat.sub_self];simp
theorem zWE (ds:List Nat) (m:Nat):((ds++List.replicate (m+1) 0).map zBY)[ds.length]?=some (zBY 0):=by
 rw [zlQ,zld (zlK _),Nat.sub_self,znb];rfl
theorem Small.snoc {ds:List Nat} {d:Nat} (h:Small ds) (hd:d<4294967296):Small (ds++[d]):=by
 intro w hw;rcases zm4.1 hw with hw|hw
 ·exact h w hw
 ·rw [zls.1 hw];exact hd
section
variable {C:CSpec} {GT:zG_}
theorem zh2 (b m:Nat) (ws:List Nat) (H:Heap) (hm:ws.length=m) (hb:H[b]?=some (.row 1 (ws.map zBY))) (hw:Small ws) (hl:m<=1000000) :
  EFun C GT zGY [.sl (some false) b 1 0 m] H (.sl (some false) b 1 0 (wds (wval ws)).length) H:=by
 have hbl:=zl_ hb;subst hm;have fin:∀ n:Nat,n<=ws.length->(wds (wval ws)).length=n->(.sl (some false) b 1 0 (wds (wval ws)).length:AV)=.sl (some false) b 1 0 n:=fun n _ h=>by rw [h]
 refine zJ ?_;refine zHq ?_;refine zBG (fun n:Nat=>[(3,zK n),(0,.sl (some false) b 1 0 ws.length)]) (fun n H'=>H'=H/\n<=ws.length/\wval (ws.take n)=wval ws) (fun n=>n) ws.length rfl ⟨rfl,zlK _,by rw [zmi]⟩ (fun n H1 ⟨e,hn,hv⟩=>?_);subst e;dsimp only;have hsm:Small (ws.take n):=fun w h=>hw w (zmr h);refine zEY (fun h=>?_) (fun h=>?_)
 ·have h:0<n:=by have:=zlr h;omega
  have hi:n-1<ws.length:=by omega
  have hx:(ws.map zBY)[n-1]?=some (zBY ws[n-1]):=by rw [zlQ,zlI hi];rfl
  have ht:ws.take n=ws.take (n-1)++[ws[n-1]]:=by
   have:=zm0 hi
   rwa [Nat.sub_add_cancel h] at this
  refine zS (r:=n-1) tO tO<|sAt ⟨by omega,by omega⟩<|zBa (n-1) (zBY ws[n-1]) (zBY ws[n-1]) tO hb hx rfl<|zE ?_;refine zEY (fun h0=>?_) (fun h0=>?_)
  ·have h0:ws[n-1]=0:=by have:=eq_of_beq h0;omega
   refine zS (r:=n-1) tO tO ?_;refine zAR (n-1) rfl ⟨rfl,by omega, ?_⟩ tO;rw [<-hv,ht,zE7,h0];simp
  ·have h0:ws[n-1]≠0:=fun e=>by rw [e] at h0;exact absurd h0 zS_
   have hd:wds (wval ws)=ws.take n:=by
    rw [<-hv];refine zhM hsm fun w hw=>?_;rw [ht,List.getLast?_concat] at hw;cases hw;exact h0
   have e:=fin n hn (by rw [hd,zla];omega);refine zx (zbF hn) ?_;exact zHO e rfl rfl (by simp only [zEM];rw [zlF hbl]) (by simp only [AV.bel];exact zlY hbl) (Old.refl _)
 ·have h:n=0:=by have:=zly h;omega
  subst h;have e:=fin 0 hn (by rw [<-hv];rfl);refine zG<|zG<|zx (zbF hn) ?_
  exact zHO e rfl rfl (by simp only [zEM];rw [zlF hbl]) (by simp only [AV.bel];exact zlY hbl) (Old.refl _)
theorem zer (hT:∀ b m ws H,ws.length=m->H[b]?=some (.row 1 (ws.map zBY))->Small ws->m<=1000000->C zAG [.sl (some false) b 1 0 m] H (.sl (some false) b 1 0 (wds (wval ws)).length) H)
  (x:Nat) (hx:x<18446744073709551616) (H:Heap):EFun C GT zFy [zTc x] H (zFV x) H:=by
 have hb:(H++[ABlk.row 1 [zBY (x%4294967296),zBY (x/4294967296)]])[H.length]?=some (.row 1 (([x%4294967296,x/4294967296]:List Nat).map zBY)):=zB;have hw:Small [x%4294967296,x/4294967296]:=by
  intro w hw;simp at hw;omega
 have hv:wval [x%4294967296,x/4294967296]=x:=by simp only [wval];omega
 have ht:=hT H.length 2 [x%4294967296,x/4294967296] _ rfl hb hw tO;rw [hv] at ht;refine zJ ?_;refine zNi (x%4294967296) tO<|zx (zeq x)<|zNi (x/4294967296) tO<|zAb (vs':=[zBY (x%4294967296),zBY (x/4294967296)]) rfl rfl<|zM (ht) ?_
 exact zQs rfl rfl (zQR (zlK _) hb hw hv) rfl (((Old.refl H).push _).set (zlK _) _)
structure SAd where
 i:Nat
 c:Nat
 ds:List Nat
section
variable (hT:∀ b m ws H,ws.length=m->H[b]?=some (.row 1 (ws.map zBY))->Small ws->m<=1000000->C zAG [.sl (some false) b 1 0 m] H (.sl (some false) b 1 0 (wds (wval ws)).length) H) (av bv:AV)
include hT av bv
theorem zXM (x y n:Nat) (H:Heap) (ha:Mag av x) (hb:Mag bv y) (hn:(wds x).length=n) (hle:(wds y).length<=n) (hl:n<=100000) :
  EW C GT (zG9.behind 2) (zaO zE2 H (zFV (x+y)) H) [(1,bv),(0,av)] H:=by
 have hal:((wds x).map zBY).length=n:=by rw [zlM,hn]
 refine zBH n ha hal<|zS (r:=n+1) rfl tO<|zd2 (n:=n+1) rfl (Int.le_refl _) ⟨by omega,by omega⟩ rfl ?_;refine zBG (fun s:SAd=>[(7,zK s.i),(5,.sl (some false) H.length 1 0 (n+1)),(1,bv),(0,av),(6,zTc s.c)])
  (fun s H'=>Old H H'/\s.ds.length=s.i/\s.i<=n/\Small s.ds/\s.c<=1/\H'[H.length]?=some (.row 1 ((s.ds++List.replicate (n+1-s.i) 0).map zBY))/\wval s.ds+4294967296^s.i*s.c=wval ((wds x).take s.i)+wval ((wds y).take s.i)) (fun s=>n-s.i) ⟨0,0,[]⟩ rfl
  ⟨(Old.refl _).push _,rfl,zl6 _,(fun w hw=>by cases hw),zl6 _,by rw [zl2,zni,znk];exact zB,rfl⟩ (fun ⟨i,c,ds⟩ H1 ⟨hO,hd,hi,hsm,hc,hrow,hval⟩=>?_)
 simp only at hd hi hsm hc hrow hval;dsimp only;refine zBH n ha hal ?_;refine zEY (fun h=>?_) (fun h=>?_)
 ·have h:i<n:=by have:=zlr h;omega
  have hx:i<(wds x).length:=by omega
  have hax:=zK6 hx;have htx:=zEL hx;have hsx:=zB4 x _ (zmM hx);obtain ⟨a,had⟩:∃ a,(wds x)[i]=a:=⟨_,rfl⟩;rw [had] at hax htx hsx;have hm:n+1-i=(n-i)+1:=by omega
  rw [hm] at hrow;have hget:=zWE ds (n-i);have hset:=fun d=>zWD ds (n-i) d;rw [hd] at hget hset;have hlen:ds.length=i:=hd;refine zFD i (zBY a) ha rfl hax<|zA9 (zBY a) rfl<|zEI (r:=a) rfl tO<|zEI (r:=c+a) tO tO<|zBH (wds y).length hb zS_ ?_;refine zEY (fun h2=>?_) (fun h2=>?_)
  ·have h2:i<(wds y).length:=by have:=zlr h2;omega
   have hby:=zK6 h2;have hty:=zEL h2;have hsy:=zB4 y _ (zmM h2);obtain ⟨d,hdd⟩:∃ d,(wds y)[i]=d:=⟨_,rfl⟩;rw [hdd] at hby hty hsy;refine zFD i (zBY d) hb rfl hby<|zA9 (zBY d) rfl<|zEI (r:=d) rfl tO<|zEI (r:=c+a+d) tO tO<|zNi ((c+a+d)%4294967296) tO<|sAt ⟨by omega,by omega⟩ ?_;refine zKs i (zBY ((c+a+d)%4294967296)) tO hrow hget rfl zD_ rfl (fun cs h=>by cases h)<|zx (zeq (c+a+d))<|zS (r:=i+1) rfl tO ?_;refine zAR (SAd.mk (i+1) ((c+a+d)/4294967296) (ds++[(c+a+d)%4294967296])) rfl ⟨hO.set (zlK _) _,by simp [hlen],by simp only;omega,hsm.snoc tO,by simp only;omega, ?_, ?_⟩ (by simp only;omega)
   ·rw [hset];have:n+1-(i+1)=n-i:=by omega
    simp only [this];exact zU hrow
   ·simp only [zE7,hlen,htx,hty,zmI];have e:(c+a+d)%4294967296+4294967296*((c+a+d)/4294967296)=c+a+d:=by omega
    have e2:4294967296^i*((c+a+d)%4294967296)+4294967296^i*4294967296*((c+a+d)/4294967296)=4294967296^i*c+4294967296^i*a+4294967296^i*d:=by
     rw [zmz,<-Nat.mul_add,e,znB,znB]
    omega
  ·have h2:(wds y).length<=i:=by have:=zly h2;omega
   have hty:wval ((wds y).take (i+1))=wval ((wds y).take i):=by rw [zlw tO,zlw h2]
   refine zNi ((c+a)%4294967296) tO<|sAt ⟨by omega,by omega⟩<|zKs i (zBY ((c+a)%4294967296)) tO hrow hget rfl zD_ rfl (fun cs h=>by cases h)<|zx (zeq (c+a))<|zS (r:=i+1) rfl tO ?_;refine zAR (SAd.mk (i+1) ((c+a)/4294967296) (ds++[(c+a)%4294967296])) rfl ⟨hO.set (zlK _) _,by simp [hlen],by simp only;omega,hsm.snoc tO,by simp only;omega, ?_, ?_⟩ (by simp only;omega)
   ·rw [hset];have:n+1-(i+1)=n-i:=by omega
    simp only [this];exact zU hrow
   ·simp only [zE7,hlen,htx,hty,zmI];have e:(c+a)%4294967296+4294967296*((c+a)/4294967296)=c+a:=by omega
    have e2:4294967296^i*((c+a)%4294967296)+4294967296^i*4294967296*((c+a)/4294967296)=4294967296^i*c+4294967296^i*a:=by
     rw [zmz,<-Nat.mul_add,e,znB]
    omega
 ·have h:i=n:=by have:=zly h;omega
  subst h;have hm:i+1-i=0+1:=by omega
  rw [hm] at hrow;have hget:=zWE ds 0;have hset:=fun d=>zWD ds 0 d;rw [hd] at hget hset;rw [zlw tO,zlw tO,zE6,zE6,<-hd,<-zE7] at hval;have hsm2:Small (ds++[c]):=hsm.snoc tO;have hr2:(H1.set H.length (.row 1 ((ds++[c]).map zBY)))[H.length]?=some (.row 1 ((ds++[c]).map zBY)):=zU hrow;have hset2:((ds++List.replicate (0+1) 0).map zBY).set i (zBY c)=(ds++[c]).map zBY:=by rw [hset];simp
  have ht:=hT H.length (i+1) (ds++[c]) _ (by simp [hd]) hr2 hsm2 tO;rw [hval] at ht;rw [<-hset2] at ht hr2;refine zBH i ha hal<|zNi c tO<|sAt ⟨by omega,by omega⟩<|zKs i (zBY c) tO hrow hget rfl zD_ rfl (fun cs h=>by cases h)<|zM ht ?_
  rw [hset2] at hr2;exact zQs rfl rfl (zQR (zlK _) (by rw [hset2];exact hr2) hsm2 hval) rfl ((hO.set (zlK _) _).set (zlK _) _)
theorem zkB (x y:Nat) (H:Heap) (ha:Mag av x) (hb:Mag bv y) (h1:(wds x).length<=100000) (h2:(wds y).length<=100000):EFun C GT zE2 [av,bv] H (zFV (x+y)) H:=by
 refine zJ ?_;refine zBH (wds x).length ha zS_<|zBH (wds y).length hb zS_ ?_;refine zEY (fun h=>?_) (fun h=>?_)
 ·have h:(wds x).length<(wds y).length:=by have:=zlr h;omega
  rw [znD x y];refine zFM rfl (zXM hT bv av y x _ H hb ha rfl tO h2) ?_;rfl
 ·have h:(wds y).length<=(wds x).length:=by have:=zly h;omega
  refine zFM rfl (zXM hT av bv x y _ H ha hb rfl h h1) ?_;rfl
theorem zkC (x y n:Nat) (H:Heap) (ha:Mag av x) (hb:Mag bv y) (hyx:y<=x) (hn:(wds x).length=n) (hl:n<=100000):EFun C GT zHB [av,bv] H (zFV (x-y)) H:=by
 have hal:((wds x).map zBY).length=n:=by rw [zlM,hn]
 have hle:(wds y).length<=n:=by rw [<-hn];exact zN8 hyx
 refine zJ ?_;refine zBH n ha hal<|zd2 (n:=n) rfl (Int.le_refl _) ⟨by omega,by omega⟩ rfl ?_;refine zBG (fun s:SAd=>[(7,zK s.i),(5,.sl (some false) H.length 1 0 n),(1,bv),(6,zTc s.c),(0,av)])
  (fun s H'=>Old H H'/\s.ds.length=s.i/\s.i<=n/\Small s.ds/\s.c<=1/\H'[H.length]?=some (.row 1 ((s.ds++List.replicate (n-s.i) 0).map zBY))/\wval s.ds+wval ((wds y).take s.i)=wval ((wds x).take s.i)+4294967296^s.i*s.c) (fun s=>n-s.i) ⟨0,0,[]⟩ rfl
  ⟨(Old.refl _).push _,rfl,zl6 _,(fun w hw=>by cases hw),zl6 _,by rw [zl2,zni,znk];exact zB,rfl⟩ (fun ⟨i,c,ds⟩ H1 ⟨hO,hd,hi,hsm,hc,hrow,hval⟩=>?_)
 simp only at hd hi hsm hc hrow hval;dsimp only;refine zBH n ha hal ?_;refine zEY (fun h=>?_) (fun h=>?_)
 ·have h:i<n:=by have:=zlr h;omega
  have hx:i<(wds x).length:=by omega
  have hax:=zK6 hx;have htx:=zEL hx;have hsx:=zB4 x _ (zmM hx);obtain ⟨a,had⟩:∃ a,(wds x)[i]=a:=⟨_,rfl⟩;rw [had] at hax htx hsx;obtain ⟨m,hm⟩:∃ m,n-i=m+1:=⟨n-i-1,by omega⟩;rw [hm] at hrow;have hget:=zWE ds m;have hset:=fun d=>zWD ds m d;rw [hd] at hget hset;have hlen:ds.length=i:=hd;refine zFD i (zBY a) ha rfl hax<|zA9 (zBY a) rfl<|zEI (r:=a) rfl tO<|zh1 ((((a:Int)-c)%18446744073709551616).toNat) tO<|zBH (wds y).length hb zS_ ?_
  have next:∀ (e d c':Nat),(e:Int)=(a:Int)-c'-c\/True->True:=fun _ _ _ _=>trivial;refine zEY (fun h2=>?_) (fun h2=>?_)
  ·have h2:i<(wds y).length:=by have:=zlr h2;omega
   have hby:=zK6 h2;have hty:=zEL h2;have hsy:=zB4 y _ (zmM h2);obtain ⟨d,hdd⟩:∃ d,(wds y)[i]=d:=⟨_,rfl⟩;rw [hdd] at hby hty hsy;obtain ⟨D,hD⟩:∃ D:Nat,(((a:Int)-c-d)%18446744073709551616)=D:=⟨(((a:Int)-c-d)%18446744073709551616).toNat,by omega⟩;refine zFD i (zBY d) hb rfl hby<|zA9 (zBY d) rfl<|zEI (r:=d) rfl tO<|zh1 D tO<|zNi (D%4294967296) tO<|sAt ⟨by omega,by omega⟩ ?_;refine zKs i (zBY (D%4294967296)) tO hrow hget rfl zD_ rfl (fun cs h=>by cases h)<|zx (zkA D)<|zS (r:=i+1) rfl tO ?_;refine zAR (SAd.mk (i+1) (D/9223372036854775808) (ds++[D%4294967296])) rfl ⟨hO.set (zlK _) _,by simp [hlen],by simp only;omega,hsm.snoc tO,by simp only;omega, ?_, ?_⟩ (by simp only;omega)
   ·rw [hset];have:n-(i+1)=m:=by omega
    simp only [this];exact zU hrow
   ·simp only [zE7,hlen,htx,hty,zmI];have e:D%4294967296+c+d=a+4294967296*(D/9223372036854775808):=by omega
    have e2:4294967296^i*(D%4294967296)+4294967296^i*c+4294967296^i*d=4294967296^i*a+4294967296^i*4294967296*(D/9223372036854775808):=by
     rw [zmz,<-Nat.mul_add,<-Nat.mul_add,e,znB]
    omega
  ·have h2:(wds y).length<=i:=by have:=zly h2;omega
   have hty:wval ((wds y).take (i+1))=wval ((wds y).take i):=by rw [zlw tO,zlw h2]
   obtain ⟨D,hD⟩:∃ D:Nat,(((a:Int)-c)%18446744073709551616).toNat=D:=⟨_,rfl⟩;rw [hD];refine zNi (D%4294967296) tO<|sAt ⟨by omega,by omega⟩<|zKs i (zBY (D%4294967296)) tO hrow hget rfl zD_ rfl (fun cs h=>by cases h)<|zx (zkA D)<|zS (r:=i+1) rfl tO ?_;refine zAR (SAd.mk (i+1) (D/9223372036854775808) (ds++[D%4294967296])) rfl ⟨hO.set (zlK _) _,by simp [hlen],by simp only;omega,hsm.snoc tO,by simp only;omega, ?_, ?_⟩ (by simp only;omega)
   ·rw [hset];have:n-(i+1)=m:=by omega
    simp only [this];exact zU hrow
   ·simp only [zE7,hlen,htx,hty,zmI];have e:D%4294967296+c=a+4294967296*(D/9223372036854775808):=by omega
    have e2:4294967296^i*(D%4294967296)+4294967296^i*c=4294967296^i*a+4294967296^i*4294967296*(D/9223372036854775808):=by
     rw [zmz,<-Nat.mul_add,<-Nat.mul_add,e]
    omega
 ·have h:i=n:=by have:=zly h;omega
  subst h;rw [Nat.sub_self,znc,zma] at hrow;rw [zlw tO,zlw tO,zE6,zE6] at hval;have hv:wval ds=x-y:=by
   have h1:=zSz hsm;rw [hd] at h1;have hc0:c=0:=by
    rcases znI c with h|h
    ·exact h
    ·have hc1:c=1:=by omega
     rw [hc1,znY] at hval;omega
   rw [hc0] at hval;omega
  have ht:=hT H.length i ds _ hd hrow hsm tO;rw [hv] at ht;refine zM ht ?_;exact zQs rfl rfl (zQR (zlK _) hrow hsm hv) rfl (hO.set (zlK _) _)
end
def zYr (x y:Nat):Int:=if x<y then -1 else if x=y then 0 else 1
theorem zbG {x y:Nat} (h:x<y):zYr x y=-1:=zlF h
theorem zh3 (x:Nat):zYr x x=0:=by unfold zYr;rw [zlD tO,zlF rfl]
theorem zbH {x y:Nat} (h:y<x):zYr x y=1:=by unfold zYr;rw [zlD tO,zlD tO]
theorem zh4 (av bv:AV) (x y:Nat) (H:Heap) (ha:Mag av x) (hb:Mag bv y) (h1:(wds x).length<=100000) (h2:(wds y).length<=100000):EFun C GT zHA [av,bv] H (zH (zYr x y)) H:=by
 refine zJ ?_;refine zBH (wds x).length ha zS_<|zBH (wds y).length hb zS_ ?_;refine zEY (fun h=>?_) (fun h=>?_)
 ·have h:(wds x).length≠(wds y).length:=by simp only [zlz,ne_eq] at h;omega
  refine zBH (wds x).length ha zS_<|zBH (wds y).length hb zS_ ?_;refine zEY (fun h2=>?_) (fun h2=>?_)
  ·have h2:(wds x).length<(wds y).length:=by have:=zlr h2;omega
   rw [zbG (zNe h2)];exact sRr
  ·have h2:(wds y).length<(wds x).length:=by have:=zly h2;omega
   rw [zbH (zNe h2)];exact sRr
 have h:(wds x).length=(wds y).length:=by simp only [zle] at h;omega
 have key:∀ (e:Int),zYr x y=e->True:=fun _ _=>trivial;refine zBH (wds x).length ha zS_<|zjg ⟨by omega,by omega⟩ ?_;refine zBG (fun k:Nat=>[(5,zH ((k:Int)-1)),(1,bv),(0,av)]) (fun k H'=>H'=H/\k<=(wds x).length/\(wds x).drop k=(wds y).drop k) (fun k=>k) (wds x).length rfl
  ⟨rfl,zlK _,by rw [List.drop_length,h,List.drop_length]⟩ (fun k H1 ⟨e,hk,hd⟩=>?_)
 subst e;dsimp only;refine zEY (fun h3=>?_) (fun h3=>?_)
 ·have h3:1<=k:=by have:=zlr h3;omega
  obtain ⟨i,rfl⟩:∃ i,k=i+1:=⟨k-1,by omega⟩;have hx:i<(wds x).length:=by omega
  have hy:i<(wds y).length:=by omega
  have hax:=zK6 hx;have hby:=zK6 hy;have hsx:=zB4 x _ (zmM hx);have hsy:=zB4 y _ (zmM hy);have top1:=fun hlt=>zaX (zB4 x) (zB4 y) h hx hd hlt;have top2:=fun hlt=>zaX (zB4 y) (zB4 x) h.symm hy hd.symm hlt;rw [zE6,zE6] at top1 top2;have hdx:(wds x).drop i=(wds x)[i]::(wds x).drop (i+1):=(znN hx).symm;have hdy:(wds y).drop i=(wds y)[i]::(wds y).drop (i+1):=(znN hy).symm;generalize (wds x)[i]=a at *;generalize (wds y)[i]=d at *;refine zFD i (zBY a) ha tO hax<|zA9 (zBY a) rfl<|zFD i (zBY d) hb tO hby<|zA9 (zBY d) rfl ?_;refine zEY (fun h4=>?_) (fun h4=>?_)
  ·have h4:a≠d:=by simp only [zlz,ne_eq] at h4;omega
   refine zFD i (zBY a) ha tO hax<|zA9 (zBY a) rfl<|zFD i (zBY d) hb tO hby<|zA9 (zBY d) rfl ?_;refine zEY (fun h5=>?_) (fun h5=>?_)
   ·have h5:a<d:=by have:=zlr h5;omega
    rw [zbG (top1 h5)];exact sRr
   ·have h5:d<a:=by have:=zly h5;omega
    rw [zbH (top2 h5)];exact sRr
  ·have h4:a=d:=by simp only [zle] at h4;omega
   refine zjg ⟨by omega,by omega⟩ ?_;refine zAR i ?_ ⟨rfl,by omega,by rw [hdx,hdy,h4,hd]⟩ tO;have:((i+1:Nat):Int)-1-1=(i:Int)-1:=by omega
   simp only [<-this];rfl
 ·have h3:k=0:=by have:=zly h3;omega
  subst h3;have e:x=y:=by
   rw [<-zE6 x,<-zE6 y];simp only [znC] at hd;rw [hd]
  rw [e,zh3];exact sRr
def zes (xn:Bool) (x:Nat) (yn:Bool) (y:Nat):Bool×Nat:=if xn=yn then (xn,x+y) else if y<=x then (xn,x-y) else (yn,y-x)
theorem zh5 (hA:∀ av bv x y H,Mag av x->Mag bv y->(wds x).length<=100000->(wds y).length<=100000->C zDY [av,bv] H (zFV (x+y)) H)
  (hS:∀ av bv x y H,Mag av x->Mag bv y->y<=x->(wds x).length<=100000->C zCL [av,bv] H (zFV (x-y)) H)
  (hC:∀ av bv x y H,Mag av x->Mag bv y->(wds x).length<=100000->(wds y).length<=100000->C zDZ [av,bv] H (zH (zYr x y)) H)
  (av bv:AV) (xn yn:Bool) (x y:Nat) (H:Heap) (ha:Mag av x) (hb:Mag bv y) (h1:(wds x).length<=100000) (h2:(wds y).length<=100000) :
  EFun C GT zG8 [.bool xn,av,.bool yn,bv] H (.tup [.bool (zes xn x yn y).1,zFV (zes xn x yn y).2]) H:=by
 obtain ⟨r,hr⟩:∃ r,zes xn x yn y=r:=⟨_,rfl⟩;rw [hr];unfold zes at hr;have c1:=hA av bv x y H ha hb h1 h2;have c2:=hC av bv x y H ha hb h1 h2;refine zJ ?_;by_cases he:xn=yn
 ·rw [zlF he] at hr;subst hr;subst he;cases xn
  ·refine zE<|zM (c1) ?_
   exact sRr
  ·refine zE<|zM (c1) ?_
   exact sRr
 rw [zlD he] at hr;by_cases hle:y<=x
 ·rw [zlF hle] at hr;subst hr;have c3:=hS av bv x y H ha hb hle h1;have hg:decide (zYr x y>=0)=true:=by unfold zYr;rw [zlD tO];split <;> rfl
  cases xn <;> cases yn <;> first|exact absurd rfl he|skip
  all_goals
   refine zG<|zM (c2) ?_;refine zEY (fun _=>?_) (fun h=>absurd (hg.symm.trans h) zS_)
   refine zM (c3) ?_;exact sRr
 ·rw [zlD hle] at hr;subst hr;have c3:=hS bv av y x H hb ha tO h2;have hg:decide (zYr x y>=0)=false:=by unfold zYr;rw [zlF tO];rfl
  cases xn <;> cases yn <;> first|exact absurd rfl he|skip
  all_goals
   refine zG<|zM (c2) ?_;refine zEY (fun h=>absurd (hg.symm.trans h) zS_) (fun _=>?_)
   refine zM (c3) ?_;exact sRr
end
def zGG (v:Int):List AV:=[.bool (decide (v<0)),zFV v.natAbs]
theorem zbI:∀ (n q:Nat),q<(wds n).length->(wds n)[q]?=some (n/4294967296^q%4294967296):=by
 intro n;induction n using Nat.strongRecOn with
 |ind n ih=>
  intro q hq;have hn:n≠0:=fun e=>by subst e;simp [zE5] at hq
  rw [zDG hn] at hq ⊢;cases q with
  |zero=>simp
  |succ q=>
   rw [zm6,ih _ tO q (by simpa using hq),znO,zmI,zmZ 4294967296]
theorem zkD (q:Nat):4294967296^q=2^(32*q):=by rw [Nat.pow_mul]
theorem zWF (m i:Nat):m/4294967296^(i/32)%4294967296/2^(i%32)%2=m/2^i%2:=by
 have hr:i%32<32:=Nat.mod_lt _ tO;obtain ⟨k,hk⟩:∃ k,32=i%32+(k+1):=⟨31-i%32,by omega⟩;have e1:(4294967296:Nat)=2^(i%32)*2^(k+1):=by rw [<-Nat.pow_add,<-hk]
 have e2:m/4294967296^(i/32)%4294967296/2^(i%32)=m/4294967296^(i/32)/2^(i%32)%2^(k+1):=by
  conv=>lhs;lhs;rhs;rw [e1]
  rw [Nat.mod_mul_right_div_self]
 rw [e2,Nat.mod_mod_of_dvd _ (by rw [zmI];exact Nat.dvd_mul_left 2 _),zkD,znO,<-Nat.pow_add];have:32*(i/32)+i%32=i:=Nat.div_add_mod i 32;rw [this]
theorem zet {m i:Nat} (h:(wds m).length<=i/32):m/2^i%2=0:=by
 have h1:=zgj m;have h2:4294967296^(wds m).length<=4294967296^(i/32):=zmT tO h;rw [zkD (i/32)] at h2;have h3:2^(32*(i/32))<=2^i:=zmT tO tO;rw [Nat.div_eq_of_lt tO]
theorem zRw:∀ k n:Nat,n/2^k≠0->bits n=bits (n/2^k)+k
 |0,n,_=>by simp
 |k+1,n,h=>by
  have hn:n≠0:=fun e=>by subst e;simp at h
  have e:n/2^(k+1)=n/2/2^k:=by rw [znO,zmI,zmZ]
  rw [e] at h ⊢;rw [zO0 hn,zRw k (n/2) h];omega
theorem zeu:∀ (m k:Nat),(wds m).length=k+1->bits m=k*32+bits (m/4294967296^k%4294967296):=by
 intro m;induction m using Nat.strongRecOn with
 |ind m ih=>
  intro k hk;have hm:m≠0:=fun e=>by subst e;simp [zE5] at hk
  rw [zDG hm,zlE] at hk;by_cases h2:m/4294967296=0
  ·rw [h2,zE5] at hk;have:k=0:=by simpa using hk.symm
   subst this;rw [Nat.pow_zero,Nat.div_one,znW tO];omega
  ·have h3:(wds (m/4294967296)).length≠0:=by rw [zDG h2];simp
   obtain ⟨j,rfl⟩:∃ j,k=j+1:=⟨k-1,by omega⟩;have h4:=ih (m/4294967296) tO j tO;have h5:=zRw 32 m (by simpa using h2);have e:(2:Nat)^32=4294967296:=by decide
   rw [e] at h5;rw [h5,h4,znO,zmI,zmZ 4294967296];omega
theorem zbJ:∀ m:Nat,m≠0->∃ n,m%2^n=0/\m/2^n%2=1:=by
 intro m;induction m using Nat.strongRecOn with
 |ind m ih=>
  intro h;by_cases ho:m%2=1
  ·exact ⟨0,by simp [Nat.mod_one],by simpa using ho⟩
  ·obtain ⟨n,h1,h2⟩:=ih (m/2) tO tO;refine ⟨n+1, ?_, ?_⟩
   ·rw [zmI,zmZ,Nat.mod_mul,h1];omega
   ·rw [zmI,zmZ,<-Nat.div_div_eq_div_mul];exact h2
theorem zgp {m n k:Nat} (h:m%2^n=0) (hk:k<n):m/2^k%2=0:=by
 obtain ⟨c,rfl⟩:=Nat.dvd_of_mod_eq_zero h;obtain ⟨j,rfl⟩:∃ j,n=k+(j+1):=⟨n-k-1,by omega⟩;rw [Nat.pow_add,zmz,Nat.mul_div_cancel_left _ (Nat.two_pow_pos k),zmI,zmZ (2^j) 2,zmz,Nat.mul_mod_right]
theorem tz_63 {m:Nat} (h:m<18446744073709551616) (h1:m%2^63=0) (h2:m/2^63%2=1):m=9223372036854775808:=by
 have e:(2:Nat)^63=9223372036854775808:=by decide
 rw [e] at h1 h2;omega
theorem shrN (w r:Nat) (h:r<=32):zDr .shr .u32 (w:Int) (r:Int)=some (.int .u32 ((w/2^r:Nat):Int)):=by
 simp only [zDr];rw [zlD tO];have e:Nat.min (r:Int).toNat IntKind.u32.bits=r:=by
  rw [zlo];exact zmw h
 have e2:((2:Int)^r)=((2^r:Nat):Int):=by simp
 rw [e,e2,znX _ (zn0 _)];rfl
theorem shr1w (w:Nat):zDr .shr .u32 (w:Int) 1=some (.int .u32 ((w/2:Nat):Int)):=by
 have:=shrN w 1 tO;simpa using this
theorem and1 (a:Nat) (h:a<18446744073709551616):zI3 .and .u64 (a:Int) 1=some (.int .u64 ((a%2:Nat):Int)):=by
 simp only [zI3];have e:(BitVec.ofInt IntKind.u64.bits (a:Int) &&& BitVec.ofInt IntKind.u64.bits 1).toNat=a%2:=by
  rw [BitVec.toNat_and];have h1:(BitVec.ofInt IntKind.u64.bits (a:Int)).toNat=a:=by
   show (BitVec.ofInt 64 (a:Int)).toNat=a;rw [BitVec.toNat_ofInt];have:((a:Int)%((2^64:Nat):Int))=(a:Int):=by rw [Int.emod_eq_of_lt tO (by simp;omega)]
   rw [this,zlo]
  have h2:(BitVec.ofInt IntKind.u64.bits 1).toNat=1:=by decide
  rw [h1,h2,Nat.and_one_is_mod]
 rw [e,IntKind.wrap_u64];have:((a%2:Nat):Int)%18446744073709551616=((a%2:Nat):Int):=by omega
 rw [this]
theorem zkE (a:Nat) (h:a<4294967296):zDr .shl .u64 (a:Int) 32=some (.int .u64 ((a*4294967296:Nat):Int)):=by
 simp only [zDr];rw [zlD tO];have:(2:Int)^Nat.min (32:Int).toNat IntKind.u64.bits=4294967296:=by rfl
 rw [this,IntKind.wrap_u64];have:((a:Int)*4294967296)%18446744073709551616=((a*4294967296:Nat):Int):=by omega
 rw [this]
theorem or32 (a b:Nat) (ha:a<4294967296) (hb:b<4294967296):zI3 .or .u64 (a:Int) ((b*4294967296:Nat):Int)=some (.int .u64 ((a+4294967296*b:Nat):Int)):=by
 simp only [zI3];have of (x:Nat) (hx:x<18446744073709551616):(BitVec.ofInt IntKind.u64.bits (x:Int)).toNat=x:=by
  show (BitVec.ofInt 64 (x:Int)).toNat=x;rw [BitVec.toNat_ofInt];have:((x:Int)%((2^64:Nat):Int))=(x:Int):=by rw [Int.emod_eq_of_lt tO (by simp;omega)]
  rw [this,zlo]
 have e:(BitVec.ofInt IntKind.u64.bits (a:Int) ||| BitVec.ofInt IntKind.u64.bits ((b*4294967296:Nat):Int)).toNat=a+4294967296*b:=by
  rw [BitVec.toNat_or,of a tO,of _ tO,Nat.or_comm,zmZ b];have:=Nat.two_pow_add_eq_or_of_lt (i:=32) (b:=a) (by simpa using ha) b;have e32:(2:Nat)^32=4294967296:=by decide
  rw [e32] at this;rw [<-this];omega
 rw [e,IntKind.wrap_u64];have:((a+4294967296*b:Nat):Int)%18446744073709551616=((a+4294967296*b:Nat):Int):=by omega
 rw [this]
theorem zTA {F:AF} {H H1:Heap} {fr:Fr} {v:AV} {b:Nat} {cs:List AV} (hH:H1=H.set b (.box cs)) (hk:F.keep=false) (hr:(zBh fr H1 F.results).map tupled=some v) (hf:zEM H.length v H1=some (v,H1)) (hb:v.bel H.length=true) (hc:zHi H.length (.box cs)=true) :
  retP F H fr H1 v (H.set b (.box cs)):=by
 refine zgd ?_;unfold zHj;cases hs:zBh fr H1 F.results with
 |none=>rw [hs] at hr;cases hr
 |some vs=>
  rw [hs] at hr;simp only [zlW,zlJ] at hr;subst hr;simp only [hk,hf,zlO,zlj];subst hH;refine ⟨hb,fun c hc'=>?_,trivial, ?_⟩
  ·by_cases e:b=c
   ·subst e;exact .inr ⟨_,zli hc',hc⟩
   ·exact .inl (zlm e)
  ·rw [zlw (by rw [zlP];omega)]
theorem zMn {F:AF} {H H1:Heap} {fr:Fr} {v:AV} (hk:F.keep=true) (hr:(zBh fr H1 F.results).map tupled=some v):retP F H fr H1 v H1:=by
 refine zgd ?_;unfold zHj;cases hs:zBh fr H1 F.results with
 |none=>rw [hs] at hr;cases hr
 |some vs=>
  rw [hs] at hr;simp only [zlW,zlJ] at hr;subst hr;simp only [hk,zlp];exact ⟨trivial,trivial⟩
section
variable {C:CSpec} {GT:zG_}
theorem zkF (av:AV) (m i:Nat) (H:Heap) (ha:Mag av m) (hl:(wds m).length<=100000) (hi:i<=1000000):EFun C GT zHC [av,zH i] H (zTc (m/2^i%2)) H:=by
 obtain ⟨r,hr⟩:∃ r,m/2^i%2=r:=⟨_,rfl⟩;have hd:(i:Int).tdiv 32=((i/32:Nat):Int):=(Int.ofNat_tdiv i 32).symm;rw [hr];refine zJ<|sX ?_;refine zBF zD_<|zS (r:=i/32) hd tO<|zBH (wds m).length ha zS_<|sX ?_;refine zEY (fun h=>?_) (fun h=>?_)
 ·have h:(wds m).length<=i/32:=by have:=zlr h;omega
  rw [zet h] at hr;subst hr;exact sRv
 ·have h:i/32<(wds m).length:=by have:=zly h;omega
  have hg:=zK6 h;have hw:=zB4 m _ (zmM h);have he:=zbI m (i/32) h;rw [zlI h] at he;have he:=zlb he;have hb:=zWF m i;rw [<-he,hr] at hb;generalize (wds m)[i/32]=w at *;have hw2:w/2^(i%32)<=w:=Nat.div_le_self _ _;have hm:(i:Int).tmod 32=((i%32:Nat):Int):=(Int.ofNat_tmod i 32).symm;subst hb;refine zBF zD_<|zS (r:=i/32) hd tO<|zFD (i/32) (zBY w) ha rfl hg<|sX ?_;refine zEI (r:=i) rfl tO<|zBF zD_<|zDh (r:=((i%32:Nat):Int)) hm<|zx (shrN w (i%32) tO)<|zEI (r:=w/2^(i%32)) rfl tO<|zx (and1 (w/2^(i%32)) tO) ?_
  exact sRv
theorem zkG (hB:∀ (av:AV) (m i:Nat) (H:Heap),Mag av m->(wds m).length<=100000->i<=1000000->C zDa [av,zH i] H (zTc (m/2^i%2)) H) (b m n:Nat) (x av:AV) (H:Heap) (hb:H[b]?=some (.box [x,av])) (ha:Mag av m) (h0:m≠0) (hl:(wds m).length<=100) (hn:n<=10000) (h1:m%2^n=0) (h2:m/2^n%2=1) :
  EFun C GT zBq [.ref b 0 0 0] H (zTc n) H:=by
 have hlz:(wds m).length≠0:=by rw [zDG h0];simp
 refine zJ<|sX ?_;refine zBH (wds m).length ha zS_ ?_;refine zEY (fun h=>absurd (eq_of_beq h) tO) (fun _=>?_)
 refine zBG (fun k:Nat=>[(3,zTc k),(0,.ref b 0 0 0)]) (fun k H'=>H'=H/\k<=n) (fun k=>n-k) 0 rfl ⟨rfl,zl6 _⟩ (fun k H1 ⟨e,hk⟩=>?_);subst e;dsimp only;have hbk:=hB av m k H1 ha tO tO;by_cases hkn:k=n
 ·subst hkn;rw [h2] at hbk;refine sX ?_;refine zS (r:=k) rfl tO<|sX ?_
  exact sRv
 ·rw [zgp h1 (by omega:k<n)] at hbk;refine sX ?_;refine zS (r:=k) rfl tO<|sX ?_;refine zEI (r:=k+1) rfl tO ?_
  exact zAR (k+1) rfl ⟨rfl,by omega⟩ tO
structure SLe where
 t:Nat
 n:Nat
theorem zbK (av:AV) (m:Nat) (H:Heap) (ha:Mag av m) (hl:(wds m).length<=1000):EFun C GT zFg [av] H (zK (bits m)) H:=by
 obtain ⟨r,hr⟩:∃ r,bits m=r:=⟨_,rfl⟩;rw [hr];refine zJ<|zBH (wds m).length ha zS_ ?_;refine zEY (fun h=>?_) (fun h=>?_)
 ·have h:(wds m).length=0:=by have:=eq_of_beq h;omega
  have h0:m=0:=by
   by_cases e:m=0
   ·exact e
   ·rw [zDG e] at h;simp at h
  subst h0;subst hr;exact sRv
 ·have h:(wds m).length≠0:=fun e=>by rw [e] at h;exact absurd h zS_
  obtain ⟨k,hk⟩:∃ k,(wds m).length=k+1:=⟨(wds m).length-1,by omega⟩;have hlt:k<(wds m).length:=by omega
  have hg:=zK6 hlt;have he:=zbI m k hlt;rw [zlI hlt] at he;have he:=zlb he;have ht:=zeu m k hk;rw [<-he,hr] at ht;have hw:=zB4 m _ (zmM hlt);generalize (wds m)[k]=w at *;have hbw:bits w<=32:=(zV0_ 32 w).2 hw;refine zBH (k+1) ha (by simp [hk])<|zS (r:=k) tO tO<|sX ?_;refine zBG (fun s:SLe=>[(4,zBY s.t),(3,zK s.n),(0,av)]) (fun s H'=>H'=H/\s.n+bits s.t=bits w) (fun s=>s.t) ⟨w,0⟩ rfl ⟨rfl,by simp⟩ (fun ⟨t,n⟩ H1 ⟨e,hn⟩=>?_)
  subst e;simp only at hn;dsimp only;refine zEY (fun hc=>?_) (fun hc=>?_)
  ·have hc:t≠0:=fun e=>by rw [e] at hc;exact absurd hc zS_
   rw [zO0 hc] at hn;refine zS (r:=n+1) rfl tO<|zx (shr1w t) ?_
   exact zAR (SLe.mk (t/2) (n+1)) rfl ⟨rfl,by simp only;omega⟩ (by simp only;omega)
  ·have hc:t=0:=by simp only [zle] at hc;omega
   subst hc;have hz:bits 0=0:=rfl;rw [hz] at hn;have hn':n=bits w:=by omega
   subst hn';subst ht;refine zBH (k+1) ha (by simp [hk])<|zS (r:=k) tO tO<|zS (r:=k*32) tO tO<|zS (r:=k*32+bits w) tO tO ?_
   exact sRv
theorem zbL (b m:Nat) (x av:AV) (H:Heap) (hb:H[b]?=some (.box [x,av])) (ha:Mag av m) (hm:m<18446744073709551616):EFun C GT zD4 [.ref b 0 0 0] H (zTc m) H:=by
 refine zJ ?_;by_cases h0:m=0
 ·subst h0;refine sW ?_;refine zBH 0 ha rfl<|sW ?_;refine zBH 0 ha rfl<|sW ?_
  exact sRr
 have hw:wds m=(m%4294967296)::wds (m/4294967296):=zDG h0;by_cases h1:m/4294967296=0
 ·rw [h1,zE5] at hw;have hm':m%4294967296=m:=by omega
  rw [hm'] at hw;have ha':zDe av 1 [zBY m]:=by unfold Mag at ha;rw [hw] at ha;exact ha
  refine sX ?_;refine zBH 1 ha' rfl<|sX ?_;refine zFD 0 (zBY m) ha' rfl rfl<|sX ?_;refine zEI (r:=m) rfl tO<|sX ?_;refine zBH 1 ha' rfl<|sX ?_
  exact sRv
 ·have hw2:wds (m/4294967296)=[m/4294967296]:=by
   rw [zDG h1];have e1:m/4294967296/4294967296=0:=by omega
   have e2:m/4294967296%4294967296=m/4294967296:=by omega
   rw [e1,e2,zE5]
  rw [hw2] at hw;have ha':zDe av 1 [zBY (m%4294967296),zBY (m/4294967296)]:=by unfold Mag at ha;rw [hw] at ha;exact ha
  have e:m%4294967296+4294967296*(m/4294967296)=m:=by omega
  have hor:=or32 (m%4294967296) (m/4294967296) tO tO;rw [e] at hor;refine sX ?_;refine zBH 2 ha' rfl<|sX ?_;refine zFD 0 (zBY (m%4294967296)) ha' rfl rfl<|sX ?_;refine zEI (r:=m%4294967296) rfl tO<|sX ?_;refine zBH 2 ha' rfl<|sX ?_;refine zFD 1 (zBY (m/4294967296)) ha' rfl rfl<|sX ?_;refine zEI (r:=m/4294967296) rfl tO<|zx (zkE (m/4294967296) tO)<|zx hor ?_
  exact sRr
theorem zev (hU:∀ b m x av H,H[b]?=some (.box [x,av])->Mag av m->m<18446744073709551616->C zBR [.ref b 0 0 0] H (zTc m) H) (b:Nat) (v:Int) (H:Heap) (hb:H[b]?=some (.box (zGG v))) (hv:zEK v) :
  EFun C GT zEF [.ref b 0 0 0] H (zH v) H:=by
 unfold zEK at hv;have hu:=hU b v.natAbs _ _ H hb (zGc _) tO;unfold zGG at hb;refine zJ ?_;by_cases hn:v<0
 ·rw [zlY hn] at hb;have e:aUn .neg (.int .i64 (if v=-9223372036854775808 then v else -v))=some (zH v):=by
   simp only [aUn];rw [IntKind.wrap_i64];by_cases h:v=-9223372036854775808
   ·subst h;rfl
   ·rw [zlD h];have:(0 - -v+9223372036854775808)%18446744073709551616-9223372036854775808=v:=by omega
    rw [this];rfl
  refine sX ?_;refine zDh (r:=if v=-9223372036854775808 then v else -v) (by rw [IntKind.wrap_i64];split <;> omega)<|zA (.bool true) hb rfl<|zE<|zx e ?_
  exact sRr
 ·rw [zlf hn] at hb;refine sX ?_;refine zDh (r:=v) (by rw [IntKind.wrap_i64];omega)<|sX ?_
  exact sRv
theorem zYs (hL:∀ av m H,Mag av m->(wds m).length<=1000->C zCM [av] H (zK (bits m)) H)
  (hT:∀ b m n x av H,H[b]?=some (.box [x,av])->Mag av m->m≠0->(wds m).length<=100->n<=10000->m%2^n=0->m/2^n%2=1->C zAU [.ref b 0 0 0] H (zTc n) H)
  (b:Nat) (v:Int) (H:Heap) (hb:H[b]?=some (.box (zGG v))) (hv:(wds v.natAbs).length<=100):EFun C GT zDl [.ref b 0 0 0] H (.bool (decide (zEK v))) H:=by
 obtain ⟨r,hr⟩:∃ r,decide (zEK v)=r:=⟨_,rfl⟩;rw [hr];have hl:=hL (zFV v.natAbs) v.natAbs H (zGc _) tO;have b63:=zV0_ 63 v.natAbs;have b64:=zV0_ 64 v.natAbs;have e63:(2:Nat)^63=9223372036854775808:=by decide
 have e64:(2:Nat)^64=18446744073709551616:=by decide
 rw [e63] at b63;rw [e64] at b64;have hb2:H[b]?=some (.box [.bool (decide (v<0)),zFV v.natAbs]):=hb;clear hb;refine zJ<|sX ?_
 generalize bits v.natAbs=L at *;refine zEY (fun h=>?_) (fun h=>?_)
 ·have h:L<=63:=by have:=zlr h;omega
  have:zEK v:=by unfold zEK;have:=b63.1 h;omega
  rw [zlY this] at hr;subst hr;refine sX ?_;exact sRv
 ·have h:¬ L<=63:=by have:=zly h;omega
  have hbig:¬ v.natAbs<9223372036854775808:=fun h'=>h (b63.2 h');refine zEY (fun h64=>?_) (fun h64=>?_)
  ·have h64:L<=64:=by have:=eq_of_beq h64;omega
   have hlt:=b64.1 h64;by_cases hn:v<0
   ·rw [zlY hn] at hb2;obtain ⟨n,t1,t2⟩:=zbJ v.natAbs tO;have hn64:n<64:=by
     rcases zmp n 64 with h|h
     ·exact h
     ·have h1:2^64<=2^n:=zmT tO h;rw [e64] at h1;rw [znW tO] at t1;omega
    have ht:=hT b v.natAbs n _ _ H hb2 (zGc _) tO hv tO t1 t2;by_cases h63:n=63
    ·subst h63;have:=tz_63 hlt t1 t2;have hin:zEK v:=by unfold zEK;omega
     rw [zlY hin] at hr;subst hr;refine sX ?_;exact sRv
    ·have hin:¬ zEK v:=fun hin=>by
      unfold zEK at hin;have e:v.natAbs=2^63:=by rw [e63];omega
      rw [e] at t1 t2;rcases Nat.lt_or_gt_of_ne h63 with h|h
      ·have:=zgp (m:=2^63) (n:=63) (k:=n) (Nat.mod_self _) h;omega
      ·have h1:(2:Nat)^63<2^n:=Nat.pow_lt_pow_right tO h;rw [znW h1] at t1;omega
     have hne:((n:Int)==63)=false:=by rw [beq_eq_false_iff_ne];omega
     rw [zlf hin] at hr;subst hr;refine sX ?_;exact zHO (zlR AV.bool hne.symm) rfl rfl rfl rfl hO
   ·rw [zlf hn] at hb2;have hin:¬ zEK v:=fun hin=>by unfold zEK at hin;omega
    rw [zlf hin] at hr;subst hr;refine sX ?_;exact sRv
  ·have h64:¬ L<=64:=fun h'=>by
    have:L=64:=by omega
    rw [this] at h64;exact absurd h64 zS_
   have hgt:¬ v.natAbs<18446744073709551616:=fun h'=>h64 (b64.2 h');have hin:¬ zEK v:=fun hin=>by unfold zEK at hin;omega
   rw [zlf hin] at hr;subst hr;refine sX ?_;exact sRv
theorem zh6 (b n:Nat) (neg:Bool) (x0 x1:AV) (H:Heap) (hb:H[b]?=some (.box [x0,x1])):EFun C GT zCt [.ref b 0 0 0,.bool neg,zFV n] H (.ref b 0 0 0) (H.set b (.box [.bool (neg&&decide (0<n)),zFV n])):=by
 have hbl:=zl_ hb;have hz:((wds n).length>0)↔0<n:=by
  by_cases e:n=0
  ·subst e;simp [zE5]
  ·rw [zDG e];simp;omega
 have hd:decide (((wds n).length:Int)>0)=decide (0<n):=by
  rw [zng,zmb,zmb,<-hz];omega
 refine zJ ?_;cases neg
 ·refine sS (zFV n) [x0,zFV n] ?_;refine sX ?_;refine sS (.bool false) [.bool false,zFV n] ?_;exact zTA (by rw [znj];rfl) rfl rfl rfl (zlY hbl) rfl
 ·refine sS (zFV n) [x0,zFV n] ?_;refine sX ?_;refine zBH (wds n).length (zGc n) zS_<|sX ?_;refine sS (.bool (decide (((wds n).length:Int)>0))) [.bool (decide (((wds n).length:Int)>0)),zFV n] ?_
  exact zTA (by rw [znj,hd];rfl) rfl rfl rfl (zlY hbl) rfl
theorem zWG (hW:∀ x H,x<18446744073709551616->C zCb [zTc x] H (zFV x) H) (hG:∀ b n neg x0 x1 H,H[b]?=some (.box [x0,x1])->C z7 [.ref b 0 0 0,.bool neg,zFV n] H (.ref b 0 0 0) (H.set b (.box [.bool (neg&&decide (0<n)),zFV n])))
  (b:Nat) (v:Int) (x0 x1:AV) (H:Heap) (hb:H[b]?=some (.box [x0,x1])) (hv:zEK v):EFun C GT zDb [.ref b 0 0 0,zH v] H (.ref b 0 0 0) (H.set b (.box (zGG v))):=by
 have hbl:=zl_ hb;unfold zEK at hv;have hw:=hW v.natAbs H tO;have hg:=hG b v.natAbs (decide (v<0)) x0 x1 H hb;have e0:(decide (v<0)&&decide (0<v.natAbs))=decide (v<0):=by
  by_cases h:v<0
  ·rw [zlY h,tT (by omega:0<v.natAbs)];rfl
  ·rw [zlf h];rfl
 rw [e0] at hg;refine zJ ?_;by_cases hn:v<0
 ·have e:aUn .neg (.int .u64 (18446744073709551616+v))=some (zTc v.natAbs):=by
   simp only [aUn];rw [IntKind.wrap_u64];have:(0-(18446744073709551616+v))%18446744073709551616=(v.natAbs:Int):=by omega
   rw [this];rfl
  refine zDh (r:=18446744073709551616+v) (by rw [IntKind.wrap_u64];omega) ?_;refine zEY (fun _=>?_) (fun h=>absurd hn (zly h));refine zx e<|zM (hw)<|zCI hg (fun h=>by cases h) ?_
  exact zTA rfl rfl rfl rfl (zlY hbl) rfl
 ·refine zDh (r:=(v.natAbs:Int)) (by rw [IntKind.wrap_u64];omega) ?_;refine zEY (fun h=>absurd (zlr h) hn) (fun _=>?_);refine sX ?_;exact zTA rfl rfl rfl rfl (zlY hbl) rfl
def zXN:AF:={ zJx with keep:=true }
theorem zbM (hS:∀ b v x0 x1 H,H[b]?=some (.box [x0,x1])->zEK v->C zBE [.ref b 0 0 0,zH v] H (.ref b 0 0 0) (H.set b (.box (zGG v)))) (v:Int) (H:Heap) (hv:zEK v) :
  EFun C GT zXN [zH v] H (.ref H.length 0 0 0) (H++[.box (zGG v)]):=by
 have hs:=hS H.length v (.bool false) (.lst (some true) 0 []) (H++[.box zV6]) zB hv;have e:(H++[ABlk.box zV6]).set H.length (.box (zGG v))=H++[.box (zGG v)]:=by
  rw [zml _ _ (zlK _),Nat.sub_self];rfl
 rw [e] at hs;refine zJ<|sX ?_
 exact zMn rfl rfl
theorem zh7 (hI:∀ b v H,H[b]?=some (.box (zGG v))->(wds v.natAbs).length<=100->C zBL [.ref b 0 0 0] H (.bool (decide (zEK v))) H) (b:Nat) (v:Int) (H:Heap) (hb:H[b]?=some (.box (zGG v))) (hv:(wds v.natAbs).length<=100) :
  EFun C GT zKz [.ref b 0 0 0] H (.bool (decide (zEK v))) H:=by
 have h:=hI b v H hb hv;refine zJ<|sX ?_
 exact sRv
theorem zTB {n k:Nat} (h:n<4294967296^k):(wds n).length<=k:=by
 rcases zmp k (wds n).length with h2|h2
 ·have hn:n≠0:=fun e=>by subst e;simp [zE5] at h2
  have h3:=zgi n hn;have h4:4294967296^k<=4294967296^((wds n).length-1):=zmT tO tO;omega
 ·exact h2
end
def zYt (v:Nat):AV:=if v=0 then .lst (some true) 0 [] else zFV (v*10)
theorem zXO (v:Nat):Mag (zYt v) (v*10):=by
 unfold zYt;by_cases h:v=0
 ·rw [zlF h];subst h;exact ⟨some true,0,rfl,.inr rfl⟩
 ·rw [zlD h];exact zGc _
theorem zh8:wds 10=[10]:=by rw [zDG zD_];rfl
theorem zew (ds:List Nat) (c m d e:Nat):((((ds++c::List.replicate (m+1) 0).map zBY).set ds.length (zBY d)).set (ds.length+1) (zBY e))=((ds++[d])++e::List.replicate m 0).map zBY:=by
 rw [<-List.map_set,<-List.map_set,zml _ _ (zlK _),Nat.sub_self,zml _ _ tO,zmu];simp [znb]
theorem zex (ds:List Nat) (c:Nat) (zs:List Nat):((ds++c::zs).map zBY)[ds.length]?=some (zBY c):=by
 rw [zlQ,zld (zlK _),Nat.sub_self];rfl
theorem zey (ds:List Nat) (c m d:Nat):(((ds++c::List.replicate (m+1) 0).map zBY).set ds.length (zBY d))[ds.length+1]?=some (zBY 0):=by
 rw [zlm tO,zlQ,zld tO,zmu];rfl
structure SMu where
 i:Nat
 c:Nat
 ds:List Nat
structure SMj where
 j:Nat
 c:Nat
section
variable {C:CSpec} {GT:zG_}
theorem zez (hT:∀ b m ws H,ws.length=m->H[b]?=some (.row 1 (ws.map zBY))->Small ws->m<=1000000->C zAG [.sl (some false) b 1 0 m] H (.sl (some false) b 1 0 (wds (wval ws)).length) H)
  (av:AV) (x n:Nat) (H:Heap) (ha:Mag av x) (hn:(wds x).length=n) (hl:n<=100000):EFun C GT zG7 [av,zFV 10] H (zYt x) H:=by
 have hal:((wds x).map zBY).length=n:=by rw [zlM,hn]
 have hb:zDe (zFV 10) 1 [zBY 10]:=by have:=zGc 10;unfold Mag at this;rw [zh8] at this;exact this
 refine zJ ?_;unfold zYt;by_cases h0:x=0
 ·subst h0;have hn0:n=0:=by rw [<-hn];rfl
  rw [zlF rfl];refine sX ?_;exact sRv
 rw [zlD h0];have hn1:n≠0:=by rw [<-hn,zDG h0];simp
 refine zBH n ha hal<|sW ?_;refine zBH 1 hb rfl<|sW ?_;refine zBH n ha hal<|zBH 1 hb rfl<|zS (r:=n+1) rfl tO<|zd2 (n:=n+1) rfl (Int.le_refl _) ⟨by omega,by omega⟩ rfl ?_;refine zBG (fun s:SMu=>[(6,zK s.i),(5,.sl (some false) H.length 1 0 (n+1)),(1,zFV 10),(0,av)])
  (fun s H'=>Old H H'/\s.ds.length=s.i/\s.i<=n/\Small s.ds/\s.c<=10/\H'[H.length]?=some (.row 1 ((s.ds++s.c::List.replicate (n-s.i) 0).map zBY))/\wval s.ds+4294967296^s.i*s.c=wval ((wds x).take s.i)*10) (fun s=>n-s.i) ⟨0,0,[]⟩ rfl
  ⟨(Old.refl _).push _,rfl,zl6 _,(fun w hw=>by cases hw),by simp only;omega,by rw [zl2,zni,<-List.replicate_succ,znk];exact zB,rfl⟩ (fun ⟨i,c,ds⟩ H1 ⟨hO,hd,hi,hsm,hc,hrow,hval⟩=>?_)
 simp only at hd hi hsm hc hrow hval;dsimp only;refine sX ?_;refine zEY (fun h=>?_) (fun h=>?_)
 ·have h:i<n:=by have:=zlr h;omega
  have hx:i<(wds x).length:=by omega
  have hax:=zK6 hx;have htx:=zEL hx;have hsx:=zB4 x _ (zmM hx);obtain ⟨a,had⟩:∃ a,(wds x)[i]=a:=⟨_,rfl⟩;rw [had] at hax htx hsx;obtain ⟨m,hm⟩:∃ m,n-i=m+1:=⟨n-i-1,by omega⟩;rw [hm] at hrow;have hg1:=zex ds c (List.replicate (m+1) 0);have hg2:=fun d=>zey ds c m d;have hset:=fun d e=>zew ds c m d e;rw [hd] at hg1 hg2 hset;have hsz:H1.length>H.length:=(zl_ hrow);refine zBG (fun s:SMj=>[(8,zK s.j),(6,zK i),(5,.sl (some false) H.length 1 0 (n+1)),(1,zFV 10),(0,av),(7,zTc s.c)])
   (fun s H'=>(s.j=0/\s.c=0/\H'=H1)\/(s.j=1/\s.c=(a*10+c)/4294967296/\H'=H1.set H.length (.row 1 (((ds++c::List.replicate (m+1) 0).map zBY).set i (zBY ((a*10+c)%4294967296)))))) (fun s=>1-s.j) ⟨0,0⟩ rfl (.inl ⟨rfl,rfl,rfl⟩) (fun ⟨j,c2⟩ H2 hj=>?_)
  dsimp only at hj ⊢;rcases hj with ⟨rfl,rfl,rfl⟩|⟨rfl,rfl,rfl⟩
  ·refine zBH 1 hb rfl<|zn (tT zD_)<|sX ?_;refine zEI (r:=a) rfl tO<|zFD 0 (zBY 10) hb rfl rfl<|sW ?_;refine zEI (r:=10) rfl tO<|zEI (r:=a*10) rfl tO<|zS (r:=i) tO tO<|sAt ⟨by omega,by omega⟩<|zBa i (zBY c) (zBY c) tO hrow hg1 rfl<|zEI (r:=c) rfl tO<|zEI (r:=a*10+c) rfl tO<|zEI (r:=a*10+c) tO tO<|zS (r:=i) tO tO<|zNi ((a*10+c)%4294967296) tO<|sAt ⟨by omega,by omega⟩<|zKs i (zBY ((a*10+c)%4294967296)) tO hrow hg1 rfl zD_ rfl (fun cs h=>by cases h)<|zx (zeq (a*10+c))<|zS (r:=1) tO tO ?_
   refine zAR (SMj.mk 1 ((a*10+c)/4294967296)) rfl (.inr ⟨rfl,rfl,rfl⟩) zS_
  ·have hrow2:(H1.set H.length (.row 1 (((ds++c::List.replicate (m+1) 0).map zBY).set i (zBY ((a*10+c)%4294967296)))))[H.length]?=some (.row 1 (((ds++c::List.replicate (m+1) 0).map zBY).set i (zBY ((a*10+c)%4294967296)))):=zU hrow;refine zBH 1 hb rfl<|zi (tF zD_)<|zBH 1 hb rfl<|zS (r:=i+1) rfl tO<|zNi ((a*10+c)/4294967296) tO<|sAt ⟨by omega,by omega⟩<|zKs (i+1) (zBY ((a*10+c)/4294967296)) tO hrow2 (hg2 _) rfl zD_ rfl (fun cs h=>by cases h)<|zS (r:=i+1) rfl tO ?_;refine zAR (SMu.mk (i+1) ((a*10+c)/4294967296) (ds++[(a*10+c)%4294967296])) rfl ⟨(hO.set (zlK _) _).set (zlK _) _,by simp [hd],by simp only;omega,hsm.snoc tO,by simp only;omega, ?_, ?_⟩ (by simp only;omega)
   ·have:n-(i+1)=m:=by omega
    simp only [this];rw [hset];exact zU hrow2
   ·simp only [zE7,hd,htx,zmI];have e:(a*10+c)%4294967296+4294967296*((a*10+c)/4294967296)=a*10+c:=by omega
    have e2:4294967296^i*((a*10+c)%4294967296)+4294967296^i*4294967296*((a*10+c)/4294967296)=4294967296^i*a*10+4294967296^i*c:=by
     rw [zmz,<-Nat.mul_add,e,znB,zmz]
    rw [zmA];omega
 ·have h:i=n:=by have:=zly h;omega
  subst h;rw [Nat.sub_self,znc] at hrow;rw [zlw tO,zE6,<-hd,<-zE7] at hval;have hsm2:Small (ds++[c]):=hsm.snoc tO;have ht:=hT H.length (i+1) (ds++[c]) _ (by simp [hd]) hrow hsm2 tO;rw [hval] at ht;refine sX ?_;exact zQs rfl rfl (zQR (zlK _) hrow hsm2 hval) rfl (hO.set (zlK _) _)
theorem ze0 (b:Nat) (xs:List AV) (nv x0 x1:AV) (H:Heap) (hb:H[b]?=some (.box [x0,x1])) (hv:zDe nv 1 xs):EFun C GT zCt [.ref b 0 0 0,.bool false,nv] H (.ref b 0 0 0) (H.set b (.box [.bool false,nv])):=by
 have hbl:=zl_ hb;obtain ⟨q,k',rfl,hk⟩:=hv;refine zJ<|sS (.lst q k' xs) [x0,.lst q k' xs] ?_;refine sX ?_;refine sS (.bool false) [.bool false,.lst q k' xs] ?_
 exact zTA (znj ..) rfl rfl rfl (zlY hbl) rfl
theorem zbN (hM:∀ av x H,Mag av x->(wds x).length<=100000->C zDW [av,zFV 10] H (zYt x) H)
  (hG:∀ b xs nv x0 x1 H,H[b]?=some (.box [x0,x1])->zDe nv 1 xs->C z7 [.ref b 0 0 0,.bool false,nv] H (.ref b 0 0 0) (H.set b (.box [.bool false,nv])))
  (b t v:Nat) (av:AV) (H:Heap) (hb:H[b]?=some (.box [.bool false,av])) (ht:H[t]?=some (.box (zGG 10))) (ha:Mag av v) (hl:(wds v).length<=1000) :
  EFun C GT zE0 [.ref b 0 0 0,.ref b 0 0 0,.ref t 0 0 0] H (.ref b 0 0 0) (H.set b (.box [.bool false,zYt v])):=by
 have hbl:=zl_ hb;have hm:=hM av v H ha tO;have hg:=hG b _ (zYt v) _ _ H hb (zXO v);clear hM hG;have ht:H[t]?=some (.box [.bool false,zFV 10]):=ht;refine zJ<|sX ?_
 exact zTA rfl rfl rfl rfl (zlY hbl) (by unfold zYt;split <;> rfl)
theorem zYu (hS:∀ av bv xn yn x y H,Mag av x->Mag bv y->(wds x).length<=100000->(wds y).length<=100000->C zDX [.bool xn,av,.bool yn,bv] H (.tup [.bool (zes xn x yn y).1,zFV (zes xn x yn y).2]) H)
  (hG:∀ b n neg x0 x1 H,H[b]?=some (.box [x0,x1])->C z7 [.ref b 0 0 0,.bool neg,zFV n] H (.ref b 0 0 0) (H.set b (.box [.bool (neg&&decide (0<n)),zFV n])))
  (b t v d:Nat) (av:AV) (H:Heap) (hb:H[b]?=some (.box [.bool false,av])) (ht:H[t]?=some (.box (zGG d))) (ha:Mag av v) (hl:(wds v).length<=1000) (hd:(wds d).length<=1000) :
  EFun C GT zE1 [.ref b 0 0 0,.ref b 0 0 0,.ref t 0 0 0] H (.ref b 0 0 0) (H.set b (.box (zGG ((v+d:Nat):Int)))):=by
 have hbl:=zl_ hb;have e1:zGG (d:Int)=[.bool false,zFV d]:=by unfold zGG;rw [tF];rfl
 have e2:zGG ((v+d:Nat):Int)=[.bool false,zFV (v+d)]:=by unfold zGG;rw [tF];rfl
 have hs:=hS av (zFV d) false false v d H ha (zGc _) tO tO;have es:zes false v false d=(false,v+d):=rfl;rw [es] at hs;have hg:=hG b (v+d) false (.bool false) av H hb;rw [e1] at ht;rw [e2];clear hS hG;refine zJ<|sX ?_
 exact zTA rfl rfl rfl rfl (zlY hbl) rfl
end
def zLX:Option Int->AV
 |some n=>.tup [zH n,.bool true]
 |none=>.tup [zH 0,.bool false]
theorem ze1 {s:Bs} {i:Nat} {c:UInt8} (h:s[i]?=some c):zDp (s.take (i+1))=zDp (s.take i)*10+(c.toNat-48):=by
 rw [zmv,h];exact zUY _ _
theorem ze2 {s:Bs} {i:Nat} {c:UInt8} (h:s[i]?=some c):(s.take (i+1)).all zHE=((s.take i).all zHE&&zHE c):=by
 rw [zmv,h,List.all_append];simp
theorem zXP (n:Nat):zGG (n:Int)=[.bool false,zFV n]:=by unfold zGG;rw [tF];rfl
theorem zRx (k:Nat):10^(9*k)<=4294967296^k:=by
 rw [Nat.pow_mul];exact Nat.pow_le_pow_left zD_ k
theorem zbO {s:Bs} (h:s.all zHE=true) (hl:s.length<=200):(wds (zDp s)).length<=23:=by
 refine zTB ?_;have h1:=zQM s h;have h2:10^s.length<=10^(9*23):=zmT zD_ tO;exact zl4 h1 (zmR h2 (zRx 23))
section
variable {C:CSpec} {GT:zG_}
theorem zbP (hNew:∀ v H,zEK v->C zAV [zH v] H (.ref H.length 0 0 0) (H++[.box (zGG v)]))
  (hMul:∀ b t v av H,H[b]?=some (.box [.bool false,av])->H[t]?=some (.box (zGG 10))->Mag av v->(wds v).length<=1000->C zBJ [.ref b 0 0 0,.ref b 0 0 0,.ref t 0 0 0] H (.ref b 0 0 0) (H.set b (.box [.bool false,zYt v])))
  (hAdd:∀ (b t v d:Nat) (av:AV) (H:Heap),H[b]?=some (.box [.bool false,av])->H[t]?=some (.box (zGG d))->Mag av v->(wds v).length<=1000->(wds d).length<=1000->C zBK [.ref b 0 0 0,.ref b 0 0 0,.ref t 0 0 0] H (.ref b 0 0 0) (H.set b (.box (zGG ((v+d:Nat):Int)))))
  (hFit:∀ b v H,H[b]?=some (.box (zGG v))->(wds v.natAbs).length<=100->C zEE [.ref b 0 0 0] H (.bool (decide (zEK v))) H)
  (hI:∀ b v H,H[b]?=some (.box (zGG v))->zEK v->C zAw [.ref b 0 0 0] H (zH v) H)
  (s:Bs) (H:Heap) (hl:s.length<=200):EFun C GT zDj [.str s,.bool false] H (zLX (zCQ s)) H:=by
 refine zJ ?_;cases s with
 |nil=>
  clear hNew hMul hAdd hFit hI;refine sX ?_;exact sRv
 |cons c0 r0=>
 have hc0:(c0::r0)[0]?=some c0:=rfl;have hne:((c0::r0)==([]:Bs))=false:=rfl;obtain ⟨s,hs⟩:∃ s,c0::r0=s:=⟨_,rfl⟩;have hh:s.head?=some c0:=by rw [<-hs];rfl
 have hs0:s≠[]:=by rw [<-hs];simp
 have hs1:1<=s.length:=by rw [<-hs];simp
 rw [hs] at hc0 hne hl ⊢;clear hs r0;by_cases h48:c0.toNat=48/\s≠[48]
 ·have e:zCQ s=none:=by
   unfold zCQ;rw [zlF (.inr ⟨by rw [hh,show c0=48 from zlc.1 h48.1],h48.2⟩)]
  rw [e];clear hNew hMul hAdd hFit hI;refine sX ?_;refine zn (zlz.2 h48.2) ?_;exact sRv
 have hform:¬ (s=[]\/(s.head?=some 48/\s≠[48])):=by
  rintro (h|⟨h,h'⟩)
  ·exact hs0 h
  ·rw [hh] at h;cases h;exact h48 ⟨rfl,h'⟩
 have main:loopP C GT [8,6,7,0] zHz (zJi 0 [7,0,6] (zXv (EW C GT (AC.rest (AC.rest (AC.rest (AC.rest (AC.rest (AC.rest zJv)))))) (zaO zDj H (zLX (zCQ s)) H)) (zaO zDj H (zLX (zCQ s)) H))) [(8,zK 0),(6,.str s),(7,.ref H.length 0 0 0),(0,.str s)] (H++[.box zV6]):=by
  have hwp:zCQ s=if s.all zHE=true then (if zDp s<=9223372036854775807 then some (zDp s:Int) else none) else none:=by unfold zCQ;rw [zlD hform]
  rw [hwp];obtain ⟨r,hr⟩:∃ r,(if s.all zHE=true then (if zDp s<=9223372036854775807 then some (zDp s:Int) else none) else none)=r:=⟨_,rfl⟩;rw [hr];refine zBG (fun i:Nat=>[(8,zK i),(6,.str s),(7,.ref H.length 0 0 0),(0,.str s)])
   (fun i H'=>Old H H'/\i<=s.length/\(s.take i).all zHE=true/\∃ av,H'[H.length]?=some (.box [.bool false,av])/\Mag av (zDp (s.take i))/\(1<=i->av=zFV (zDp (s.take i))))
   (fun i=>s.length-i) 0 rfl ⟨(Old.refl _).push _,by omega,rfl,_,zB,⟨some true,0,rfl,.inr rfl⟩,fun h=>by omega⟩ (fun i H1 ⟨hO,hi,hd,av,hb,hm,hav⟩=>?_)
  try dsimp only
  have hw:=zbO hd (by rw [zla];omega);by_cases hlt:i<s.length
  ·obtain ⟨c,hc⟩:∃ c,s[i]?=some c:=⟨_,zlI hlt⟩;have hdt:=ze1 hc;have hat:=ze2 hc;have hc256:c.toNat<256:=zms c;by_cases hdg:zHE c=true
   ·have hdg':=hdg;unfold zHE at hdg';simp only [zlG,zlV] at hdg';rw [hd,hdg] at hat;have hd2:(wds (c.toNat-48)).length<=1000:=zmR (zTB (k:=1) tO) tO;have hmw:(wds (zDp (s.take i)*10)).length<=1000:=by
     have h1:=zQM (s.take (i+1)) hat;refine zmR (zTB (k:=23) ?_) tO;have h2:10^(s.take (i+1)).length<=10^(9*23):=zmT zD_ (by rw [zla];omega);have h3:=zRx 23;omega
    have hn10:=hNew 10;have hnd:=hNew ((c.toNat-48:Nat):Int);have hmul:=fun t H h1 h2=>hMul H1.length t (zDp (s.take i)) av H h1 h2;clear hFit hI hNew;have hbl:=zl_ hb;refine zn tT<|zCF rfl hc<|zi tF<|zCF rfl hc<|zG<|zi tF<|zCI (hn10 _ zD_) (fun h=>by cases h)<|zCI (hMul H.length H1.length (zDp (s.take i)) av _ hP hP hm tO) (fun h=>by cases h)<|sX ?_;refine zS (r:=c.toNat) tO tO<|zS (r:=c.toNat-48) tO tO<|zCI (hnd _ (by unfold zEK;omega)) (fun h=>by cases h)<|zCI (hAdd H.length _ (zDp (s.take i)*10) (c.toNat-48) (zYt (zDp (s.take i))) _ hP hP (zXO _) hmw hd2) (fun h=>by cases h)<|zS (r:=i+1) rfl tO ?_
    refine zAR (i+1) rfl ⟨?_,by omega,hat,zFV (zDp (s.take (i+1))), ?_,zGc _,fun _=>rfl⟩ tO
    ·exact (((hO.push _).set (zlK _) _).push _).set (zlK _) _
    ·rw [hdt,<-zXP];exact hP
   ·have hdf:=zl8.2 hdg;have hall:s.all zHE=false:=by
     rw [zl8];intro h;exact hdg (zmE.1 h c (zlX hc))
    rw [hall] at hr;have hr:none=r:=hr;subst hr;clear hFit hI hNew hMul hAdd;unfold zHE at hdf;by_cases h1:c.toNat<48
    ·refine sX ?_;exact sRv
    ·have h2:57<c.toNat:=by
      rw [tT (by omega:48<=c.toNat),zmj] at hdf;have:=zly hdf;omega
     refine sX ?_;exact sRv
  ·have hin:i=s.length:=by omega
   subst hin;rw [zmi] at hd hm hav hw;have hav:=hav hs1;subst hav;rw [hd,zlF rfl] at hr;have hb':H1[H.length]?=some (.box (zGG ((zDp s:Nat):Int))):=by rw [zXP];exact hb
   have hft:=hFit H.length ((zDp s:Nat):Int) H1 hb' (by simpa using (by omega:(wds (zDp s)).length<=100));have hi6:=hI H.length ((zDp s:Nat):Int) H1 hb';clear hFit hI hNew hMul hAdd;by_cases h64:zDp s<=9223372036854775807
   ·rw [zlF h64] at hr;subst hr;have hin64:zEK ((zDp s:Nat):Int):=by unfold zEK;omega
    rw [zlY hin64] at hft;have hi6:=hi6 hin64;refine zi tF<|zi (zle.2 rfl)<|zM hft<|zG<|zM hi6 ?_
    exact zAv rfl rfl rfl rfl hO
   ·rw [zlD h64] at hr;subst hr;have hin64:¬ zEK ((zDp s:Nat):Int):=by unfold zEK;omega
    rw [zlf hin64] at hft;refine zi tF<|zi (zle.2 rfl)<|zM hft<|zE ?_
    exact zAv rfl rfl rfl rfl hO
 by_cases h0:c0.toNat=48
 ·have h1:s=[48]:=by
   rcases Classical.em (s=[48]) with h|h
   ·exact h
   ·exact absurd ⟨h0,h⟩ h48
  refine sX ?_;refine zi (zle.2 h1) ?_;exact main
 ·refine sX ?_;exact main
end
end Go.AM
