/- Texts of mine in one. Own work. -/
import Derived.Test.YtmfmhljpddpfnaaGreatDoorGAm23Am35
import Derived.Test.YtmfmhljpddpfnaaGreatDoorRf2
import Derived.Test.YtmfmhljpddpfnaaGreatDoorGFp0Bg0
import Derived.Test.YtmfmhljpddpfnaaGreatDoorLc
import Derived.Test.YtmfmhljpddpfnaaGreatDoorGAm31Rf1
set_option maxRecDepth 20000
set_option linter.all false
namespace Go.AM
def tkK:Tok->Nat
 |.fin=>0
 |.word _ _=>1
 |.txt _ _=>2
 |.bad _ _=>3
 |.sign _ _=>4
 |.none=>9
def tkE (q:Nat):Tok->Nat
 |.fin=>q
 |.word e _=>e
 |.txt e _=>e
 |.bad e _=>e
 |.sign e _=>e
 |.none=>q
def tkT:Tok->Bs
 |.fin=>[]
 |.word _ t=>t
 |.txt _ t=>t
 |.bad _ k=>wrongs.getD (k-1) []
 |.sign _ t=>t
 |.none=>[]
theorem zGv (s:Bs) (a:Nat):tkV s a=kV (tkK (tok s a)) (skip s a) (tkE (skip s a) (tok s a)) (tkT (tok s a)):=by
 unfold tkV zYd tok;cases zBi s (skip s a) <;> rfl
theorem zKO {s:Bs} {a:Nat} (h:a<=s.length):tkE (skip s a) (tok s a)<=s.length:=by
 have h1:=zB7 s a;have h2:=zCO h;cases hk:tok s a <;> rw [hk] at h1 <;> simp only [tkE,Tok.endsBy] at h1 ⊢ <;> omega
theorem zkA {s:Bs} {a:Nat}:(∃ e,tok s a=.sign e [41])↔tkK (tok s a)=4/\tkT (tok s a)=[41]:=by
 constructor
 ·rintro ⟨e,h⟩;rw [h];exact ⟨rfl,rfl⟩
 ·intro h;cases hk:tok s a <;> rw [hk] at h <;> simp only [tkK,tkT] at h
  all_goals first|omega|skip
  exact ⟨_,by rw [h.2]⟩
section
variable {C:CSpec} {GT:zG_}
theorem zaI (hT:∀ s a H,a<=s.length->s.length<=1000->C zm [.str s,zL a] H (tkV s a) H)
  (b:Nat) (s:Bs) (p d e:Nat) (H:Heap) (hb:H[b]?=some (rP s p (d+1))) (hp:p<=s.length) (hl:s.length<=200) (hd:d<=1000) (hk:tok s p=.sign e [41]):zCk C GT zCK [pR b] H b [] .undef (some (.tup [],rP s e d)):=by
 have hbl:=zl_ hb;have ht:=fun H=>hT s p H hp tO;rw [zGv,hk] at ht;have ht:∀ H,C zm [.str s,zL p] H (kV 4 (skip s p) e [41]) H:=ht;generalize skip s p=q at *;clear hT;refine zAH<|sX ?_;refine zG2 ?_ ?_
 all_goals
  refine sX ?_;refine sSA (kV 4 q e [41]) ?_;refine sX ?_;refine sS (zL e) [.str s,zL e,zK 0,zK 0,zK ↑(d+1)] ?_;refine sX ?_;refine zQ (r:=d) tO tO<|sS (.int .i64 ↑d) [.str s,zL e,zK 0,zK 0,.int .i64 ↑d] ?_
  exact sRo
theorem zaJ (hT:∀ s a H,a<=s.length->s.length<=1000->C zm [.str s,zL a] H (tkV s a) H)
  (hF:∀ b s p d a e H,H[b]?=some (pB s p 0 0 d)->C zl [pR b,zK a,zK e] H (.tup []) (H.set b (pB s p a e d)))
  (b:Nat) (s:Bs) (p d:Nat) (H:Heap) (hb:H[b]?=some (rP s p (d+1))) (hp:p<=s.length) (hl:s.length<=200) (hd:d<=1000) (hk:¬ ∃ e,tok s p=.sign e [41]):zCk C GT zCK [pR b] H b [] .undef (some (.tup [],pB s (tkE (skip s p) (tok s p):Nat) (skip s p:Nat) 2 d)):=by
 have hbl:=zl_ hb;have ht:=fun H=>hT s p H hp tO;rw [zGv] at ht;rw [zkA] at hk;have hf:=fun H=>hF b s p (d+1:Nat) (skip s p:Nat) 2 H;clear hT hF;generalize tkE (skip s p) (tok s p)=e at *;generalize tkK (tok s p)=kk at *;generalize tkT (tok s p)=t at *;generalize skip s p=q at *;refine zAH ?_;by_cases h4:kk=4
 ·subst h4;have h41:t≠[41]:=fun x=>hk ⟨rfl,x⟩;refine sX ?_;refine zG2 ?_ ?_
  all_goals
   refine sX ?_;refine sSA (kV 4 q e t) ?_;refine sX ?_;refine zt (zo0.2 h41)<|sX ?_;refine sS (zL e) [.str s,zL e,zK ↑q,zK 2,zK ↑(d+1)] ?_;refine sX ?_;refine zQ (r:=d) tO tO<|sS (.int .i64 ↑d) [.str s,zL e,zK ↑q,zK 2,.int .i64 ↑d] ?_
   exact sRo
 ·refine sX ?_;refine zG2 ?_ ?_
  all_goals
   refine sX ?_;refine sSA (kV kk q e t) ?_;refine sX ?_;refine zt (zo0.2 tO)<|sX ?_;refine sS (zL e) [.str s,zL e,zK ↑q,zK 2,zK ↑(d+1)] ?_;refine sX ?_;refine zQ (r:=d) tO tO<|sS (.int .i64 ↑d) [.str s,zL e,zK ↑q,zK 2,.int .i64 ↑d] ?_
   exact sRo
theorem zXl (hT:∀ s a H,a<=s.length->s.length<=1000->C zm [.str s,zL a] H (tkV s a) H)
  (b:Nat) (s:Bs) (p:Nat) (w e d:Int) (H:Heap) (hb:H[b]?=some (pB s p w e d)) (he:e≠0) (hp:p<=s.length) (hl:s.length<=200):zCk C GT zCK [pR b] H b [] .undef (some (.tup [],pB s (tkE (skip s p) (tok s p):Nat) w e (IntKind.wrap .i64 (d-1)))):=by
 have hbl:=zl_ hb;have ht:=fun H=>hT s p H hp tO;rw [zGv] at ht;clear hT;generalize tkE (skip s p) (tok s p)=ee at *;generalize tkK (tok s p)=kk at *;generalize tkT (tok s p)=t at *;generalize skip s p=q at *;refine zAH<|sX ?_;refine zG2 ?_ ?_
 all_goals
  refine sX ?_;refine sSA (kV kk q ee t) ?_;refine zA (zK e) (zE tA (zG hb)) rfl<|zc (tN he)<|sX ?_;refine sS (zL ee) [.str s,zL ee,zK w,zK e,zK d] ?_;refine sX ?_;refine zCl rfl<|sS (.int .i64 (IntKind.i64.wrap (d-1))) [.str s,zL ee,zK w,zK e,.int .i64 (IntKind.i64.wrap (d-1))] ?_
  exact sRo
theorem zUZ {F:AF} {H H1:Heap} {fr:Fr} {v:AV} {b:Nat} {cs:List AV} (hH:H1=H.set b (.box cs)) (hk:F.keep=false) (hr:(zBd fr H1 F.results).map tupled=some v) (hf:zDm H.length v H1=some (v,H1)) (hb:v.bel H.length=true) (hc:zHL H.length (.box cs)=true) :
  retP F H fr H1 v (H.set b (.box cs)):=by
 refine zcs ?_;unfold zHM;cases hs:zBd fr H1 F.results with
 |none=>rw [hs] at hr;cases hr
 |some vs=>
  rw [hs] at hr;simp only [zoe,zoS] at hr;subst hr;simp only [hk,hf,zoZ,zot];subst hH;refine ⟨hb,fun c hc'=>?_,trivial, ?_⟩
  ·by_cases e:b=c
   ·subst e;exact .inr ⟨_,zl3 hc',hc⟩
   ·exact .inl (zo7 e)
  ·rw [zox (by rw [zoW];omega)]
theorem zKq {F:AF} {H H1:Heap} {fr:Fr} {v:AV} (hk:F.keep=true) (hr:(zBd fr H1 F.results).map tupled=some v):retP F H fr H1 v H1:=by
 refine zcs ?_;unfold zHM;cases hs:zBd fr H1 F.results with
 |none=>rw [hs] at hr;cases hr
 |some vs=>
  rw [hs] at hr;simp only [zoe,zoS] at hr;subst hr;simp only [hk,zoz];exact ⟨trivial,trivial⟩
def zBU (w:Nat):AV:=.int .u32 w
def zRr (w:Nat):AV:=.int .u64 w
def zFL (n:Nat):AV:=.lst (some false) 1 ((wds n).map zBU)
def Mag (v:AV) (n:Nat):Prop:=zCS v 1 ((wds n).map zBU)
theorem zGP (n:Nat):Mag (zFL n) n:=⟨_,_,rfl,.inl rfl⟩
theorem Mag.nil (k:Nat):Mag (.lst (some true) k []) 0:=⟨_,_,rfl,.inr rfl⟩
theorem zKP {n i:Nat} (h:i<(wds n).length):((wds n).map zBU)[i]?=some (zBU (wds n)[i]):=by rw [zoX,zoO h];rfl
theorem zaK {b m n:Nat} (h:n<=m):zCm (some 1) (.sl (some false) b 1 0 m) none (some (.int .i64 (n:Int)))=some (.sl (some false) b 1 0 n):=by
 have e:zE9 m none (some (.int .i64 (n:Int)))=some (0,n):=by
  simp only [zE9,aHi,aLo];rw [zoQ ⟨by omega,by omega⟩];simp
 simp only [zCm,zoz,e,zoe,zl7,zoA];rfl
theorem zOm {H0 H:Heap} {b n:Nat} {ws:List Nat} (hbl:H0.length<=b) (hb:H[b]?=some (.row 1 (ws.map zBU))) (hw:Small ws) (hn:wval ws=n) :
  zDm H0.length (.sl (some false) b 1 0 (wds n).length) H=some (zFL n,H.set b (.frz 1 (ws.map zBU))):=by
 subst hn;have h:=zde hw;simp only [zDm,hb];rw [zWl tO,zoQ ⟨trivial,by rw [zoU];omega⟩];simp only [znY,<-List.map_take,h.2];rfl
theorem zeA (s:Nat):zCT .shr .u64 (s:Int) 32=some (.int .u64 ((s/4294967296:Nat):Int)):=by
 simp only [zCT];rw [zWl tO];have:(2:Int)^Nat.min (32:Int).toNat IntKind.u64.bits=4294967296:=by rfl
 rw [this,znJ _ tO];rfl
theorem zMU {x:Int} {K:Int->Prop} (r:Nat) (h:x%4294967296=r) (k:K (r:Int)):valP (IntKind.wrap .u32 x) K:=zCl (by rw [IntKind.wrap_u32];omega) k
theorem zhT {x:Int} {K:Int->Prop} (r:Nat) (h:x%18446744073709551616=r) (k:K (r:Int)):valP (IntKind.wrap .u64 x) K:=zCl (by rw [IntKind.wrap_u64];omega) k
theorem zUa (ds:List Nat) (m d:Nat):((ds++List.replicate (m+1) 0).map zBU).set ds.length (zBU d)=((ds++[d])++List.replicate m 0).map zBU:=by grind
theorem zUb (ds:List Nat) (m:Nat):((ds++List.replicate (m+1) 0).map zBU)[ds.length]?=some (zBU 0):=by grind
theorem Small.snoc {ds:List Nat} {d:Nat} (h:Small ds) (hd:d<4294967296):Small (ds++[d]):=by
 intro w hw;rcases zmm.1 hw with hw|hw
 ·exact h w hw
 ·rw [zl5.1 hw];exact hd
theorem zhU (b m:Nat) (ws:List Nat) (H:Heap) (hm:ws.length=m) (hb:H[b]?=some (.row 1 (ws.map zBU))) (hw:Small ws) (hl:m<=1000000) :
  EFun C GT zGM [.sl (some false) b 1 0 m] H (.sl (some false) b 1 0 (wds (wval ws)).length) H:=by
 have hbl:=zl_ hb;subst hm;have fin:∀ n:Nat,n<=ws.length->(wds (wval ws)).length=n->(.sl (some false) b 1 0 (wds (wval ws)).length:AV)=.sl (some false) b 1 0 n:=fun n _ h=>by rw [h]
 refine zH ?_;refine zIU ?_;refine zAr (fun n:Nat=>[(3,zL n),(0,.sl (some false) b 1 0 ws.length)]) (fun n H'=>H'=H/\n<=ws.length/\wval (ws.take n)=wval ws) (fun n=>n) ws.length rfl ⟨rfl,zoR _,by rw [zmg]⟩ (fun n H1 ⟨e,hn,hv⟩=>?_);subst e;dsimp only;have hsm:Small (ws.take n):=fun w h=>hw w (zmk h);refine zEO (fun h=>?_) (fun h=>?_)
 ·have h:0<n:=by have:=zow h;omega
  have hi:n-1<ws.length:=by omega
  have hx:(ws.map zBU)[n-1]?=some (zBU ws[n-1]):=by rw [zoX,zoO hi];rfl
  have ht:ws.take n=ws.take (n-1)++[ws[n-1]]:=by
   have:=zm2 hi
   rwa [Nat.sub_add_cancel h] at this
  refine zQ (r:=n-1) tO tO<|sAt ⟨by omega,by omega⟩<|zCs (n-1) (zBU ws[n-1]) (zBU ws[n-1]) tO hb hx rfl<|zD ?_;refine zEO (fun h0=>?_) (fun h0=>?_)
  ·have h0:ws[n-1]=0:=by have:=eq_of_beq h0;omega
   refine zQ (r:=n-1) tO tO ?_;refine zAJ (n-1) rfl ⟨rfl,by omega, ?_⟩ tO;rw [<-hv,ht,zEy,h0];simp
  ·have h0:ws[n-1]≠0:=fun e=>by rw [e] at h0;exact absurd h0 zS_
   have hd:wds (wval ws)=ws.take n:=by
    rw [<-hv];refine zgo hsm fun w hw=>?_;rw [ht,List.getLast?_concat] at hw;cases hw;exact h0
   have e:=fin n hn (by rw [hd,zon];omega);refine za (zaK hn) ?_;exact zMB e rfl rfl (by simp only [zDm];rw [zoQ hbl]) (by simp only [AV.bel];exact zoj hbl) (Old.refl _)
 ·have h:n=0:=by have:=zl8 h;omega
  subst h;have e:=fin 0 hn (by rw [<-hv];rfl);refine zC<|zC<|za (zaK hn) ?_
  exact zMB e rfl rfl (by simp only [zDm];rw [zoQ hbl]) (by simp only [AV.bel];exact zoj hbl) (Old.refl _)
theorem zeB (hT:∀ b m ws H,ws.length=m->H[b]?=some (.row 1 (ws.map zBU))->Small ws->m<=1000000->C zA2 [.sl (some false) b 1 0 m] H (.sl (some false) b 1 0 (wds (wval ws)).length) H)
  (x:Nat) (hx:x<18446744073709551616) (H:Heap):EFun C GT zFl [zRr x] H (zFL x) H:=by
 have hb:(H++[ABlk.row 1 [zBU (x%4294967296),zBU (x/4294967296)]])[H.length]?=some (.row 1 (([x%4294967296,x/4294967296]:List Nat).map zBU)):=zB;have hw:Small [x%4294967296,x/4294967296]:=by
  intro w hw;simp at hw;omega
 have hv:wval [x%4294967296,x/4294967296]=x:=by simp only [wval];omega
 have ht:=hT H.length 2 [x%4294967296,x/4294967296] _ rfl hb hw tO;rw [hv] at ht;refine zH ?_;refine zMU (x%4294967296) tO<|za (zeA x)<|zMU (x/4294967296) tO<|zAA (vs':=[zBU (x%4294967296),zBU (x/4294967296)]) rfl rfl<|zI (ht) ?_
 exact zIw rfl rfl (zOm (zoR _) hb hw hv) rfl (((Old.refl H).push _).set (zoR _) _)
end
theorem zkB (a:Nat) (h:a<4294967296):zCT .shl .u64 (a:Int) 32=some (.int .u64 ((a*4294967296:Nat):Int)):=by
 simp only [zCT];rw [zWl tO];have:(2:Int)^Nat.min (32:Int).toNat IntKind.u64.bits=4294967296:=by rfl
 rw [this,IntKind.wrap_u64];have:((a:Int)*4294967296)%18446744073709551616=((a*4294967296:Nat):Int):=by omega
 rw [this]
theorem or32 (a b:Nat) (ha:a<4294967296) (hb:b<4294967296):zIS .or .u64 (a:Int) ((b*4294967296:Nat):Int)=some (.int .u64 ((a+4294967296*b:Nat):Int)):=by
 simp only [zIS];have of (x:Nat) (hx:x<18446744073709551616):(BitVec.ofInt IntKind.u64.bits (x:Int)).toNat=x:=by
  show (BitVec.ofInt 64 (x:Int)).toNat=x;rw [BitVec.toNat_ofInt];have:((x:Int)%((2^64:Nat):Int))=(x:Int):=by rw [Int.emod_eq_of_lt tO (by simp;omega)]
  rw [this,zoq]
 have e:(BitVec.ofInt IntKind.u64.bits (a:Int) ||| BitVec.ofInt IntKind.u64.bits ((b*4294967296:Nat):Int)).toNat=a+4294967296*b:=by
  rw [BitVec.toNat_or,of a tO,of _ tO,Nat.or_comm,zme b];have:=Nat.two_pow_add_eq_or_of_lt (i:=32) (b:=a) (by simpa using ha) b;have e32:(2:Nat)^32=4294967296:=by decide
  rw [e32] at this;rw [<-this];omega
 rw [e,IntKind.wrap_u64];have:((a+4294967296*b:Nat):Int)%18446744073709551616=((a+4294967296*b:Nat):Int):=by omega
 rw [this]
section
variable {C:CSpec} {GT:zG_}
def zF2 (v:Int):List AV:=[.bool (decide (v<0)),zFL v.natAbs]
theorem zhV (b n:Nat) (neg:Bool) (x0 x1:AV) (H:Heap) (hb:H[b]?=some (.box [x0,x1])):EFun C GT zCi [.ref b 0 0 0,.bool neg,zFL n] H (.ref b 0 0 0) (H.set b (.box [.bool (neg&&decide (0<n)),zFL n])):=by
 have hbl:=zl_ hb;have hz:((wds n).length>0)↔0<n:=by
  by_cases e:n=0
  ·subst e;simp [zEw]
  ·rw [zCy e];simp;omega
 have hd:decide (((wds n).length:Int)>0)=decide (0<n):=by grind
 refine zH ?_;cases neg
 ·refine sS (zFL n) [x0,zFL n] ?_;refine sX ?_;refine sS (.bool false) [.bool false,zFL n] ?_;exact zUZ (by rw [znr];rfl) rfl rfl rfl (zoj hbl) rfl
 ·refine sS (zFL n) [x0,zFL n] ?_;refine sX ?_;refine zAk (wds n).length (zGP n) zS_<|sX ?_;refine sS (.bool (decide (((wds n).length:Int)>0))) [.bool (decide (((wds n).length:Int)>0)),zFL n] ?_
  exact zUZ (by rw [znr,hd];rfl) rfl rfl rfl (zoj hbl) rfl
theorem zUc (hW:∀ x H,x<18446744073709551616->C zCV [zRr x] H (zFL x) H) (hG:∀ b n neg x0 x1 H,H[b]?=some (.box [x0,x1])->C zAN [.ref b 0 0 0,.bool neg,zFL n] H (.ref b 0 0 0) (H.set b (.box [.bool (neg&&decide (0<n)),zFL n])))
  (b:Nat) (v:Int) (x0 x1:AV) (H:Heap) (hb:H[b]?=some (.box [x0,x1])) (hv:zDi v):EFun C GT zDR [.ref b 0 0 0,zK v] H (.ref b 0 0 0) (H.set b (.box (zF2 v))):=by
 have hbl:=zl_ hb;unfold zDi at hv;have hw:=hW v.natAbs H tO;have hg:=hG b v.natAbs (decide (v<0)) x0 x1 H hb;have e0:(decide (v<0)&&decide (0<v.natAbs))=decide (v<0):=by grind
 rw [e0] at hg;refine zH ?_;by_cases hn:v<0
 ·have e:aUn .neg (.int .u64 (18446744073709551616+v))=some (zRr v.natAbs):=by
   simp only [aUn];rw [IntKind.wrap_u64];have:(0-(18446744073709551616+v))%18446744073709551616=(v.natAbs:Int):=by omega
   rw [this];rfl
  refine zCl (r:=18446744073709551616+v) (by rw [IntKind.wrap_u64];omega) ?_;refine zEO (fun _=>?_) (fun h=>absurd hn (zl8 h));refine za e<|zI (hw)<|zBc hg (fun h=>by cases h) ?_
  exact zUZ rfl rfl rfl rfl (zoj hbl) rfl
 ·refine zCl (r:=(v.natAbs:Int)) (by rw [IntKind.wrap_u64];omega) ?_;refine zEO (fun h=>absurd (zow h) hn) (fun _=>?_);refine sX ?_;exact zUZ rfl rfl rfl rfl (zoj hbl) rfl
def zVn:AF:={ zJJ with keep:=true }
theorem zaL (hS:∀ b v x0 x1 H,H[b]?=some (.box [x0,x1])->zDi v->C zA9 [.ref b 0 0 0,zK v] H (.ref b 0 0 0) (H.set b (.box (zF2 v)))) (v:Int) (H:Heap) (hv:zDi v) :
  EFun C GT zVn [zK v] H (.ref H.length 0 0 0) (H++[.box (zF2 v)]):=by
 have hs:=hS H.length v (.bool false) (.lst (some true) 0 []) (H++[.box zV7]) zB hv;have e:(H++[ABlk.box zV7]).set H.length (.box (zF2 v))=H++[.box (zF2 v)]:=by grind
 rw [e] at hs;refine zH<|sX ?_
 exact zKq rfl rfl
theorem zRP {n k:Nat} (h:n<4294967296^k):(wds n).length<=k:=by
 rcases zm5 k (wds n).length with h2|h2
 ·have hn:n≠0:=fun e=>by subst e;simp [zEw] at h2
  have h3:=zf4 n hn;have h4:4294967296^k<=4294967296^((wds n).length-1):=zmY tO tO;omega
 ·exact h2
end
theorem zkC (s:Nat):zCT .shr .u64 (s:Int) 63=some (.int .u64 ((s/9223372036854775808:Nat):Int)):=by
 simp only [zCT];rw [zWl tO];have:(2:Int)^Nat.min (63:Int).toNat IntKind.u64.bits=9223372036854775808:=by rfl
 rw [this,znJ _ tO];rfl
section
variable {C:CSpec} {GT:zG_}
structure SAd where
 i:Nat
 c:Nat
 ds:List Nat
section
variable (hT:∀ b m ws H,ws.length=m->H[b]?=some (.row 1 (ws.map zBU))->Small ws->m<=1000000->C zA2 [.sl (some false) b 1 0 m] H (.sl (some false) b 1 0 (wds (wval ws)).length) H) (av bv:AV)
include hT av bv
theorem zVo (x y n:Nat) (H:Heap) (ha:Mag av x) (hb:Mag bv y) (hn:(wds x).length=n) (hle:(wds y).length<=n) (hl:n<=100000) :
  EW C GT (zGn.behind 2) (zf2 zEu H (zFL (x+y)) H) [(1,bv),(0,av)] H:=by
 have hal:((wds x).map zBU).length=n:=by rw [zoU,hn]
 refine zAk n ha hal<|zQ (r:=n+1) rfl tO<|zdH (n:=n+1) rfl (Int.le_refl _) ⟨by omega,by omega⟩ rfl ?_;refine zAr (fun s:SAd=>[(7,zL s.i),(5,.sl (some false) H.length 1 0 (n+1)),(1,bv),(0,av),(6,zRr s.c)])
  (fun s H'=>Old H H'/\s.ds.length=s.i/\s.i<=n/\Small s.ds/\s.c<=1/\H'[H.length]?=some (.row 1 ((s.ds++List.replicate (n+1-s.i) 0).map zBU))/\wval s.ds+4294967296^s.i*s.c=wval ((wds x).take s.i)+wval ((wds y).take s.i)) (fun s=>n-s.i) ⟨0,0,[]⟩ rfl
  ⟨(Old.refl _).push _,rfl,zmB _,(fun w hw=>by cases hw),zmB _,by rw [zo4,zoA,zns];exact zB,rfl⟩ (fun ⟨i,c,ds⟩ H1 ⟨hO,hd,hi,hsm,hc,hrow,hval⟩=>?_)
 simp only at hd hi hsm hc hrow hval;dsimp only;refine zAk n ha hal ?_;refine zEO (fun h=>?_) (fun h=>?_)
 ·have h:i<n:=by have:=zow h;omega
  have hx:i<(wds x).length:=by omega
  have hax:=zKP hx;have htx:=zEC hx;have hsx:=zB4 x _ (zmO hx);obtain ⟨a,had⟩:∃ a,(wds x)[i]=a:=⟨_,rfl⟩;rw [had] at hax htx hsx;have hm:n+1-i=(n-i)+1:=by omega
  rw [hm] at hrow;have hget:=zUb ds (n-i);have hset:=fun d=>zUa ds (n-i) d;rw [hd] at hget hset;have hlen:ds.length=i:=hd;refine zBg i (zBU a) ha rfl hax<|z8 (zBU a) rfl<|zDf (r:=a) rfl tO<|zDf (r:=c+a) tO tO<|zAk (wds y).length hb zS_ ?_;refine zEO (fun h2=>?_) (fun h2=>?_)
  ·have h2:i<(wds y).length:=by have:=zow h2;omega
   have hby:=zKP h2;have hty:=zEC h2;have hsy:=zB4 y _ (zmO h2);obtain ⟨d,hdd⟩:∃ d,(wds y)[i]=d:=⟨_,rfl⟩;rw [hdd] at hby hty hsy;refine zBg i (zBU d) hb rfl hby<|z8 (zBU d) rfl<|zDf (r:=d) rfl tO<|zDf (r:=c+a+d) tO tO<|zMU ((c+a+d)%4294967296) tO<|sAt ⟨by omega,by omega⟩ ?_;refine zJ6 i (zBU ((c+a+d)%4294967296)) tO hrow hget rfl zD_ rfl (fun cs h=>by cases h)<|za (zeA (c+a+d))<|zQ (r:=i+1) rfl tO ?_;refine zAJ (SAd.mk (i+1) ((c+a+d)/4294967296) (ds++[(c+a+d)%4294967296])) rfl ⟨hO.set (zoR _) _,by simp [hlen],by simp only;omega,hsm.snoc tO,by simp only;omega, ?_, ?_⟩ (by simp only;omega)
   ·grind
   ·simp only [zEy,hlen,htx,hty,zmP];have e:(c+a+d)%4294967296+4294967296*((c+a+d)/4294967296)=c+a+d:=by omega
    have e2:4294967296^i*((c+a+d)%4294967296)+4294967296^i*4294967296*((c+a+d)/4294967296)=4294967296^i*c+4294967296^i*a+4294967296^i*d:=by grind
    omega
  ·have h2:(wds y).length<=i:=by have:=zl8 h2;omega
   have hty:wval ((wds y).take (i+1))=wval ((wds y).take i):=by rw [zox tO,zox h2]
   refine zMU ((c+a)%4294967296) tO<|sAt ⟨by omega,by omega⟩<|zJ6 i (zBU ((c+a)%4294967296)) tO hrow hget rfl zD_ rfl (fun cs h=>by cases h)<|za (zeA (c+a))<|zQ (r:=i+1) rfl tO ?_;refine zAJ (SAd.mk (i+1) ((c+a)/4294967296) (ds++[(c+a)%4294967296])) rfl ⟨hO.set (zoR _) _,by simp [hlen],by simp only;omega,hsm.snoc tO,by simp only;omega, ?_, ?_⟩ (by simp only;omega)
   ·grind
   ·simp only [zEy,hlen,htx,hty,zmP];have e:(c+a)%4294967296+4294967296*((c+a)/4294967296)=c+a:=by omega
    have e2:4294967296^i*((c+a)%4294967296)+4294967296^i*4294967296*((c+a)/4294967296)=4294967296^i*c+4294967296^i*a:=by grind
    omega
 ·have h:i=n:=by have:=zl8 h;omega
  subst h;have hm:i+1-i=0+1:=by omega
  rw [hm] at hrow;have hget:=zUb ds 0;have hset:=fun d=>zUa ds 0 d;rw [hd] at hget hset;rw [zox tO,zox tO,zEx,zEx,<-hd,<-zEy] at hval;have hsm2:Small (ds++[c]):=hsm.snoc tO;have hr2:(H1.set H.length (.row 1 ((ds++[c]).map zBU)))[H.length]?=some (.row 1 ((ds++[c]).map zBU)):=zS hrow;have hset2:((ds++List.replicate (0+1) 0).map zBU).set i (zBU c)=(ds++[c]).map zBU:=by rw [hset];simp
  have ht:=hT H.length (i+1) (ds++[c]) _ (by simp [hd]) hr2 hsm2 tO;rw [hval] at ht;rw [<-hset2] at ht hr2;refine zAk i ha hal<|zMU c tO<|sAt ⟨by omega,by omega⟩<|zJ6 i (zBU c) tO hrow hget rfl zD_ rfl (fun cs h=>by cases h)<|zI ht ?_
  rw [hset2] at hr2;exact zIw rfl rfl (zOm (zoR _) (by rw [hset2];exact hr2) hsm2 hval) rfl ((hO.set (zoR _) _).set (zoR _) _)
theorem zkD (x y:Nat) (H:Heap) (ha:Mag av x) (hb:Mag bv y) (h1:(wds x).length<=100000) (h2:(wds y).length<=100000):EFun C GT zEu [av,bv] H (zFL (x+y)) H:=by
 refine zH ?_;refine zAk (wds x).length ha zS_<|zAk (wds y).length hb zS_ ?_;refine zEO (fun h=>?_) (fun h=>?_)
 ·have h:(wds x).length<(wds y).length:=by have:=zow h;omega
  rw [zm6 x y];refine zPX rfl (zVo hT bv av y x _ H hb ha rfl tO h2) ?_;rfl
 ·have h:(wds y).length<=(wds x).length:=by have:=zl8 h;omega
  refine zPX rfl (zVo hT av bv x y _ H ha hb rfl h h1) ?_;rfl
theorem zkE (x y n:Nat) (H:Heap) (ha:Mag av x) (hb:Mag bv y) (hyx:y<=x) (hn:(wds x).length=n) (hl:n<=100000):EFun C GT zGp [av,bv] H (zFL (x-y)) H:=by
 have hal:((wds x).map zBU).length=n:=by rw [zoU,hn]
 have hle:(wds y).length<=n:=by rw [<-hn];exact zMu hyx
 refine zH ?_;refine zAk n ha hal<|zdH (n:=n) rfl (Int.le_refl _) ⟨by omega,by omega⟩ rfl ?_;refine zAr (fun s:SAd=>[(7,zL s.i),(5,.sl (some false) H.length 1 0 n),(1,bv),(6,zRr s.c),(0,av)])
  (fun s H'=>Old H H'/\s.ds.length=s.i/\s.i<=n/\Small s.ds/\s.c<=1/\H'[H.length]?=some (.row 1 ((s.ds++List.replicate (n-s.i) 0).map zBU))/\wval s.ds+wval ((wds y).take s.i)=wval ((wds x).take s.i)+4294967296^s.i*s.c) (fun s=>n-s.i) ⟨0,0,[]⟩ rfl
  ⟨(Old.refl _).push _,rfl,zmB _,(fun w hw=>by cases hw),zmB _,by rw [zo4,zoA,zns];exact zB,rfl⟩ (fun ⟨i,c,ds⟩ H1 ⟨hO,hd,hi,hsm,hc,hrow,hval⟩=>?_)
 simp only at hd hi hsm hc hrow hval;dsimp only;refine zAk n ha hal ?_;refine zEO (fun h=>?_) (fun h=>?_)
 ·have h:i<n:=by have:=zow h;omega
  have hx:i<(wds x).length:=by omega
  have hax:=zKP hx;have htx:=zEC hx;have hsx:=zB4 x _ (zmO hx);obtain ⟨a,had⟩:∃ a,(wds x)[i]=a:=⟨_,rfl⟩;rw [had] at hax htx hsx;obtain ⟨m,hm⟩:∃ m,n-i=m+1:=⟨n-i-1,by omega⟩;rw [hm] at hrow;have hget:=zUb ds m;have hset:=fun d=>zUa ds m d;rw [hd] at hget hset;have hlen:ds.length=i:=hd;refine zBg i (zBU a) ha rfl hax<|z8 (zBU a) rfl<|zDf (r:=a) rfl tO<|zhT ((((a:Int)-c)%18446744073709551616).toNat) tO<|zAk (wds y).length hb zS_ ?_
  have next:∀ (e d c':Nat),(e:Int)=(a:Int)-c'-c\/True->True:=fun _ _ _ _=>trivial;refine zEO (fun h2=>?_) (fun h2=>?_)
  ·have h2:i<(wds y).length:=by have:=zow h2;omega
   have hby:=zKP h2;have hty:=zEC h2;have hsy:=zB4 y _ (zmO h2);obtain ⟨d,hdd⟩:∃ d,(wds y)[i]=d:=⟨_,rfl⟩;rw [hdd] at hby hty hsy;obtain ⟨D,hD⟩:∃ D:Nat,(((a:Int)-c-d)%18446744073709551616)=D:=⟨(((a:Int)-c-d)%18446744073709551616).toNat,by omega⟩;refine zBg i (zBU d) hb rfl hby<|z8 (zBU d) rfl<|zDf (r:=d) rfl tO<|zhT D tO<|zMU (D%4294967296) tO<|sAt ⟨by omega,by omega⟩ ?_;refine zJ6 i (zBU (D%4294967296)) tO hrow hget rfl zD_ rfl (fun cs h=>by cases h)<|za (zkC D)<|zQ (r:=i+1) rfl tO ?_;refine zAJ (SAd.mk (i+1) (D/9223372036854775808) (ds++[D%4294967296])) rfl ⟨hO.set (zoR _) _,by simp [hlen],by simp only;omega,hsm.snoc tO,by simp only;omega, ?_, ?_⟩ (by simp only;omega)
   ·grind
   ·simp only [zEy,hlen,htx,hty,zmP];have e:D%4294967296+c+d=a+4294967296*(D/9223372036854775808):=by omega
    have e2:4294967296^i*(D%4294967296)+4294967296^i*c+4294967296^i*d=4294967296^i*a+4294967296^i*4294967296*(D/9223372036854775808):=by grind
    omega
  ·have h2:(wds y).length<=i:=by have:=zl8 h2;omega
   have hty:wval ((wds y).take (i+1))=wval ((wds y).take i):=by rw [zox tO,zox h2]
   obtain ⟨D,hD⟩:∃ D:Nat,(((a:Int)-c)%18446744073709551616).toNat=D:=⟨_,rfl⟩;rw [hD];refine zMU (D%4294967296) tO<|sAt ⟨by omega,by omega⟩<|zJ6 i (zBU (D%4294967296)) tO hrow hget rfl zD_ rfl (fun cs h=>by cases h)<|za (zkC D)<|zQ (r:=i+1) rfl tO ?_;refine zAJ (SAd.mk (i+1) (D/9223372036854775808) (ds++[D%4294967296])) rfl ⟨hO.set (zoR _) _,by simp [hlen],by simp only;omega,hsm.snoc tO,by simp only;omega, ?_, ?_⟩ (by simp only;omega)
   ·grind
   ·simp only [zEy,hlen,htx,hty,zmP];have e:D%4294967296+c=a+4294967296*(D/9223372036854775808):=by omega
    have e2:4294967296^i*(D%4294967296)+4294967296^i*c=4294967296^i*a+4294967296^i*4294967296*(D/9223372036854775808):=by grind
    omega
 ·have h:i=n:=by have:=zl8 h;omega
  subst h;rw [Nat.sub_self,znk,zmR] at hrow;rw [zox tO,zox tO,zEx,zEx] at hval;have hv:wval ds=x-y:=by
   have h1:=zRF hsm;rw [hd] at h1;have hc0:c=0:=by grind
   rw [hc0] at hval;omega
  have ht:=hT H.length i ds _ hd hrow hsm tO;rw [hv] at ht;refine zI ht ?_;exact zIw rfl rfl (zOm (zoR _) hrow hsm hv) rfl (hO.set (zoR _) _)
end
def zXm (x y:Nat):Int:=if x<y then -1 else if x=y then 0 else 1
theorem zaM {x y:Nat} (h:x<y):zXm x y=-1:=zoQ h
theorem zhW (x:Nat):zXm x x=0:=by unfold zXm;rw [zWl tO,zoQ rfl]
theorem zaN {x y:Nat} (h:y<x):zXm x y=1:=by unfold zXm;rw [zWl tO,zWl tO]
theorem zhX (av bv:AV) (x y:Nat) (H:Heap) (ha:Mag av x) (hb:Mag bv y) (h1:(wds x).length<=100000) (h2:(wds y).length<=100000):EFun C GT zGo [av,bv] H (zK (zXm x y)) H:=by
 refine zH ?_;refine zAk (wds x).length ha zS_<|zAk (wds y).length hb zS_ ?_;refine zEO (fun h=>?_) (fun h=>?_)
 ·have h:(wds x).length≠(wds y).length:=by simp only [zo0,ne_eq] at h;omega
  refine zAk (wds x).length ha zS_<|zAk (wds y).length hb zS_ ?_;refine zEO (fun h2=>?_) (fun h2=>?_)
  ·have h2:(wds x).length<(wds y).length:=by have:=zow h2;omega
   rw [zaM (zMQ h2)];exact sRr
  ·have h2:(wds y).length<(wds x).length:=by have:=zl8 h2;omega
   rw [zaN (zMQ h2)];exact sRr
 have h:(wds x).length=(wds y).length:=by simp only [zog] at h;omega
 have key:∀ (e:Int),zXm x y=e->True:=fun _ _=>trivial;refine zAk (wds x).length ha zS_<|zjC ⟨by omega,by omega⟩ ?_;refine zAr (fun k:Nat=>[(5,zK ((k:Int)-1)),(1,bv),(0,av)]) (fun k H'=>H'=H/\k<=(wds x).length/\(wds x).drop k=(wds y).drop k) (fun k=>k) (wds x).length rfl
  ⟨rfl,zoR _,by rw [znd,h,znd]⟩ (fun k H1 ⟨e,hk,hd⟩=>?_)
 subst e;dsimp only;refine zEO (fun h3=>?_) (fun h3=>?_)
 ·have h3:1<=k:=by have:=zow h3;omega
  obtain ⟨i,rfl⟩:∃ i,k=i+1:=⟨k-1,by omega⟩;have hx:i<(wds x).length:=by omega
  have hy:i<(wds y).length:=by omega
  have hax:=zKP hx;have hby:=zKP hy;have hsx:=zB4 x _ (zmO hx);have hsy:=zB4 y _ (zmO hy);have top1:=fun hlt=>zZb (zB4 x) (zB4 y) h hx hd hlt;have top2:=fun hlt=>zZb (zB4 y) (zB4 x) h.symm hy hd.symm hlt;rw [zEx,zEx] at top1 top2;have hdx:(wds x).drop i=(wds x)[i]::(wds x).drop (i+1):=(znS hx).symm;have hdy:(wds y).drop i=(wds y)[i]::(wds y).drop (i+1):=(znS hy).symm;generalize (wds x)[i]=a at *;generalize (wds y)[i]=d at *;refine zBg i (zBU a) ha tO hax<|z8 (zBU a) rfl<|zBg i (zBU d) hb tO hby<|z8 (zBU d) rfl ?_;refine zEO (fun h4=>?_) (fun h4=>?_)
  ·have h4:a≠d:=by simp only [zo0,ne_eq] at h4;omega
   refine zBg i (zBU a) ha tO hax<|z8 (zBU a) rfl<|zBg i (zBU d) hb tO hby<|z8 (zBU d) rfl ?_;refine zEO (fun h5=>?_) (fun h5=>?_)
   ·have h5:a<d:=by have:=zow h5;omega
    rw [zaM (top1 h5)];exact sRr
   ·have h5:d<a:=by have:=zl8 h5;omega
    rw [zaN (top2 h5)];exact sRr
  ·have h4:a=d:=by simp only [zog] at h4;omega
   refine zjC ⟨by omega,by omega⟩ ?_;refine zAJ i ?_ ⟨rfl,by omega,by rw [hdx,hdy,h4,hd]⟩ tO;have:((i+1:Nat):Int)-1-1=(i:Int)-1:=by omega
   simp only [<-this];rfl
 ·have h3:k=0:=by have:=zl8 h3;omega
  subst h3;have e:x=y:=by
   rw [<-zEx x,<-zEx y];simp only [znY] at hd;rw [hd]
  rw [e,zhW];exact sRr
def zeC (xn:Bool) (x:Nat) (yn:Bool) (y:Nat):Bool×Nat:=if xn=yn then (xn,x+y) else if y<=x then (xn,x-y) else (yn,y-x)
theorem zhY (hA:∀ av bv x y H,Mag av x->Mag bv y->(wds x).length<=100000->(wds y).length<=100000->C zDN [av,bv] H (zFL (x+y)) H)
  (hS:∀ av bv x y H,Mag av x->Mag bv y->y<=x->(wds x).length<=100000->C zDP [av,bv] H (zFL (x-y)) H)
  (hC:∀ av bv x y H,Mag av x->Mag bv y->(wds x).length<=100000->(wds y).length<=100000->C zDO [av,bv] H (zK (zXm x y)) H)
  (av bv:AV) (xn yn:Bool) (x y:Nat) (H:Heap) (ha:Mag av x) (hb:Mag bv y) (h1:(wds x).length<=100000) (h2:(wds y).length<=100000) :
  EFun C GT zGm [.bool xn,av,.bool yn,bv] H (.tup [.bool (zeC xn x yn y).1,zFL (zeC xn x yn y).2]) H:=by
 obtain ⟨r,hr⟩:∃ r,zeC xn x yn y=r:=⟨_,rfl⟩;rw [hr];unfold zeC at hr;have c1:=hA av bv x y H ha hb h1 h2;have c2:=hC av bv x y H ha hb h1 h2;refine zH ?_;by_cases he:xn=yn
 ·rw [zoQ he] at hr;subst hr;subst he;cases xn
  ·refine zD<|zI (c1) ?_
   exact sRr
  ·refine zD<|zI (c1) ?_
   exact sRr
 rw [zWl he] at hr;by_cases hle:y<=x
 ·rw [zoQ hle] at hr;subst hr;have c3:=hS av bv x y H ha hb hle h1;have hg:decide (zXm x y>=0)=true:=by unfold zXm;rw [zWl tO];split <;> rfl
  cases xn <;> cases yn <;> first|exact absurd rfl he|skip
  all_goals
   refine zC<|zI (c2) ?_;refine zEO (fun _=>?_) (fun h=>absurd (hg.symm.trans h) zS_)
   refine zI (c3) ?_;exact sRr
 ·rw [zWl hle] at hr;subst hr;have c3:=hS bv av y x H hb ha tO h2;have hg:decide (zXm x y>=0)=false:=by unfold zXm;rw [zoQ tO];rfl
  cases xn <;> cases yn <;> first|exact absurd rfl he|skip
  all_goals
   refine zC<|zI (c2) ?_;refine zEO (fun h=>absurd (hg.symm.trans h) zS_) (fun _=>?_)
   refine zI (c3) ?_;exact sRr
end
theorem zaO:∀ (n q:Nat),q<(wds n).length->(wds n)[q]?=some (n/4294967296^q%4294967296):=by
 intro n;induction n using Nat.strongRecOn with
 |ind n ih=>
  intro q hq;have hn:n≠0:=fun e=>by subst e;simp [zEw] at hq
  rw [zCy hn] at hq ⊢;cases q with
  |zero=>simp
  |succ q=>
   rw [znA,ih _ tO q (by simpa using hq),znT,zmP,zme 4294967296]
theorem zkF (q:Nat):4294967296^q=2^(32*q):=by rw [Nat.pow_mul]
theorem zUd (m i:Nat):m/4294967296^(i/32)%4294967296/2^(i%32)%2=m/2^i%2:=by
 have hr:i%32<32:=zn7 _ tO;obtain ⟨k,hk⟩:∃ k,32=i%32+(k+1):=⟨31-i%32,by omega⟩;have e1:(4294967296:Nat)=2^(i%32)*2^(k+1):=by rw [<-Nat.pow_add,<-hk]
 have e2:m/4294967296^(i/32)%4294967296/2^(i%32)=m/4294967296^(i/32)/2^(i%32)%2^(k+1):=by
  conv=>lhs;lhs;rhs;rw [e1]
  rw [Nat.mod_mul_right_div_self]
 rw [e2,Nat.mod_mod_of_dvd _ (by rw [zmP];exact Nat.dvd_mul_left 2 _),zkF,znT,<-Nat.pow_add];have:32*(i/32)+i%32=i:=Nat.div_add_mod i 32;rw [this]
theorem zeD {m i:Nat} (h:(wds m).length<=i/32):m/2^i%2=0:=by
 have h1:=zf5 m;have h2:4294967296^(wds m).length<=4294967296^(i/32):=zmY tO h;rw [zkF (i/32)] at h2;have h3:2^(32*(i/32))<=2^i:=zmY tO tO;rw [Nat.div_eq_of_lt tO]
theorem zQG:∀ k n:Nat,n/2^k≠0->bits n=bits (n/2^k)+k
 |0,n,_=>by simp
 |k+1,n,h=>by
  have hn:n≠0:=fun e=>by subst e;simp at h
  have e:n/2^(k+1)=n/2/2^k:=by rw [znT,zmP,zme]
  rw [e] at h ⊢;rw [zNW hn,zQG k (n/2) h];omega
theorem zeE:∀ (m k:Nat),(wds m).length=k+1->bits m=k*32+bits (m/4294967296^k%4294967296):=by
 intro m;induction m using Nat.strongRecOn with
 |ind m ih=>
  intro k hk;have hm:m≠0:=fun e=>by subst e;simp [zEw] at hk
  rw [zCy hm,zoN] at hk;by_cases h2:m/4294967296=0
  ·rw [h2,zEw] at hk;have:k=0:=by simpa using hk.symm
   subst this;rw [Nat.pow_zero,Nat.div_one,zna tO];omega
  ·have h3:(wds (m/4294967296)).length≠0:=by rw [zCy h2];simp
   obtain ⟨j,rfl⟩:∃ j,k=j+1:=⟨k-1,by omega⟩;have h4:=ih (m/4294967296) tO j tO;have h5:=zQG 32 m (by simpa using h2);have e:(2:Nat)^32=4294967296:=by decide
   rw [e] at h5;rw [h5,h4,znT,zmP,zme 4294967296];omega
theorem zaP:∀ m:Nat,m≠0->∃ n,m%2^n=0/\m/2^n%2=1:=by
 intro m;induction m using Nat.strongRecOn with
 |ind m ih=>
  intro h;by_cases ho:m%2=1
  ·exact ⟨0,by simp [Nat.mod_one],by simpa using ho⟩
  ·obtain ⟨n,h1,h2⟩:=ih (m/2) tO tO;refine ⟨n+1, ?_, ?_⟩
   ·rw [zmP,zme,Nat.mod_mul,h1];omega
   ·rw [zmP,zme,<-Nat.div_div_eq_div_mul];exact h2
theorem zgB {m n k:Nat} (h:m%2^n=0) (hk:k<n):m/2^k%2=0:=by
 obtain ⟨c,rfl⟩:=Nat.dvd_of_mod_eq_zero h;obtain ⟨j,rfl⟩:∃ j,n=k+(j+1):=⟨n-k-1,by omega⟩;rw [Nat.pow_add,Nat.mul_assoc,Nat.mul_div_cancel_left _ (Nat.two_pow_pos k),zmP,zme (2^j) 2,Nat.mul_assoc,Nat.mul_mod_right]
theorem tz_63 {m:Nat} (h:m<18446744073709551616) (h1:m%2^63=0) (h2:m/2^63%2=1):m=9223372036854775808:=by grind
theorem shrN (w r:Nat) (h:r<=32):zCT .shr .u32 (w:Int) (r:Int)=some (.int .u32 ((w/2^r:Nat):Int)):=by
 simp only [zCT];rw [zWl tO];have e:Nat.min (r:Int).toNat IntKind.u32.bits=r:=by
  rw [zoq];exact znG h
 have e2:((2:Int)^r)=((2^r:Nat):Int):=by simp
 rw [e,e2,znJ _ (zoI _)];rfl
theorem shr1w (w:Nat):zCT .shr .u32 (w:Int) 1=some (.int .u32 ((w/2:Nat):Int)):=by
 have:=shrN w 1 tO;simpa using this
theorem and1 (a:Nat) (h:a<18446744073709551616):zIS .and .u64 (a:Int) 1=some (.int .u64 ((a%2:Nat):Int)):=by
 simp only [zIS];have e:(BitVec.ofInt IntKind.u64.bits (a:Int) &&& BitVec.ofInt IntKind.u64.bits 1).toNat=a%2:=by
  rw [BitVec.toNat_and];have h1:(BitVec.ofInt IntKind.u64.bits (a:Int)).toNat=a:=by
   show (BitVec.ofInt 64 (a:Int)).toNat=a;rw [BitVec.toNat_ofInt];have:((a:Int)%((2^64:Nat):Int))=(a:Int):=by rw [Int.emod_eq_of_lt tO (by simp;omega)]
   rw [this,zoq]
  have h2:(BitVec.ofInt IntKind.u64.bits 1).toNat=1:=by decide
  rw [h1,h2,Nat.and_one_is_mod]
 rw [e,IntKind.wrap_u64];have:((a%2:Nat):Int)%18446744073709551616=((a%2:Nat):Int):=by omega
 rw [this]
section
variable {C:CSpec} {GT:zG_}
theorem zkG (av:AV) (m i:Nat) (H:Heap) (ha:Mag av m) (hl:(wds m).length<=100000) (hi:i<=1000000):EFun C GT zGq [av,zK i] H (zRr (m/2^i%2)) H:=by
 obtain ⟨r,hr⟩:∃ r,m/2^i%2=r:=⟨_,rfl⟩;have hd:(i:Int).tdiv 32=((i/32:Nat):Int):=(Int.ofNat_tdiv i 32).symm;rw [hr];refine zH<|sX ?_;refine zBA zD_<|zQ (r:=i/32) hd tO<|zAk (wds m).length ha zS_<|sX ?_;refine zEO (fun h=>?_) (fun h=>?_)
 ·have h:(wds m).length<=i/32:=by have:=zow h;omega
  rw [zeD h] at hr;subst hr;exact sRv
 ·have h:i/32<(wds m).length:=by have:=zl8 h;omega
  have hg:=zKP h;have hw:=zB4 m _ (zmO h);have he:=zaO m (i/32) h;rw [zoO h] at he;have he:=zoh he;have hb:=zUd m i;rw [<-he,hr] at hb;generalize (wds m)[i/32]=w at *;have hw2:w/2^(i%32)<=w:=Nat.div_le_self _ _;have hm:(i:Int).tmod 32=((i%32:Nat):Int):=(Int.ofNat_tmod i 32).symm;subst hb;refine zBA zD_<|zQ (r:=i/32) hd tO<|zBg (i/32) (zBU w) ha rfl hg<|sX ?_;refine zDf (r:=i) rfl tO<|zBA zD_<|zCl (r:=((i%32:Nat):Int)) hm<|za (shrN w (i%32) tO)<|zDf (r:=w/2^(i%32)) rfl tO<|za (and1 (w/2^(i%32)) tO) ?_
  exact sRv
theorem zkH (hB:∀ (av:AV) (m i:Nat) (H:Heap),Mag av m->(wds m).length<=100000->i<=1000000->C zDQ [av,zK i] H (zRr (m/2^i%2)) H) (b m n:Nat) (x av:AV) (H:Heap) (hb:H[b]?=some (.box [x,av])) (ha:Mag av m) (h0:m≠0) (hl:(wds m).length<=100) (hn:n<=10000) (h1:m%2^n=0) (h2:m/2^n%2=1) :
  EFun C GT zBp [.ref b 0 0 0] H (zRr n) H:=by
 have hlz:(wds m).length≠0:=by rw [zCy h0];simp
 refine zH<|sX ?_;refine zAk (wds m).length ha zS_ ?_;refine zEO (fun h=>absurd (eq_of_beq h) tO) (fun _=>?_)
 refine zAr (fun k:Nat=>[(3,zRr k),(0,.ref b 0 0 0)]) (fun k H'=>H'=H/\k<=n) (fun k=>n-k) 0 rfl ⟨rfl,zmB _⟩ (fun k H1 ⟨e,hk⟩=>?_);subst e;dsimp only;have hbk:=hB av m k H1 ha tO tO;by_cases hkn:k=n
 ·subst hkn;rw [h2] at hbk;refine sX ?_;refine zQ (r:=k) rfl tO<|sX ?_
  exact sRv
 ·rw [zgB h1 (by omega:k<n)] at hbk;refine sX ?_;refine zQ (r:=k) rfl tO<|sX ?_;refine zDf (r:=k+1) rfl tO ?_
  exact zAJ (k+1) rfl ⟨rfl,by omega⟩ tO
structure SLe where
 t:Nat
 n:Nat
theorem zaQ (av:AV) (m:Nat) (H:Heap) (ha:Mag av m) (hl:(wds m).length<=1000):EFun C GT zFW [av] H (zL (bits m)) H:=by
 obtain ⟨r,hr⟩:∃ r,bits m=r:=⟨_,rfl⟩;rw [hr];refine zH<|zAk (wds m).length ha zS_ ?_;refine zEO (fun h=>?_) (fun h=>?_)
 ·have h:(wds m).length=0:=by have:=eq_of_beq h;omega
  have h0:m=0:=by
   by_cases e:m=0
   ·exact e
   ·rw [zCy e] at h;simp at h
  subst h0;subst hr;exact sRv
 ·have h:(wds m).length≠0:=fun e=>by rw [e] at h;exact absurd h zS_
  obtain ⟨k,hk⟩:∃ k,(wds m).length=k+1:=⟨(wds m).length-1,by omega⟩;have hlt:k<(wds m).length:=by omega
  have hg:=zKP hlt;have he:=zaO m k hlt;rw [zoO hlt] at he;have he:=zoh he;have ht:=zeE m k hk;rw [<-he,hr] at ht;have hw:=zB4 m _ (zmO hlt);generalize (wds m)[k]=w at *;have hbw:bits w<=32:=(zUL 32 w).2 hw;refine zAk (k+1) ha (by simp [hk])<|zQ (r:=k) tO tO<|sX ?_;refine zAr (fun s:SLe=>[(4,zBU s.t),(3,zL s.n),(0,av)]) (fun s H'=>H'=H/\s.n+bits s.t=bits w) (fun s=>s.t) ⟨w,0⟩ rfl ⟨rfl,by simp⟩ (fun ⟨t,n⟩ H1 ⟨e,hn⟩=>?_)
  subst e;simp only at hn;dsimp only;refine zEO (fun hc=>?_) (fun hc=>?_)
  ·have hc:t≠0:=fun e=>by rw [e] at hc;exact absurd hc zS_
   rw [zNW hc] at hn;refine zQ (r:=n+1) rfl tO<|za (shr1w t) ?_
   exact zAJ (SLe.mk (t/2) (n+1)) rfl ⟨rfl,by simp only;omega⟩ (by simp only;omega)
  ·have hc:t=0:=by simp only [zog] at hc;omega
   subst hc;have hz:bits 0=0:=rfl;rw [hz] at hn;have hn':n=bits w:=by omega
   subst hn';subst ht;refine zAk (k+1) ha (by simp [hk])<|zQ (r:=k) tO tO<|zQ (r:=k*32) tO tO<|zQ (r:=k*32+bits w) tO tO ?_
   exact sRv
theorem zaR (b m:Nat) (x av:AV) (H:Heap) (hb:H[b]?=some (.box [x,av])) (ha:Mag av m) (hm:m<18446744073709551616):EFun C GT zDz [.ref b 0 0 0] H (zRr m) H:=by
 refine zH ?_;by_cases h0:m=0
 ·subst h0;refine sW ?_;refine zAk 0 ha rfl<|sW ?_;refine zAk 0 ha rfl<|sW ?_
  exact sRr
 have hw:wds m=(m%4294967296)::wds (m/4294967296):=zCy h0;by_cases h1:m/4294967296=0
 ·rw [h1,zEw] at hw;have hm':m%4294967296=m:=by omega
  rw [hm'] at hw;have ha':zCS av 1 [zBU m]:=by unfold Mag at ha;rw [hw] at ha;exact ha
  refine sX ?_;refine zAk 1 ha' rfl<|sX ?_;refine zBg 0 (zBU m) ha' rfl rfl<|sX ?_;refine zDf (r:=m) rfl tO<|sX ?_;refine zAk 1 ha' rfl<|sX ?_
  exact sRv
 ·have hw2:wds (m/4294967296)=[m/4294967296]:=by
   rw [zCy h1];have e1:m/4294967296/4294967296=0:=by omega
   have e2:m/4294967296%4294967296=m/4294967296:=by omega
   rw [e1,e2,zEw]
  rw [hw2] at hw;have ha':zCS av 1 [zBU (m%4294967296),zBU (m/4294967296)]:=by unfold Mag at ha;rw [hw] at ha;exact ha
  have e:m%4294967296+4294967296*(m/4294967296)=m:=by omega
  have hor:=or32 (m%4294967296) (m/4294967296) tO tO;rw [e] at hor;refine sX ?_;refine zAk 2 ha' rfl<|sX ?_;refine zBg 0 (zBU (m%4294967296)) ha' rfl rfl<|sX ?_;refine zDf (r:=m%4294967296) rfl tO<|sX ?_;refine zAk 2 ha' rfl<|sX ?_;refine zBg 1 (zBU (m/4294967296)) ha' rfl rfl<|sX ?_;refine zDf (r:=m/4294967296) rfl tO<|za (zkB (m/4294967296) tO)<|za hor ?_
  exact sRr
theorem zeF (hU:∀ b m x av H,H[b]?=some (.box [x,av])->Mag av m->m<18446744073709551616->C zBN [.ref b 0 0 0] H (zRr m) H) (b:Nat) (v:Int) (H:Heap) (hb:H[b]?=some (.box (zF2 v))) (hv:zDi v) :
  EFun C GT zD9 [.ref b 0 0 0] H (zK v) H:=by
 unfold zDi at hv;have hu:=hU b v.natAbs _ _ H hb (zGP _) tO;unfold zF2 at hb;refine zH ?_;by_cases hn:v<0
 ·rw [zoj hn] at hb;have e:aUn .neg (.int .i64 (if v=-9223372036854775808 then v else -v))=some (zK v):=by
   simp only [aUn];rw [IntKind.wrap_i64];by_cases h:v=-9223372036854775808
   ·subst h;rfl
   ·rw [zWl h];have:(0 - -v+9223372036854775808)%18446744073709551616-9223372036854775808=v:=by omega
    rw [this];rfl
  refine sX ?_;refine zCl (r:=if v=-9223372036854775808 then v else -v) (by rw [IntKind.wrap_i64];split <;> omega)<|zA (.bool true) hb rfl<|zD<|za e ?_
  exact sRr
 ·rw [zop hn] at hb;refine sX ?_;refine zCl (r:=v) (by rw [IntKind.wrap_i64];omega)<|sX ?_
  exact sRv
theorem zXn (hL:∀ av m H,Mag av m->(wds m).length<=1000->C zCH [av] H (zL (bits m)) H)
  (hT:∀ b m n x av H,H[b]?=some (.box [x,av])->Mag av m->m≠0->(wds m).length<=100->n<=10000->m%2^n=0->m/2^n%2=1->C zAS [.ref b 0 0 0] H (zRr n) H)
  (b:Nat) (v:Int) (H:Heap) (hb:H[b]?=some (.box (zF2 v))) (hv:(wds v.natAbs).length<=100):EFun C GT zDd [.ref b 0 0 0] H (.bool (decide (zDi v))) H:=by
 obtain ⟨r,hr⟩:∃ r,decide (zDi v)=r:=⟨_,rfl⟩;rw [hr];have hl:=hL (zFL v.natAbs) v.natAbs H (zGP _) tO;have b63:=zUL 63 v.natAbs;have b64:=zUL 64 v.natAbs;have e63:(2:Nat)^63=9223372036854775808:=by decide
 have e64:(2:Nat)^64=18446744073709551616:=by decide
 rw [e63] at b63;rw [e64] at b64;have hb2:H[b]?=some (.box [.bool (decide (v<0)),zFL v.natAbs]):=hb;clear hb;refine zH<|sX ?_
 generalize bits v.natAbs=L at *;refine zEO (fun h=>?_) (fun h=>?_)
 ·have h:L<=63:=by have:=zow h;omega
  have:zDi v:=by unfold zDi;have:=b63.1 h;omega
  rw [zoj this] at hr;subst hr;refine sX ?_;exact sRv
 ·have h:¬ L<=63:=by have:=zl8 h;omega
  have hbig:¬ v.natAbs<9223372036854775808:=fun h'=>h (b63.2 h');refine zEO (fun h64=>?_) (fun h64=>?_)
  ·have h64:L<=64:=by have:=eq_of_beq h64;omega
   have hlt:=b64.1 h64;by_cases hn:v<0
   ·rw [zoj hn] at hb2;obtain ⟨n,t1,t2⟩:=zaP v.natAbs tO;have hn64:n<64:=by
     rcases zm5 n 64 with h|h
     ·exact h
     ·have h1:2^64<=2^n:=zmY tO h;rw [e64] at h1;rw [zna tO] at t1;omega
    have ht:=hT b v.natAbs n _ _ H hb2 (zGP _) tO hv tO t1 t2;by_cases h63:n=63
    ·subst h63;have:=tz_63 hlt t1 t2;have hin:zDi v:=by unfold zDi;omega
     rw [zoj hin] at hr;subst hr;refine sX ?_;exact sRv
    ·have hin:¬ zDi v:=fun hin=>by
      unfold zDi at hin;have e:v.natAbs=2^63:=by rw [e63];omega
      rw [e] at t1 t2;rcases Nat.lt_or_gt_of_ne h63 with h|h
      ·have:=zgB (m:=2^63) (n:=63) (k:=n) (Nat.mod_self _) h;omega
      ·grind
     have hne:((n:Int)==63)=false:=by rw [zoE];omega
     rw [zop hin] at hr;subst hr;refine sX ?_;exact zMB (zod AV.bool hne.symm) rfl rfl rfl rfl hO
   ·rw [zop hn] at hb2;have hin:¬ zDi v:=fun hin=>by unfold zDi at hin;omega
    rw [zop hin] at hr;subst hr;refine sX ?_;exact sRv
  ·have h64:¬ L<=64:=fun h'=>by
    have:L=64:=by omega
    rw [this] at h64;exact absurd h64 zS_
   have hgt:¬ v.natAbs<18446744073709551616:=fun h'=>h64 (b64.2 h');have hin:¬ zDi v:=fun hin=>by unfold zDi at hin;omega
   rw [zop hin] at hr;subst hr;refine sX ?_;exact sRv
theorem zhZ (hI:∀ b v H,H[b]?=some (.box (zF2 v))->(wds v.natAbs).length<=100->C zBG [.ref b 0 0 0] H (.bool (decide (zDi v))) H) (b:Nat) (v:Int) (H:Heap) (hb:H[b]?=some (.box (zF2 v))) (hv:(wds v.natAbs).length<=100) :
  EFun C GT zKI [.ref b 0 0 0] H (.bool (decide (zDi v))) H:=by
 have h:=hI b v H hb hv;refine zH<|sX ?_
 exact sRv
end
def zXo (v:Nat):AV:=if v=0 then .lst (some true) 0 [] else zFL (v*10)
theorem zVp (v:Nat):Mag (zXo v) (v*10):=by
 unfold zXo;by_cases h:v=0
 ·rw [zoQ h];subst h;exact ⟨some true,0,rfl,.inr rfl⟩
 ·rw [zWl h];exact zGP _
theorem zha:wds 10=[10]:=by rw [zCy zD_];rfl
theorem zeG (ds:List Nat) (c m d e:Nat):((((ds++c::List.replicate (m+1) 0).map zBU).set ds.length (zBU d)).set (ds.length+1) (zBU e))=((ds++[d])++e::List.replicate m 0).map zBU:=by
 rw [<-List.map_set,<-List.map_set,zmq _ _ (zoR _),Nat.sub_self,zmq _ _ tO,znC];simp [List.replicate_succ]
theorem zeH (ds:List Nat) (c:Nat) (zs:List Nat):((ds++c::zs).map zBU)[ds.length]?=some (zBU c):=by grind
theorem zeI (ds:List Nat) (c m d:Nat):(((ds++c::List.replicate (m+1) 0).map zBU).set ds.length (zBU d))[ds.length+1]?=some (zBU 0):=by grind
structure SMu where
 i:Nat
 c:Nat
 ds:List Nat
structure SMj where
 j:Nat
 c:Nat
section
variable {C:CSpec} {GT:zG_}
theorem zeJ (hT:∀ b m ws H,ws.length=m->H[b]?=some (.row 1 (ws.map zBU))->Small ws->m<=1000000->C zA2 [.sl (some false) b 1 0 m] H (.sl (some false) b 1 0 (wds (wval ws)).length) H)
  (av:AV) (x n:Nat) (H:Heap) (ha:Mag av x) (hn:(wds x).length=n) (hl:n<=100000):EFun C GT zGl [av,zFL 10] H (zXo x) H:=by
 have hal:((wds x).map zBU).length=n:=by rw [zoU,hn]
 have hb:zCS (zFL 10) 1 [zBU 10]:=by have:=zGP 10;unfold Mag at this;rw [zha] at this;exact this
 refine zH ?_;unfold zXo;by_cases h0:x=0
 ·subst h0;have hn0:n=0:=by rw [<-hn];rfl
  rw [zoQ rfl];refine sX ?_;exact sRv
 rw [zWl h0];have hn1:n≠0:=by rw [<-hn,zCy h0];simp
 refine zAk n ha hal<|sW ?_;refine zAk 1 hb rfl<|sW ?_;refine zAk n ha hal<|zAk 1 hb rfl<|zQ (r:=n+1) rfl tO<|zdH (n:=n+1) rfl (Int.le_refl _) ⟨by omega,by omega⟩ rfl ?_;refine zAr (fun s:SMu=>[(6,zL s.i),(5,.sl (some false) H.length 1 0 (n+1)),(1,zFL 10),(0,av)])
  (fun s H'=>Old H H'/\s.ds.length=s.i/\s.i<=n/\Small s.ds/\s.c<=10/\H'[H.length]?=some (.row 1 ((s.ds++s.c::List.replicate (n-s.i) 0).map zBU))/\wval s.ds+4294967296^s.i*s.c=wval ((wds x).take s.i)*10) (fun s=>n-s.i) ⟨0,0,[]⟩ rfl
  ⟨(Old.refl _).push _,rfl,zmB _,(fun w hw=>by cases hw),by simp only;omega,by rw [zo4,zoA,<-List.replicate_succ,zns];exact zB,rfl⟩ (fun ⟨i,c,ds⟩ H1 ⟨hO,hd,hi,hsm,hc,hrow,hval⟩=>?_)
 simp only at hd hi hsm hc hrow hval;dsimp only;refine sX ?_;refine zEO (fun h=>?_) (fun h=>?_)
 ·have h:i<n:=by have:=zow h;omega
  have hx:i<(wds x).length:=by omega
  have hax:=zKP hx;have htx:=zEC hx;have hsx:=zB4 x _ (zmO hx);obtain ⟨a,had⟩:∃ a,(wds x)[i]=a:=⟨_,rfl⟩;rw [had] at hax htx hsx;obtain ⟨m,hm⟩:∃ m,n-i=m+1:=⟨n-i-1,by omega⟩;rw [hm] at hrow;have hg1:=zeH ds c (List.replicate (m+1) 0);have hg2:=fun d=>zeI ds c m d;have hset:=fun d e=>zeG ds c m d e;rw [hd] at hg1 hg2 hset;have hsz:H1.length>H.length:=(zl_ hrow);refine zAr (fun s:SMj=>[(8,zL s.j),(6,zL i),(5,.sl (some false) H.length 1 0 (n+1)),(1,zFL 10),(0,av),(7,zRr s.c)])
   (fun s H'=>(s.j=0/\s.c=0/\H'=H1)\/(s.j=1/\s.c=(a*10+c)/4294967296/\H'=H1.set H.length (.row 1 (((ds++c::List.replicate (m+1) 0).map zBU).set i (zBU ((a*10+c)%4294967296)))))) (fun s=>1-s.j) ⟨0,0⟩ rfl (.inl ⟨rfl,rfl,rfl⟩) (fun ⟨j,c2⟩ H2 hj=>?_)
  dsimp only at hj ⊢;rcases hj with ⟨rfl,rfl,rfl⟩|⟨rfl,rfl,rfl⟩
  ·refine zAk 1 hb rfl<|zt (tT zD_)<|sX ?_;refine zDf (r:=a) rfl tO<|zBg 0 (zBU 10) hb rfl rfl<|sW ?_;refine zDf (r:=10) rfl tO<|zDf (r:=a*10) rfl tO<|zQ (r:=i) tO tO<|sAt ⟨by omega,by omega⟩<|zCs i (zBU c) (zBU c) tO hrow hg1 rfl<|zDf (r:=c) rfl tO<|zDf (r:=a*10+c) rfl tO<|zDf (r:=a*10+c) tO tO<|zQ (r:=i) tO tO<|zMU ((a*10+c)%4294967296) tO<|sAt ⟨by omega,by omega⟩<|zJ6 i (zBU ((a*10+c)%4294967296)) tO hrow hg1 rfl zD_ rfl (fun cs h=>by cases h)<|za (zeA (a*10+c))<|zQ (r:=1) tO tO ?_
   refine zAJ (SMj.mk 1 ((a*10+c)/4294967296)) rfl (.inr ⟨rfl,rfl,rfl⟩) zS_
  ·have hrow2:(H1.set H.length (.row 1 (((ds++c::List.replicate (m+1) 0).map zBU).set i (zBU ((a*10+c)%4294967296)))))[H.length]?=some (.row 1 (((ds++c::List.replicate (m+1) 0).map zBU).set i (zBU ((a*10+c)%4294967296)))):=zS hrow;refine zAk 1 hb rfl<|zc (tF zD_)<|zAk 1 hb rfl<|zQ (r:=i+1) rfl tO<|zMU ((a*10+c)/4294967296) tO<|sAt ⟨by omega,by omega⟩<|zJ6 (i+1) (zBU ((a*10+c)/4294967296)) tO hrow2 (hg2 _) rfl zD_ rfl (fun cs h=>by cases h)<|zQ (r:=i+1) rfl tO ?_;refine zAJ (SMu.mk (i+1) ((a*10+c)/4294967296) (ds++[(a*10+c)%4294967296])) rfl ⟨(hO.set (zoR _) _).set (zoR _) _,by simp [hd],by simp only;omega,hsm.snoc tO,by simp only;omega, ?_, ?_⟩ (by simp only;omega)
   ·have:n-(i+1)=m:=by omega
    simp only [this];rw [hset];exact zS hrow2
   ·simp only [zEy,hd,htx,zmP];have e:(a*10+c)%4294967296+4294967296*((a*10+c)/4294967296)=a*10+c:=by omega
    have e2:4294967296^i*((a*10+c)%4294967296)+4294967296^i*4294967296*((a*10+c)/4294967296)=4294967296^i*a*10+4294967296^i*c:=by grind
    rw [zmC];omega
 ·have h:i=n:=by have:=zl8 h;omega
  subst h;rw [Nat.sub_self,znk] at hrow;rw [zox tO,zEx,<-hd,<-zEy] at hval;have hsm2:Small (ds++[c]):=hsm.snoc tO;have ht:=hT H.length (i+1) (ds++[c]) _ (by simp [hd]) hrow hsm2 tO;rw [hval] at ht;refine sX ?_;exact zIw rfl rfl (zOm (zoR _) hrow hsm2 hval) rfl (hO.set (zoR _) _)
theorem zeK (b:Nat) (xs:List AV) (nv x0 x1:AV) (H:Heap) (hb:H[b]?=some (.box [x0,x1])) (hv:zCS nv 1 xs):EFun C GT zCi [.ref b 0 0 0,.bool false,nv] H (.ref b 0 0 0) (H.set b (.box [.bool false,nv])):=by
 have hbl:=zl_ hb;obtain ⟨q,k',rfl,hk⟩:=hv;refine zH<|sS (.lst q k' xs) [x0,.lst q k' xs] ?_;refine sX ?_;refine sS (.bool false) [.bool false,.lst q k' xs] ?_
 exact zUZ (znr ..) rfl rfl rfl (zoj hbl) rfl
theorem zaS (hM:∀ av x H,Mag av x->(wds x).length<=100000->C zDL [av,zFL 10] H (zXo x) H)
  (hG:∀ b xs nv x0 x1 H,H[b]?=some (.box [x0,x1])->zCS nv 1 xs->C zAN [.ref b 0 0 0,.bool false,nv] H (.ref b 0 0 0) (H.set b (.box [.bool false,nv])))
  (b t v:Nat) (av:AV) (H:Heap) (hb:H[b]?=some (.box [.bool false,av])) (ht:H[t]?=some (.box (zF2 10))) (ha:Mag av v) (hl:(wds v).length<=1000) :
  EFun C GT zEs [.ref b 0 0 0,.ref b 0 0 0,.ref t 0 0 0] H (.ref b 0 0 0) (H.set b (.box [.bool false,zXo v])):=by
 have hbl:=zl_ hb;have hm:=hM av v H ha tO;have hg:=hG b _ (zXo v) _ _ H hb (zVp v);clear hM hG;have ht:H[t]?=some (.box [.bool false,zFL 10]):=ht;refine zH<|sX ?_
 exact zUZ rfl rfl rfl rfl (zoj hbl) (by unfold zXo;split <;> rfl)
theorem zXp (hS:∀ av bv xn yn x y H,Mag av x->Mag bv y->(wds x).length<=100000->(wds y).length<=100000->C zDM [.bool xn,av,.bool yn,bv] H (.tup [.bool (zeC xn x yn y).1,zFL (zeC xn x yn y).2]) H)
  (hG:∀ b n neg x0 x1 H,H[b]?=some (.box [x0,x1])->C zAN [.ref b 0 0 0,.bool neg,zFL n] H (.ref b 0 0 0) (H.set b (.box [.bool (neg&&decide (0<n)),zFL n])))
  (b t v d:Nat) (av:AV) (H:Heap) (hb:H[b]?=some (.box [.bool false,av])) (ht:H[t]?=some (.box (zF2 d))) (ha:Mag av v) (hl:(wds v).length<=1000) (hd:(wds d).length<=1000) :
  EFun C GT zEt [.ref b 0 0 0,.ref b 0 0 0,.ref t 0 0 0] H (.ref b 0 0 0) (H.set b (.box (zF2 ((v+d:Nat):Int)))):=by
 have hbl:=zl_ hb;have e1:zF2 (d:Int)=[.bool false,zFL d]:=by unfold zF2;rw [tF];rfl
 have e2:zF2 ((v+d:Nat):Int)=[.bool false,zFL (v+d)]:=by unfold zF2;rw [tF];rfl
 have hs:=hS av (zFL d) false false v d H ha (zGP _) tO tO;have es:zeC false v false d=(false,v+d):=rfl;rw [es] at hs;have hg:=hG b (v+d) false (.bool false) av H hb;rw [e1] at ht;rw [e2];clear hS hG;refine zH<|sX ?_
 exact zUZ rfl rfl rfl rfl (zoj hbl) rfl
end
def zKr:Option Int->AV
 |some n=>.tup [zK n,.bool true]
 |none=>.tup [zK 0,.bool false]
theorem zeL {s:Bs} {i:Nat} {c:UInt8} (h:s[i]?=some c):zDl (s.take (i+1))=zDl (s.take i)*10+(c.toNat-48):=by
 rw [zm9,h];exact zSm _ _
theorem zeM {s:Bs} {i:Nat} {c:UInt8} (h:s[i]?=some c):(s.take (i+1)).all zGr=((s.take i).all zGr&&zGr c):=by
 rw [zm9,h,List.all_append];simp
theorem zVq (n:Nat):zF2 (n:Int)=[.bool false,zFL n]:=by unfold zF2;rw [tF];rfl
theorem zQH (k:Nat):10^(9*k)<=4294967296^k:=by
 rw [Nat.pow_mul];exact Nat.pow_le_pow_left zD_ k
theorem zaT {s:Bs} (h:s.all zGr=true) (hl:s.length<=200):(wds (zDl s)).length<=23:=by
 refine zRP ?_;have h1:=zOh s h;have h2:10^s.length<=10^(9*23):=zmY zD_ tO;exact zo3 h1 (zmK h2 (zQH 23))
section
variable {C:CSpec} {GT:zG_}
theorem zaU (hNew:∀ v H,zDi v->C zA4 [zK v] H (.ref H.length 0 0 0) (H++[.box (zF2 v)]))
  (hMul:∀ b t v av H,H[b]?=some (.box [.bool false,av])->H[t]?=some (.box (zF2 10))->Mag av v->(wds v).length<=1000->C zBD [.ref b 0 0 0,.ref b 0 0 0,.ref t 0 0 0] H (.ref b 0 0 0) (H.set b (.box [.bool false,zXo v])))
  (hAdd:∀ (b t v d:Nat) (av:AV) (H:Heap),H[b]?=some (.box [.bool false,av])->H[t]?=some (.box (zF2 d))->Mag av v->(wds v).length<=1000->(wds d).length<=1000->C zBE [.ref b 0 0 0,.ref b 0 0 0,.ref t 0 0 0] H (.ref b 0 0 0) (H.set b (.box (zF2 ((v+d:Nat):Int)))))
  (hFit:∀ b v H,H[b]?=some (.box (zF2 v))->(wds v.natAbs).length<=100->C zD8 [.ref b 0 0 0] H (.bool (decide (zDi v))) H)
  (hI:∀ b v H,H[b]?=some (.box (zF2 v))->zDi v->C zAs [.ref b 0 0 0] H (zK v) H)
  (s:Bs) (H:Heap) (hl:s.length<=200):EFun C GT zDc [.str s,.bool false] H (zKr (zCL s)) H:=by
 refine zH ?_;cases s with
 |nil=>
  clear hNew hMul hAdd hFit hI;refine sX ?_;exact sRv
 |cons c0 r0=>
 have hc0:(c0::r0)[0]?=some c0:=rfl;have hne:((c0::r0)==([]:Bs))=false:=rfl;obtain ⟨s,hs⟩:∃ s,c0::r0=s:=⟨_,rfl⟩;have hh:s.head?=some c0:=by rw [<-hs];rfl
 have hs0:s≠[]:=by rw [<-hs];simp
 have hs1:1<=s.length:=by rw [<-hs];simp
 rw [hs] at hc0 hne hl ⊢;clear hs r0;by_cases h48:c0.toNat=48/\s≠[48]
 ·have e:zCL s=none:=by
   unfold zCL;rw [zoQ (.inr ⟨by rw [hh,show c0=48 from zoi.1 h48.1],h48.2⟩)]
  rw [e];clear hNew hMul hAdd hFit hI;refine sX ?_;refine zt (zo0.2 h48.2) ?_;exact sRv
 have hform:¬ (s=[]\/(s.head?=some 48/\s≠[48])):=by
  rintro (h|⟨h,h'⟩)
  ·exact hs0 h
  ·rw [hh] at h;cases h;exact h48 ⟨rfl,h'⟩
 have main:loopP C GT [8,6,7,0] zMN (zLI 0 [7,0,6] (zWb (EW C GT (AC.rest (AC.rest (AC.rest (AC.rest (AC.rest (AC.rest zJH)))))) (zf2 zDc H (zKr (zCL s)) H)) (zf2 zDc H (zKr (zCL s)) H))) [(8,zL 0),(6,.str s),(7,.ref H.length 0 0 0),(0,.str s)] (H++[.box zV7]):=by
  have hwp:zCL s=if s.all zGr=true then (if zDl s<=9223372036854775807 then some (zDl s:Int) else none) else none:=by unfold zCL;rw [zWl hform]
  rw [hwp];obtain ⟨r,hr⟩:∃ r,(if s.all zGr=true then (if zDl s<=9223372036854775807 then some (zDl s:Int) else none) else none)=r:=⟨_,rfl⟩;rw [hr];refine zAr (fun i:Nat=>[(8,zL i),(6,.str s),(7,.ref H.length 0 0 0),(0,.str s)])
   (fun i H'=>Old H H'/\i<=s.length/\(s.take i).all zGr=true/\∃ av,H'[H.length]?=some (.box [.bool false,av])/\Mag av (zDl (s.take i))/\(1<=i->av=zFL (zDl (s.take i))))
   (fun i=>s.length-i) 0 rfl ⟨(Old.refl _).push _,by omega,rfl,_,zB,⟨some true,0,rfl,.inr rfl⟩,fun h=>by omega⟩ (fun i H1 ⟨hO,hi,hd,av,hb,hm,hav⟩=>?_)
  try dsimp only
  have hw:=zaT hd (by rw [zon];omega);by_cases hlt:i<s.length
  ·obtain ⟨c,hc⟩:∃ c,s[i]?=some c:=⟨_,zoO hlt⟩;have hdt:=zeL hc;have hat:=zeM hc;have hc256:c.toNat<256:=zmv c;by_cases hdg:zGr c=true
   ·have hdg':=hdg;unfold zGr at hdg';simp only [zTo,zoY] at hdg';rw [hd,hdg] at hat;have hd2:(wds (c.toNat-48)).length<=1000:=zmK (zRP (k:=1) tO) tO;have hmw:(wds (zDl (s.take i)*10)).length<=1000:=by
     have h1:=zOh (s.take (i+1)) hat;refine zmK (zRP (k:=23) ?_) tO;have h2:10^(s.take (i+1)).length<=10^(9*23):=zmY zD_ (by rw [zon];omega);have h3:=zQH 23;omega
    have hn10:=hNew 10;have hnd:=hNew ((c.toNat-48:Nat):Int);have hmul:=fun t H h1 h2=>hMul H1.length t (zDl (s.take i)) av H h1 h2;clear hFit hI hNew;have hbl:=zl_ hb;refine zt tT<|zCF rfl hc<|zc tF<|zCF rfl hc<|zC<|zc tF<|zBc (hn10 _ zD_) (fun h=>by cases h)<|zBc (hMul H.length H1.length (zDl (s.take i)) av _ hP hP hm tO) (fun h=>by cases h)<|sX ?_;refine zQ (r:=c.toNat) tO tO<|zQ (r:=c.toNat-48) tO tO<|zBc (hnd _ (by unfold zDi;omega)) (fun h=>by cases h)<|zBc (hAdd H.length _ (zDl (s.take i)*10) (c.toNat-48) (zXo (zDl (s.take i))) _ hP hP (zVp _) hmw hd2) (fun h=>by cases h)<|zQ (r:=i+1) rfl tO ?_
    refine zAJ (i+1) rfl ⟨?_,by omega,hat,zFL (zDl (s.take (i+1))), ?_,zGP _,fun _=>rfl⟩ tO
    ·exact (((hO.push _).set (zoR _) _).push _).set (zoR _) _
    ·rw [hdt,<-zVq];exact hP
   ·have hdf:=zmI.2 hdg;have hall:s.all zGr=false:=by
     rw [zmI];intro h;exact hdg (zmE.1 h c (zoc hc))
    rw [hall] at hr;have hr:none=r:=hr;subst hr;clear hFit hI hNew hMul hAdd;unfold zGr at hdf;by_cases h1:c.toNat<48
    ·refine sX ?_;exact sRv
    ·have h2:57<c.toNat:=by
      rw [tT (by omega:48<=c.toNat),zmN] at hdf;have:=zl8 hdf;omega
     refine sX ?_;exact sRv
  ·have hin:i=s.length:=by omega
   subst hin;rw [zmg] at hd hm hav hw;have hav:=hav hs1;subst hav;rw [hd,zoQ rfl] at hr;have hb':H1[H.length]?=some (.box (zF2 ((zDl s:Nat):Int))):=by rw [zVq];exact hb
   have hft:=hFit H.length ((zDl s:Nat):Int) H1 hb' (by simpa using (by omega:(wds (zDl s)).length<=100));have hi6:=hI H.length ((zDl s:Nat):Int) H1 hb';clear hFit hI hNew hMul hAdd;by_cases h64:zDl s<=9223372036854775807
   ·rw [zoQ h64] at hr;subst hr;have hin64:zDi ((zDl s:Nat):Int):=by unfold zDi;omega
    rw [zoj hin64] at hft;have hi6:=hi6 hin64;refine zc tF<|zc (zog.2 rfl)<|zI hft<|zC<|zI hi6 ?_
    exact zAQ rfl rfl rfl rfl hO
   ·rw [zWl h64] at hr;subst hr;have hin64:¬ zDi ((zDl s:Nat):Int):=by unfold zDi;omega
    rw [zop hin64] at hft;refine zc tF<|zc (zog.2 rfl)<|zI hft<|zD ?_
    exact zAQ rfl rfl rfl rfl hO
 by_cases h0:c0.toNat=48
 ·have h1:s=[48]:=by
   rcases Classical.em (s=[48]) with h|h
   ·exact h
   ·exact absurd ⟨h0,h⟩ h48
  refine sX ?_;refine zc (zog.2 h1) ?_;exact main
 ·refine sX ?_;exact main
end
end Go.AM
