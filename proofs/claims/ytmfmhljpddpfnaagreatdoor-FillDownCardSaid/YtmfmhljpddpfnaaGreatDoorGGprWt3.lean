/- Texts of mine in one. Own work. -/
import Derived.Test.YtmfmhljpddpfnaaGreatDoorGRfdGq
import Derived.Test.YtmfmhljpddpfnaaGreatDoorGBu3Itb
import Derived.Test.YtmfmhljpddpfnaaGreatDoorGRt2Pr1
import Derived.Test.YtmfmhljpddpfnaaGreatDoorGOn1Rq4
import Derived.Test.YtmfmhljpddpfnaaGreatDoorGRq5Alq
import Derived.Test.YtmfmhljpddpfnaaGreatDoorGAlgBg3
import Derived.Test.YtmfmhljpddpfnaaGreatDoorGAm23Am35
import Derived.Test.YtmfmhljpddpfnaaGreatDoorLc
import Derived.Test.YtmfmhljpddpfnaaGreatDoorLk
import Derived.Shelf.SlicesG.Delete
import Derived.Shelf.Spec.SlicesInsertGrow
set_option maxHeartbeats 4000000
set_option maxRecDepth 1000000
set_option linter.all false
namespace Go.AM
section
variable {C:CSpec} {GT:zG_}
theorem ziQ (b:Bool) (H:Heap):EFun C GT zLV [.bool b] H (v3 3 (if b=true then 1 else 0)) H:=by
 cases b
 ·refine zH ?_;refine zC ?_;refine za (v:=zV4) rfl ?_;refine zM (v:=AV.agg zV4) (AV.cells (.agg zV4)) zB rfl rfl rfl rfl ?_;exact zAU (o:=0) rfl rfl (zJ hP) rfl rfl rfl (((Old.refl _).push _).set (by first|assumption|exact zoR _|simp|omega) _)
 ·refine zH ?_;refine zD ?_;refine za (v:=zV6) rfl ?_;refine zM (v:=AV.agg zV6) (AV.cells (.agg zV6)) zB rfl rfl rfl rfl ?_;exact zAU (o:=0) rfl rfl (zJ hP) rfl rfl rfl (((Old.refl _).push _).set (by first|assumption|exact zoR _|simp|omega) _)
end
end Go.AM
namespace Go.Proofs.YtmfmhljpddpfnaaGreatDoor
open Go.AM
open Go.AM Go.RowKit
theorem zYN {t:Bs} {n:Nd} (h:zAj t=some n):t.head?=some 61:=by
 by_cases h6:t.head?=some 61
 ·exact h6
 ·rw [zMY h6] at h;cases h
theorem zOz {t:Bs} {n:Nd} (h:zAj t=some n):t.length<=200:=by
 unfold zAj at h;split at h
 ·rename_i h0;exact h0.1
 ·cases h
section
variable {m:Int} {ev:Value} (hev:∃ te pe,ev=.iface te pe)
theorem zFO {t:Bs} {n:Nd} (hp:zAj t=some n):Wf false n/\need n<=30/\(txt n).length<=199:=by
 obtain ⟨h1,h2,h3⟩:=ze6 hp;have hl:=zOz hp;exact ⟨h1,h2,by omega⟩
theorem zkt {t:Bs} {n:Nd} (hp:zAj t=some n) {c:Chg} (hc:c.ok):Wf false (onN c n)/\need (onN c n)<=30/\(txt (onN c n)).length<=1000/\cnt (onN c n)<=200:=by
 obtain ⟨h1,h2,h3⟩:=zFO hp;have h:=zkq hc h1;exact ⟨h.wf,by rw [h.need];exact h2,by have:=h.len;omega,by rw [h.cnt];have:=h.le;omega⟩
theorem zcP {t:Bs} {n:Nd} (hp:zAj t=some n):cnt n<=200:=by
 obtain ⟨h1,h2,h3⟩:=zFO hp;have h:=(zkq (ziC true 1 0) h1).le;omega
theorem zku:CkB (GQ m ev):=fun b a v H h1 h2 h3=>zYC b a v H h1 h2 h3
theorem g_wb:WbH (GQ m ev):=fun H0 b u c H hB hO hl=>by
 obtain ⟨v,H',⟨rfl,hT⟩,hg⟩:=zDe mixed (show zCU Tryz.prog zAp zbD=true from (kA 71)) (zei zku H0 b u c H hB hO hl);exact ⟨H',hg,hT⟩
theorem g_wt:WtH (GQ m ev):=fun H0 b u t H hB hO hl=>by
 obtain ⟨v,H',⟨rfl,hT⟩,hg⟩:=zDe mixed (show zCU Tryz.prog zAf zUl=true from (kA 97)) (zej zku H0 b u t H hB hO hl);exact ⟨H',hg,hT⟩
theorem zkv:ShowH (GQ m ev) where
 num m H:=zF mixed (kA 99) (zhz m H)
 snum k h H:=zF mixed (kA 98) (zeo zTH k h H)
 rep t h H:=zRg t h H
 is x H:=p_is parK x H
 stru x H:=zF mixed (kA 98) (zep x H)
 wrong k H:=zZ2 parK k H
 sbad k h H:=zF mixed (kA 98) (zeq rfl k h H)
 ref r h H:=zF mixed (kA 102) (zX7 zTH zef r h H)
 tight n h H:=zF mixed (kA 104) (zbI n h H)
 sign k h H:=zF mixed (kA 105) (zbK k h H)
theorem ziR {x:Bool} {n:Nd} (h:Wf x n) (hl:(txt n).length<=1000000):WrH (GQ m ev) n:=
 zbc (GT:=gtQ m ev) zkv g_wt g_wb (fun n h H0 b u H hB hO hb hl=>by
  obtain ⟨v,H',⟨rfl,hT⟩,hg⟩:=zDe mixed (show zCU Tryz.prog zEj zGQ=true from (kA 72)) (h H0 b u H hB hO hb hl);exact ⟨H',hg,hT⟩) (fun n h x H0 b u H hB hO hb hl=>by
  obtain ⟨v,H',⟨rfl,hT⟩,hg⟩:=zDe mixed (show zCU Tryz.prog zDK zMW=true from (kA 103)) (h x H0 b u H hB hO hb hl);exact ⟨H',hg,hT⟩) h hl
theorem ziS {x:Bool} {n:Nd} (h:Wf x n) (hl:(txt n).length<=1000):CtH (GQ m ev) n:=
 zbk (GT:=gtQ m ev) (fun n h c l H hc h1 h2=>(zAo mixed (kA 69) (h c l H hc h1 h2)).1 _ _ rfl) h hl
theorem ziT:FcH (GQ m ev):=fun n k c H hc=>zF mixed (kA 95) (zbd n k c H hc)
theorem zkw {x:Bool} {n:Nd} (h:Wf x n) (hl:(txt n).length<=1000):FmH (GQ m ev) x n:=
 zfJ (GT:=gtQ m ev) (fun x n h H=>zF mixed (kA 70) (h H)) ziT (fun c r h H=>by have:=zRU (GT:=gtQ m ev) c r H;rwa [h,zoQ rfl] at this) (fun t ht H=>zRJ parK t H ht) h hl
include hev in
theorem zcQ {n:Nd} (hw:Wf false n) (hd:need n<=30) (hc:cnt n<=200) (hl:(txt n).length<=1000) (H:Heap):GQ m ev zDX [ndV n] H (.tup [.str (zDT n),eV (zB9 n)]) H:=
 zF mixed (kA 47) (zfG n hw hd hc tO (ziS hw hl) (zkw hw hl) g_wb (ziR hw tO) (fun H0 b u H h1 h2 h3=>zYD H0 b u H h1 h2 h3) (fun H0 b u H h1=>zYE H0 b u H h1) (fun H=>zUY za4 (parG hev) _ H) H)
include hev in
theorem zfZ {t:Bs} {n:Nd} (hp:zAj t=some n):NkH (GQ m ev) n:=fun H=>by
 obtain ⟨h1,h2,h3⟩:=zFO hp;exact zF mixed (kA 48) (zcJ n h3 (fun H=>zcQ hev h1 h2 (zcP hp) tO H) H)
theorem zkx {x:Bool} {n:Nd} (h:Wf x n) (hl:(txt n).length<=1000) (k:Nd) (H:Heap):GQ m ev zAh [ndV n,ndV k] H (.bool (eqN n k)) H:=
 zb5 (C:=GQ m ev) (fun n m b h H=>zF mixed (kA 46) (zfO n m b h H)) (fun xv yv ks ls h1 h2 h3 h4 H=>zF mixed (kA 68) (zb4 xv yv ks ls h1 h2 h3 h4 H) (hn:=by obtain ⟨q,k,rfl,_⟩:=h1;obtain ⟨q',k',rfl,_⟩:=h2;rfl)) h hl k H
theorem g_cn:CnH (GQ m ev):=fun H=>zF mixed (show zCU Tryz.prog zu zNc=true from (kA 74)) (zYK H)
theorem g_ck:CkH (GQ m ev):=fun n H hne hl=>by
 obtain ⟨a,b,c,d,f,ks⟩:=n;cases ks with
 |nil=>exact absurd rfl hne
 |cons k0 ks=>
  have h:=zF mixed (show zCU Tryz.prog zu zNc=true from (kA 74)) (zcI (C:=GQ m ev) (GT:=gtQ m ev) 12 (k0::ks) H (.inl rfl) hl);rw [show zGZ (Nd.mk a b c d f (k0::ks))=.lst (some false) 12 ((k0::ks).map ndV) from zod (AV.lst (some false) 12) (zJi (k0::ks))];exact h
theorem g_on {t:Bs} {n:Nd} (hp:zAj t=some n) {c:Chg}:OnH (GQ m ev) c n:=fun fr fb cr cb l H hR hB hh=>by
 obtain ⟨h1,h2,h3⟩:=zFO hp;exact zks (GT:=gtQ m ev) fr fb cr cb l hR hB g_cn g_ck (fun n h H hh=>zF mixed (kA 50) (h H hh)) h1 tO H hh
include hev in
theorem g_rew (f:Nat) (cr:List AV) (l:List (Nat×ABlk)) (c:Chg) (hc:c.ok) (t:Bs) (ht:zBV t=0) (hN:∀ n,zAj t=some n->∀ H,Holds l H->GQ m ev f (ndV n::cr) H (.tup [ndV (onN c n),.nili]) H) (H:Heap) (hh:Holds l H) :
  GQ m ev zEF [.str t,.fn f [] cr] H (.tup [.str (zNd c t).2,eV (zNd c t).1]) H:=
 zF mixed (kA 21) (ziM (zUX za4) (zUY za4 (parG hev)) f cr l c t ht hN (fun n hp H=>zkx (zFO hp).1 (by have:=(zFO hp).2.2;omega) _ H) (fun n hp H=>by
  obtain ⟨h1,h2,h3,h4⟩:=zkt hp hc;exact zcQ hev h1 h2 h4 h3 H) H hh)
theorem zky (av:AV) (m':Nat) (H:Heap) (ha:Mag av m') (hm:m'≠0) (hl:(wds m').length<=100000):GQ m ev zCu [av] H (.lst (some false) 1 ((wds m').map zBU)) H:=zF mixed (kA 138) (ziP av m' H ha hm hl)
theorem zfa (av:AV) (a d:Nat) (H:Heap) (ha:Mag av a) (hl:(wds a).length<=100000) (hd0:0<d) (hd:d<4294967296):GQ m ev zCW [av,zBU d] H (.tup [zFL (a/d),zBU (a%d)]) H:=
 zF mixed (kA 142) (zfX zSz av a d _ H ha rfl hl hd0 hd)
theorem zcR (b:Nat) (v:Int) (H:Heap) (hb:H[b]?=some (.box (zF2 v))) (hv:v.natAbs<10000000000000000000000) (hl:(wds v.natAbs).length<=100):GQ m ev zA6 [.ref b 0 0 0,zK 10] H (.str (zX3 v)) H:=
 zF mixed (kA 122) (zfY zky zfa b v H hb hv hl)
theorem zTR:DgH (GQ m ev):=fun n hn H=>by
 have hT:∀ b v H,H[b]?=some (.box (zF2 v))->v.natAbs<10000000000000000000000->(wds v.natAbs).length<=100->GQ m ev zA6 [.ref b 0 0 0,zK 10] H (.str (zX3 v)) H:=fun b v H h1 h2 h3=>zcR b v H h1 h2 h3;have h:=zF mixed (kA 83) (zYM (C:=GQ m ev) (GT:=gtQ m ev) (fun v H hv=>zWB v H hv) (fun b v H h1 h2 h3=>zF mixed (kA 112) (zYL hT b v H h1 h2 h3)) (n:Int) H ⟨by omega,by omega⟩)
 rwa [zgJ] at h
theorem g_rsh:RshH (GQ m ev) where
 dig:=zTR
 tru x H:=zF mixed (kA 85) (ziQ x H)
 stru x H:=zF mixed (kA 84) (zbu x H)
 bad k H:=zkK zix k H
 sbad k h H:=zF mixed (kA 84) (zbv (zRT zix) k h H)
 ref r h H:=by
  obtain ⟨c,w,fc,fr⟩:=r;obtain ⟨h1,h2,h3,h4⟩:=h;simp only at h1 h2 h3 h4;obtain ⟨c,rfl⟩:∃ k:Nat,c=(k:Int):=⟨c.toNat,by omega⟩;obtain ⟨w,rfl⟩:∃ k:Nat,w=(k:Int):=⟨w.toNat,by omega⟩;cases fc <;> cases fr
  ·exact zF mixed (kA 87) (zJ3 zTR c w tO tO H)
  ·exact zF mixed (kA 87) (zKx zTR c w tO tO H)
  ·exact zF mixed (kA 87) (zKw zTR c w tO tO H)
  ·exact zF mixed (kA 87) (zLw zTR c w tO tO H)
 inn s b h H:=zF mixed (kA 88) (ziJ s b h H)
 tightn n h H:=zF mixed (kA 89) (zYG (fun op H h=>zUh zix op H h) n h H)
 tight op H h:=zUh zix op H h
 sign k h H:=zF mixed (kA 90) (zUw k h H)
theorem zfb:InH (GQ m ev):=fun c r H=>q_in za5 c r H
theorem zfc {n:Nd} (hw:Wf false n) (hd:need n<=30) (hc:cnt n<=200) (hl:(txt n).length<=1000) (H:Heap):GQ m ev zEh [ndV n] H (.tup [.str (zDT n),zL (zB9 n)]) H:=
 zF mixed (kA 38) (zb8 n hw hd hc tO
  (zWO (P:=RcH (GQ m ev)) (fun n hk h l H h1 h2=>zF mixed (kA 58) (zbl n h hk l H h1 h2)) hw hl)
  (zb7 (GT:=gtQ m ev) (fun x n h H=>zF mixed (kA 59) (h H)) zfb (fun t ht H=>zVw zix t H ht) hw hl)
  (zb6 (GT:=gtQ m ev) g_rsh (fun n h H=>zF mixed (kA 60) (h H)) hw tO) (fun hp H=>(zUk za5 bigG _ (zOz hp) rfl).1 n hp H) H)
theorem ziU {x:Bool} {n:Nd} (h:Wf x n) (hl:(txt n).length<=1000) (k:Nd) (H:Heap):GQ m ev zDA [ndV n,ndV k] H (.bool (eqN n k)) H:=
 zWO (P:=fun n=>∀ k H,GQ m ev zDA [ndV n,ndV k] H (.bool (eqN n k)) H) (fun n hk h k H=>zF mixed (kA 37) (zfP n k hk h H)) h hl k H
theorem zkz {k0:Int} {row:Bool} {at_ many cols rows:Int} {bx:Bx} (c:Chg) (hc:c.ok) (hR:RRef (GQ m ev) (ccV k0 row at_ many cols rows bx) c.ref) (hB:RBox (GQ m ev) (ccV k0 row at_ many cols rows bx) c.box) (t:Bs) (ht:zBV t=0):RwH (GQ m ev) (ccV k0 row at_ many cols rows bx) c t:=fun H=>
 zF mixed (kA 17) (ziN c t ht (fun n hp H=>(zUk za5 bigG t (zOz hp) (zYN hp)).1 n hp H) (fun n hp H=>ziL (GT:=gtQ m ev) hR hB (fun n h H=>zF mixed (kA 36) (h H)) (zFO hp).1 (by have:=(zFO hp).2.2;omega) H)
  (fun n hp H=>ziU (zFO hp).1 (by have:=(zFO hp).2.2;omega) _ H) (fun n hp H=>by
  obtain ⟨h1,h2,h3,h4⟩:=zkt hp hc;exact zfc h1 h2 h4 h3 H) H)
end
end Go.Proofs.YtmfmhljpddpfnaaGreatDoor
namespace Go.AM
section
variable {C:CSpec} {GT:zG_}
theorem zfd (fr nb:Nat) (cr:List AV) (l:List (Nat×ABlk)) (g:RefP->Option RefP) (hR:zgK C fr cr l g) (a b:RefP) (ha:okR a) (hb:okR b) :
  ∃ a' b',(∀ H,Holds l H->H[nb]?=some (.box [.fn fr [] cr])->EFun C GT zKG [rV a,rV b,bR nb] H (.tup [rV a',rV b',.bool (zJ2 g a b).isSome]) H)/\∀ x,zJ2 g a b=some x->(a',b')=x:=by
 obtain ⟨a',h1,q1⟩:=hR a ha;obtain ⟨b',h2,q2⟩:=hR b hb;refine ⟨a',b',fun H hh hn=>?_,fun x hx=>?_⟩
 case refine_2=>
  unfold zJ2 at hx;cases e1:g a with
  |none=>rw [e1] at hx;cases hx
  |some y=>grind
 have hnl:=(zl_ hn);clear q1 q2;have e:(zJ2 g a b).isSome=((g a).isSome&&(g b).isSome):=by
  unfold zJ2;cases g a <;> cases g b <;> rfl
 rw [e];clear hR e;refine zH ?_;cases ea:(g a).isSome with
 |true=>
  rw [ea] at h1;refine zAV (x:=rV a) rfl<|zAV (x:=rV b) rfl<|zA (.fn fr [] cr) hP rfl<|zA (rV a) hP rfl<|zI (h1 _ (hh.old hO))<|sW ?_;refine sSA (rV a') ?_;refine zA (.fn fr [] cr) hP rfl<|zA (rV b) hP rfl<|zI (h2 _ (hh.old hO))<|sW ?_;refine sSA (rV b') ?_;refine sX ?_;refine zG2 ?_ ?_
  ·refine sX ?_;refine sSA (rV a') ?_;refine sSA (rV b') ?_;exact zMy (o:=0) (o':=0) rfl rfl (zJ hP) rfl (zJ hP) rfl rfl rfl rfl hO
  ·refine sSA (rV a') ?_;refine sX ?_;refine sSA (rV b') ?_;exact zMy (o:=0) (o':=0) rfl rfl (zJ hP) rfl (zJ hP) rfl rfl rfl rfl hO
 |false=>
  rw [ea] at h1;refine zAV (x:=rV a) rfl<|zAV (x:=rV b) rfl<|zA (.fn fr [] cr) hP rfl<|zA (rV a) hP rfl<|zI (h1 _ (hh.old hO))<|sW ?_;refine sSA (rV a') ?_;refine zA (.fn fr [] cr) hP rfl<|zA (rV b) hP rfl<|zI (h2 _ (hh.old hO))<|sW ?_;refine sSA (rV b') ?_;refine sX ?_;refine zG2 ?_ ?_
  ·refine sX ?_;refine sSA (rV a') ?_;refine sSA (rV b') ?_;exact zMy (o:=0) (o':=0) rfl rfl (zJ hP) rfl (zJ hP) rfl rfl rfl rfl hO
  ·refine sSA (rV a') ?_;refine sX ?_;refine sSA (rV b') ?_;exact zMy (o:=0) (o':=0) rfl rfl (zJ hP) rfl (zJ hP) rfl rfl rfl rfl hO
def zgN:AF:={ zON with keep:=true }
theorem zcS {F:AF} {a s:Nat} {ag:Bool} {H H1:Heap} {fr:Fr} {v:AV} {cs:List AV} {o:Nat} (hF:F.results=[.cell a s ag]) (hk:F.keep=true) (hp:zy H1 (zMk fr a)=some (cs,o)) (hpt:part cs o s ag=some v):retP F H fr H1 v H1:=by
 refine zKq hk ?_;rw [zFA] at hp;simp only [hF,zBd,zKS,hp,hpt,zoe];rfl
def zTS (H:Heap) (fr:Nat) (cr:List AV):Heap:=((H++[ABlk.box [.fn fr [] cr]])++[ABlk.box [.nilf,.nilf]]).set (H++[ABlk.box [.fn fr [] cr]]).length (.box [.fn fr [] cr,.fn zBo [] [bR H.length]])
theorem zLx {H0 H:Heap} (h:Old H0 H) (fr:Nat) (cr:List AV):Old H0 (zTS H fr cr):=((h.push _).push _).set (by have:=h.1;simp;omega) _
theorem zcT (H:Heap) (fr:Nat) (cr:List AV):(zTS H fr cr)[H.length]?=some (.box [.fn fr [] cr]):=by
 unfold zTS;exact zE zS_ hP
theorem zQZ {H:Heap} {b:Nat} {x:ABlk} {fr:Nat} {cr:List AV} (h:H[b]?=some x):(zTS H fr cr)[b]?=some x:=by
 rw [(zLx (Old.refl H) fr cr).2 b (zl_ h)];exact h
theorem ziV (fr:Nat) (cr:List AV) (H:Heap):EFun C GT zgN [.fn fr [] cr] H (cgV fr zBo cr [bR H.length]) (zTS H fr cr):=by
 refine zH<|sX ?_;refine zM [.fn fr [] cr,.fn zBo [] [bR H.length]] hP rfl rfl rfl rfl ?_
 exact zcS (o:=0) rfl rfl (zJ hP) rfl
abbrev EcH (C:CSpec):Prop:=∀ (fr:Nat) (cr:List AV) H,C zH2 [.fn fr [] cr] H (cgV fr zBo cr [bR H.length]) (zTS H fr cr)
abbrev E1H (C:CSpec):Prop:=∀ (fr nb:Nat) (cr:List AV) (l:List (Nat×ABlk)) (g:RefP->Option RefP),zgK C fr cr l g->(nb,.box [.fn fr [] cr])∈l->BoxQ C zBo [bR nb] l (zJ2 g)
theorem onE {c:Chg} {n:Nd} (hE1:E1H C) (hO:OnH C c n) (hb:c.box=zJ2 c.ref) (fr:Nat) (cr:List AV) (l0:List (Nat×ABlk)) (Hx:Heap) (hR:zgK C fr cr ((Hx.length,.box [.fn fr [] cr])::l0) c.ref) (hh:Holds l0 Hx):C zAl [cgV fr zBo cr [bR Hx.length],ndV n] (zTS Hx fr cr) (ndV (onN c n)) (zTS Hx fr cr):=
 hO fr _ cr _ _ _ hR (by rw [hb];exact hE1 fr Hx.length cr _ _ hR (znP ..)) (fun p hp=>by
  rcases zmG.1 hp with rfl|hp
  ·exact zcT Hx fr cr
  ·exact hh.old (zLx (Old.refl Hx) fr cr) p hp)
end
end Go.AM
namespace Go.Proofs.YtmfmhljpddpfnaaGreatDoor
open Go.AM
open Go.AM Go.RowKit
section
variable {m:Int} {ev:Value}
theorem zk0:EcH (GQ m ev):=fun fr cr H=>zF mixed (show zCU Tryz.prog zH2 zgN=true from (kA 51)) (ziV fr cr H)
theorem ziW:E1H (GQ m ev):=fun fr nb cr l g hR hin a b ha hb=>by
 obtain ⟨a',b',h1,h2⟩:=zfd (GT:=gtQ m ev) fr nb cr l g hR a b ha hb;exact ⟨a',b',fun H hh=>zF mixed (kA 75) (h1 H hh (hh _ hin)),h2⟩
end
end Go.Proofs.YtmfmhljpddpfnaaGreatDoor
namespace Go.Proofs.YtmfmhljpddpfnaaGreatDoor
open Go.AM Go.Shelf Go.RowKit Go.Lib Go.Sort Go.Proofs
theorem zO0:Tryz.prog.follows .mixedOrders=true:=by kernel_rfl
def zF3:List Value:=[.int .i64 0,.int .i64 0,.string ⟨#[]⟩]
theorem zO1:∃ i0,Tryz.prog.info? 49=some i0/\i0.size=3/\i0.bytes=32/\i0.zero=some (.agg zF3.toArray):=by
 have h:(Tryz.prog.info? 49).isSome=true:=by kernel_rfl
 obtain ⟨i0,hi⟩:=zmL.1 h;have h1:(Tryz.prog.info? 49).map (fun i=>i.size)=some 3:=by kernel_rfl
 have h2:(Tryz.prog.info? 49).map (fun i=>i.bytes)=some 32:=by kernel_rfl
 have h3:(Tryz.prog.info? 49).bind (·.zero)=some (.agg zF3.toArray):=by kernel_rfl
 rw [hi] at h1 h2 h3;exact ⟨i0,hi,zoh h1,zoh h2,h3⟩
theorem ziX (w:World):(zeroValue 49).run Tryz.prog w=.ok (.agg zF3.toArray) w:=by
 obtain ⟨i0,hi,_,_,hz⟩:=zO1;simp [zeroValue,typeInfo,hi,hz]
theorem zU0 (w:World):(Go.sizeOf 49).run Tryz.prog w=.ok 3 w:=by (simp_all;done)
theorem zcU (b off n c i:Nat) (l:List Fil) (w:World) (hl:l.length=n) (hi:i<n) (hnc:n<=c) (hm:c<=9223372036854775807) (hcs:∀ j v,(zBk l)[j]?=some v->w.cell? ⟨b,off+j,none⟩=some v) (hfz:∀ j,j<n*3->w.frozen? ⟨b,off+j,none⟩=false) :
  Calls Tryz.prog zAG #[.slice (some ⟨b,off,none⟩) n c,.int .i64 i,.int .i64 ((i+1:Nat):Int)] w fun e w'=>e=.returned (.slice (some ⟨b,off,none⟩) (n-1) c) /\
   w'=(w.drew.setCells b (off+i*3) ((zBk l).drop ((i+1)*3))).setCells b (off+(n-1)*3) zF3:=by
 obtain ⟨i0,hi0,hz1,hz2,hz0⟩:=zO1;have mixed:=zO0;have t23:=Tryz.underlying22;have z31:=zU0;have v31:=ziX;obtain ⟨news,hnews⟩:∃ news,news=(zBk l).drop ((i+1)*3):=⟨_,rfl⟩;have hlen:news.length=(n-(i+1))*3:=by rw [hnews,zok,zE1,hl];omega
 have hisS:∀ j,j<n*3->(w.cell? ⟨b,off+j,none⟩).isSome=true:=fun j hj=>by
  obtain ⟨v,hv⟩:∃ v,(zBk l)[j]?=some v:=⟨_,zoO (by rw [zE1,hl];exact hj)⟩;rw [hcs j v hv];rfl
 obtain ⟨A,hA,hsrc⟩:∃ A:Addr,(if c=i+1 then some (⟨b,off,none⟩:Addr) else some ⟨b,off+(i+1)*3,none⟩)=some A/\Hid (∀ t u,news[t]?=some u->w.drew.cell? (A.add t)=some u):=by
  by_cases h:c=i+1
  ·refine ⟨⟨b,off,none⟩,by simp [h],fun t u hu=>?_⟩;have h0:news.length=0:=by rw [hlen];omega
   rw [znB.1 h0] at hu;simp at hu
  ·refine ⟨⟨b,off+(i+1)*3,none⟩,by simp [h],fun t u hu=>?_⟩;rw [Addr.add_lit,zl6];refine hcs _ _ ?_;rw [hnews,zo1] at hu;exact hu
 have s1:Hid (news.length=(n-(i+1))*3):=hlen;have s2:Hid (∀ u∈news,u.oneCell'=true):=fun u hu=>zJX l u (zmj (by rwa [hnews] at hu));have s3:Hid (∀ t,t<news.length->(w.drew.cell? ⟨b,off+i*3+t,none⟩).isSome=true/\w.drew.frozen? ⟨b,off+i*3+t,none⟩=false):=by
  intro t ht;rw [hlen] at ht;rw [zl6];exact ⟨hisS _ tO,hfz _ tO⟩
 obtain ⟨W1,hW1⟩:∃ W1,W1=w.drew.setCells b (off+i*3) news:=⟨_,rfl⟩;have hcl:∀ ty,(Builtin.clear_ #[22] ty #[.slice (some ⟨b,off+(i+(n-(i+1)))*3,none⟩) (n-(i+(n-(i+1)))) (c-(i+(n-(i+1))))]).run Tryz.prog W1=.ok (.tuple #[]) (W1.setCells b (off+(i+(n-(i+1)))*3) zF3):=fun ty=>by
  have e1:n-(i+(n-(i+1)))=1:=by omega
  rw [e1];refine zUu W1 _ _ ty _ zF3 t23 v31 b _ 1 _ zD_ (by kernel_rfl) (by intro v hv;simp only [zF3,zmG,List.not_mem_nil,or_false] at hv;rcases hv with rfl|rfl|rfl <;> rfl) (fun j hj=>?_) (fun j hj=>?_)
  ·rw [hW1];have hj:j<3:=hj;refine Go.Proofs.isSome_setCells b news _ _ (fun j hj=>(s3.out j hj).1) _ ?_;rw [zl6];exact hisS _ tO
  ·rw [hW1,World.frozen?_setCells,zl6];have hj:j<3:=hj;exact hfz _ tO
 have hW:Hid (W1=w.drew.setCells b (off+i*3) news):=hW1;have hic:i<=c:=by omega
 have hjc:i+1<=c:=by omega
 have hin:i<=n:=by omega
 have hin1:i+1<=n:=by omega
 have hne:¬ ((i:Int)=((i+1:Nat):Int)):=by omega
 have hb1:(0:Int)<=(i:Int)+1:=by omega
 have hb2:(i:Int)+1<=(n:Int):=by omega
 rw [<-hnews,<-hW1];clear hW1 hcs hfz hisS hnews hlen
 go_enter Tryz.func54,Tryz.ntmps54
 go_wp2_with fail
 go_region_law_o (refine step_append_room rfl (.tmp 22) (.tmp 25) 22 rfl 49 i0 3 t23 hi0 hz1 b off i c (by simp [Act.eval,Act.put]) A (n-(i+1)) (c-(i+1)) news (by simp [Act.eval,Act.put]) s1.out hsrc.out s2.out tO s3.out ?_;rw [<-hW.out])
 go_wp2
 go_ret
 refine ⟨by rw [show n-1=i+(n-(i+1)) by omega];rfl, ?_⟩;rw [show n-1=i+(n-(i+1)) by omega]
end Go.Proofs.YtmfmhljpddpfnaaGreatDoor
namespace Go.Proofs.YtmfmhljpddpfnaaGreatDoor
open Go.AM Go.Shelf Go.RowKit Go.Lib Go.Sort Go.Proofs
theorem zcV (b off n c i vb voff vc:Nat) (l:List Fil) (f:Fil) (w:World) (hl:l.length=n) (hi:i<n) (hroom:n+1<=c) (hc63:c<=9223372036854775807) (hvb:vb≠b)
  (hcs:∀ j v,(zBk l)[j]?=some v->w.cell? ⟨b,off+j,none⟩=some v) (hsp:∀ j,j<(n+1)*3->(w.cell? ⟨b,off+j,none⟩).isSome=true) (hfz:∀ j,j<(n+1)*3->w.frozen? ⟨b,off+j,none⟩=false)
  (hvs:∀ j v,(zK0 f)[j]?=some v->w.cell? ⟨vb,voff+j,none⟩=some v)
  (tA tB:TypeId) (kA kB:Nat) (hsa:w.shape? vb=some (tA,kA)) (hsb:w.shape? b=some (tB,kB)) (hkB:kB≠0) (hfa:w.frozen? ⟨vb,voff,none⟩=false) (hfe:w.frozen? ⟨vb,kA,none⟩=false) :
  Calls Tryz.prog zW #[.slice (some ⟨b,off,none⟩) n c,.int .i64 i,.slice (some ⟨vb,voff,none⟩) 1 vc] w fun e w'=>
   e=.returned (.slice (some ⟨b,off,none⟩) (n+1) c)/\w'=(w.drew.setCells b (off+(i+1)*3) ((zBk l).drop (i*3))).setCells b (off+i*3) (zK0 f):=by
 obtain ⟨i0,hi0,hz1,hz2x,hz0⟩:=zO1;have mixed:=zO0;have t23:=Tryz.underlying22;have z31:=zU0;have hz2:¬ ((i:Int)=(n:Int)):=by omega
 have hsz:(Tryz.prog.info? 49).map (·.size)=some 3:=by rw [hi0];simp [hz1]
 obtain ⟨cs,hcsd⟩:∃ cs,cs=zBk l:=⟨_,rfl⟩;have hcl:cs.length=n*3:=by rw [hcsd,zE1,hl]
 have h1c:∀ v∈cs,v.oneCell'=true:=by rw [hcsd];exact zJX l
 rw [<-hcsd] at hcs ⊢;obtain ⟨vs,hvsd⟩:∃ vs,vs=zK0 f:=⟨_,rfl⟩;have hvl:vs.length=3:=by rw [hvsd];rfl
 have h1v:∀ v∈vs,v.oneCell'=true:=by
  intro v hv;have:=zJX [f] v (by simpa [zBk,hvsd] using hv);exact this
 rw [<-hvsd] at hvs ⊢;have hov:∀ lb cb,(callFunc 80 #[.slice (some ⟨vb,voff,none⟩) 1 vc,.slice (some ⟨b,off+(i+1)*3,none⟩) lb cb]).run Tryz.prog w=.ok (.value (.bool false)) w:=fun lb cb=>by
  rw [run_callFunc_extern Tryz.func80 (by kernel_rfl) (by kernel_rfl) (by kernel_rfl) (e:=Extern.SlicesOverlaps.overlaps #[22,22] #[4]) (by kernel_rfl),
   Lib.run_overlaps_apart w 22 4 49 t23 3 z31 ⟨vb,voff,none⟩ ⟨b,off+(i+1)*3,none⟩ 1 vc lb cb hvb tA tB kA kB hsa hsb hkB hfa hfe]
  rfl
 have hdl:(cs.drop (i*3)).length=(n-i)*3:=by rw [zok,hcl];omega
 have hw1:IntKind.i64.wrap ((i:Int)+1)=(i:Int)+1:=by rw [IntKind.wrap_i64];omega
 have hw2:IntKind.i64.wrap ((n:Int)+1)=(n:Int)+1:=by rw [IntKind.wrap_i64];omega
 have hb1:(0:Int)<=(i:Int)+1:=by omega
 have hin:i<=n:=by omega
 have htn:((i:Int)+1).toNat=i+1:=by omega
 have htn2:((n:Int)+1).toNat=n+1:=by omega
 have hb2:¬ (c=i+1):=by omega
 have hb3:(i:Int)<=(n:Int)+1:=by omega
 have hb4:¬ (c=i):=by omega
 have hb5:¬ ((c:Int)<(n:Int)+1):=by omega
 have hb6:(n:Int)+1<=(c:Int):=by omega
 have hb7:(0:Int)<=(n:Int)+1:=by omega
 have hb8:(i:Int)+1<=(n:Int)+1:=by omega
 have hcp1:∀ ty dc sc,(Builtin.copy_ #[22,22] ty #[.slice (some ⟨b,off+(i+1)*3,none⟩) (n-i) dc,.slice (some ⟨b,off+i*3,none⟩) (n+1-i) sc]).run Tryz.prog w.drew=.ok (goInt (Nat.min (n+1-i) (n-i))) (w.drew.setCells b (off+(i+1)*3) (cs.drop (i*3))):=fun ty dc sc=>
  zJr w.drew _ _ ty 49 3 b (off+(i+1)*3) (n-i) dc ⟨b,off+i*3,none⟩ (n+1-i) sc (cs.drop (i*3)) t23 hsz (by rw [hdl];simp only [Nat.min_def];split <;> omega)
   (fun j v hj=>by rw [Addr.add_lit,zl6];exact hcs (i*3+j) v (by rwa [zo1] at hj))
   (fun j hj=>by rw [zl6];exact hsp _ tO) (fun j hj=>by rw [zl6];exact hfz _ tO) (fun v hv=>h1c v (zmj hv))
 obtain ⟨W1,hW1⟩:∃ W1,W1=w.drew.setCells b (off+(i+1)*3) (cs.drop (i*3)):=⟨_,rfl⟩;have hsp1:∀ k,k<(n+1)*3->(W1.cell? ⟨b,off+k,none⟩).isSome=true:=fun k hk=>by
  rw [hW1];exact Go.Proofs.isSome_setCells b _ _ _ (fun j hj=>by rw [zl6];exact hsp _ tO) _ (hsp k hk)
 have hcp2:∀ (W:World),(∀ x,W.cell? x=W1.cell? x)->(∀ x,W.frozen? x=W1.frozen? x)->∀ ty dc,(Builtin.copy_ #[22,22] ty #[.slice (some ⟨b,off+i*3,none⟩) (n+1-i) dc,.slice (some ⟨vb,voff,none⟩) 1 vc]).run Tryz.prog W=.ok (goInt (Nat.min 1 (n+1-i))) (W.setCells b (off+i*3) vs):=fun W hWc hWf ty dc=>
  zJr W _ _ ty 49 3 b (off+i*3) (n+1-i) dc ⟨vb,voff,none⟩ 1 vc vs t23 hsz (by rw [hvl];simp only [Nat.min_def];split <;> omega)
   (fun j v hj=>by
    rw [Addr.add_lit,hWc,hW1,World.cell?_setCells_out b _ _ _ _ (fun h _=>absurd h hvb)];exact hvs j v hj)
   (fun j hj=>by rw [hWc,zl6];exact hsp1 _ tO) (fun j hj=>by rw [hWf,hW1,World.frozen?_setCells,zl6];exact hfz _ tO) h1v
 rw [<-hW1] at hcp1;clear hcs hsp hfz hvs hsp1
 go_enter Tryz.func55,Tryz.ntmps55
 go_wp2_with (simp only [hov])
 go_region_law_o (refine step_copy_runI rfl _ _ 22 22 rfl _ _ (by simp [Act.eval,Act.put]) (by simp [Act.eval,Act.put]) (hcp1 _ _ _) ?_)
 go_wp2_with (at_builtin;refine wpList_copy_runI _ rfl _ _ 22 22 rfl _ _ rfl rfl (hcp2 _ (fun _=>rfl) (fun _=>rfl) _ _) ?_)
 go_ret
 exact ⟨rfl,by first|rfl|(rw [hW1,hcsd,hvsd])|(subst hW1 hcsd hvsd;rfl)⟩
theorem zfe (b off n c i vb voff vc:Nat) (l:List Fil) (f:Fil) (w:World) (hl:l.length=n) (hi:i<n) (hnc:n<=c) (hroom:c<n+1) (hbig:n<=3000)
  (hcs:∀ j v,(zBk l)[j]?=some v->w.cell? ⟨b,off+j,none⟩=some v) (hvs:∀ j v,(zK0 f)[j]?=some v->w.cell? ⟨vb,voff+j,none⟩=some v) :
  Calls Tryz.prog zW #[.slice (some ⟨b,off,none⟩) n c,.int .i64 i,.slice (some ⟨vb,voff,none⟩) 1 vc] w fun e w'=>
   ∃ ROW G,e=.returned (.slice (some ⟨w.heap.size,0,none⟩) (n+1) G)/\n+1<=G/\G<=maxLen/\(zBk (l.take i)) <+: ROW.toList/\(n+1)*3<=ROW.size /\
   w'=(((w.alloc (.cells ROW 49)).drew.setCells w.heap.size (i*3) (zK0 f)).drew).setCells w.heap.size ((i+1)*3) ((zBk l).drop (i*3)):=by
 obtain ⟨i0,hi0,hz1,hzb,hz0⟩:=zO1;have mixed:=zO0;have t23:=Tryz.underlying22;have z31:=zU0;have hz2:¬ ((i:Int)=(n:Int)):=by omega
 have hz3:(c:Int)<(n:Int)+1:=by omega
 have hsz:(Tryz.prog.info? 49).map (·.size)=some 3:=by rw [hi0];simp [hz1]
 obtain ⟨cs,hcsd⟩:∃ cs,cs=zBk l:=⟨_,rfl⟩;have hcl:cs.length=n*3:=by rw [hcsd,zE1,hl]
 have h1c:∀ v∈cs,v.oneCell'=true:=by rw [hcsd];exact zJX l
 obtain ⟨vs,hvsd⟩:∃ vs,vs=zK0 f:=⟨_,rfl⟩;have hvl:vs.length=3:=by rw [hvsd];rfl
 have h1v:∀ v∈vs,v.oneCell'=true:=by
  intro v hv;exact zJX [f] v (by simpa [zBk,hvsd] using hv)
 have htk:zBk (l.take i)=cs.take (i*3):=by rw [hcsd,zJs l i tO]
 rw [htk];simp only [<-hcsd,<-hvsd] at hcs hvs ⊢;have hbw:b<w.heap.size:=block_lt_of_cell (hcs 0 _ (zoO tO));have hvw:vb<w.heap.size:=block_lt_of_cell (hvs 0 _ (zoO tO));have hkk:(n:Int)+1-(i:Int)=((n+1-i:Nat):Int):=by omega
 have hik:i+(n+1-i)=n+1:=by omega
 have hold:(Builtin.firstCells i0.size i (.slice (some ⟨b,off,none⟩) i c)).run Tryz.prog w.drew=.ok (cs.take (i*3)).toArray w.drew:=by
  rw [hz1];exact run_firstCells_some w.drew 3 i ⟨b,off,none⟩ i c (cs.take (i*3)) (by rw [zon];omega) (fun j v hj=>by
   rw [Addr.add_lit];rw [zo5] at hj;split at hj
   ·exact hcs j v hj
   ·cases hj)
 have hgr:Builtin.nextslicecap (n+1) c*32<=281474976710656:=growslice_fits hroom tO;have hrz:∀ ty,(Builtin.append_ #[22,3] ty #[.slice (some ⟨b,off,none⟩) i c,.int .i64 ((n:Int)+1-(i:Int))]).run Tryz.prog w =
   .ok (.slice (some ⟨w.heap.size,0,none⟩) (n+1) (grownCap w (n+1) c 49)) (w.drew.alloc (.cells ((cs.take (i*3)).toArray++Builtin.zeroCells (Value.agg zF3.toArray).cells (n+1-i)++Builtin.zeroCells (Value.agg zF3.toArray).cells (grownCap w (n+1) c 49-(n+1))) 49)):=fun ty=>by
  have h:=Lib.run_append_grow_zeros w 22 3 ty 49 i0 _ .i64 .i64 t23 Tryz.underlying3 hi0 hz0 (some ⟨b,off,none⟩) i c (cs.take (i*3)) hold (n+1-i) tO tO tO tO (by rw [hzb];omega) (by rw [hzb,hik];exact hgr);rw [hik] at h;rw [hkk];exact h
 obtain ⟨G,hG⟩:∃ G,G=grownCap w (n+1) c 49:=⟨_,rfl⟩;obtain ⟨ROW,hROW⟩:∃ ROW:Array Value,ROW=(cs.take (i*3)).toArray++Builtin.zeroCells (Value.agg zF3.toArray).cells (n+1-i)++Builtin.zeroCells (Value.agg zF3.toArray).cells (G-(n+1)):=⟨_,rfl⟩;rw [<-hG] at hrz;rw [<-hROW] at hrz;have hzc:(Value.agg zF3.toArray).cells.size=3:=rfl;have hRl:(n+1)*3<=ROW.size:=by
  rw [hROW];simp only [znU,zny,zon,hcl,Builtin.zeroCells,Array.size_map,Array.size_range,hzc];omega
 have hpre:cs.take (i*3) <+: ROW.toList:=by grind
 obtain ⟨W1,hW1⟩:∃ W1,W1=w.drew.alloc (.cells ROW 49):=⟨_,rfl⟩;rw [<-hW1] at hrz;have hN:∀ j,j<(n+1)*3->(W1.cell? ⟨w.heap.size,j,none⟩).isSome=true:=fun j hj=>by
  rw [hW1,World.cell?_alloc_at (w:=w.drew) ROW _ w.heap.size j rfl,zm4 tO];rfl
 have hNf:∀ j,W1.frozen? ⟨w.heap.size,j,none⟩=false:=fun j=>by rw [hW1];exact World.frozen?_alloc_at (w:=w.drew) ROW _ w.heap.size j rfl
 have hOb:∀ j v,w.cell? ⟨b,j,none⟩=some v->W1.cell? ⟨b,j,none⟩=some v:=fun j v h=>by rw [hW1,World.cell?_alloc_past (w:=w.drew) _ b j hbw];exact h
 have hOv:∀ j v,w.cell? ⟨vb,j,none⟩=some v->W1.cell? ⟨vb,j,none⟩=some v:=fun j v h=>by rw [hW1,World.cell?_alloc_past (w:=w.drew) _ vb j hvw];exact h
 have hcpA:∀ (W:World),(∀ x,W.cell? x=W1.cell? x)->(∀ x,W.frozen? x=W1.frozen? x)->∀ ty dc,(Builtin.copy_ #[22,22] ty #[.slice (some ⟨w.heap.size,i*3,none⟩) (n+1-i) dc,.slice (some ⟨vb,voff,none⟩) 1 vc]).run Tryz.prog W=.ok (goInt (Nat.min 1 (n+1-i))) (W.setCells w.heap.size (i*3) vs):=fun W hWc hWf ty dc=>
  zJr W _ _ ty 49 3 w.heap.size (i*3) (n+1-i) dc ⟨vb,voff,none⟩ 1 vc vs t23 hsz (by rw [hvl];simp only [Nat.min_def];split <;> omega)
   (fun j v hj=>by rw [Addr.add_lit,hWc];exact hOv _ v (hvs j v hj))
   (fun j hj=>by rw [hWc];exact hN _ tO) (fun j hj=>by rw [hWf];exact hNf _) h1v
 have hGn:n+1<=G:=by rw [hG];exact grownCap_ge w _ _ _
 have hGm:G<=maxLen:=by rw [hG];exact grownCap_le_maxLen w (n+1) c 49 (by unfold maxLen;omega)
 have hG63:G<=9223372036854775807:=by unfold maxLen at hGm;omega
 have hGi:¬ (G=i):=by omega
 have hGim:¬ (G=i+1):=by omega
 have hci:¬ (c=i):=by omega
 have hbN:b≠w.heap.size:=by omega
 have hdl:(cs.drop (i*3)).length=(n-i)*3:=by rw [zok,hcl];omega
 have hcpB:∀ (W:World),(∀ x,W.cell? x=(W1.setCells w.heap.size (i*3) vs).cell? x)->(∀ x,W.frozen? x=(W1.setCells w.heap.size (i*3) vs).frozen? x)->∀ ty dc sc,(Builtin.copy_ #[22,22] ty #[.slice (some ⟨w.heap.size,(i+1)*3,none⟩) (n-i) dc,.slice (some ⟨b,off+i*3,none⟩) (n-i) sc]).run Tryz.prog W=.ok (goInt (Nat.min (n-i) (n-i))) (W.setCells w.heap.size ((i+1)*3) (cs.drop (i*3))):=fun W hWc hWf ty dc sc=>
  zJr W _ _ ty 49 3 w.heap.size ((i+1)*3) (n-i) dc ⟨b,off+i*3,none⟩ (n-i) sc (cs.drop (i*3)) t23 hsz (by rw [hdl];simp only [Nat.min_def];split <;> omega)
   (fun j v hj=>by
    rw [Addr.add_lit,hWc,World.cell?_setCells_out _ _ _ _ _ (fun h _=>absurd h hbN),zl6];exact hOb _ v (hcs (i*3+j) v (by rwa [zo1] at hj)))
   (fun j hj=>by rw [hWc];exact Go.Proofs.isSome_setCells _ _ _ _ (fun t ht=>hN _ tO) _ (hN _ tO))
   (fun j hj=>by rw [hWf,World.frozen?_setCells];exact hNf _) (fun v hv=>h1c v (zmj hv))
 subst hW1;have hE1:∀ x,((w.alloc (.cells ROW 49)).drew).cell? x=(w.drew.alloc (.cells ROW 49)).cell? x:=fun x=>rfl;have hE2:∀ x,((w.alloc (.cells ROW 49)).drew).frozen? x=(w.drew.alloc (.cells ROW 49)).frozen? x:=fun x=>rfl;have hF1:∀ x,(((w.alloc (.cells ROW 49)).drew.setCells w.heap.size (i*3) vs).drew).cell? x=((w.drew.alloc (.cells ROW 49)).setCells w.heap.size (i*3) vs).cell? x:=fun x=>rfl;have hF2:∀ x,(((w.alloc (.cells ROW 49)).drew.setCells w.heap.size (i*3) vs).drew).frozen? x=((w.drew.alloc (.cells ROW 49)).setCells w.heap.size (i*3) vs).frozen? x:=fun x=>rfl;have hw1:IntKind.i64.wrap ((i:Int)+1)=(i:Int)+1:=by rw [IntKind.wrap_i64];omega
 have hw2:IntKind.i64.wrap ((n:Int)+1)=(n:Int)+1:=by rw [IntKind.wrap_i64];omega
 have hw3:IntKind.i64.wrap ((n:Int)+1-(i:Int))=(n:Int)+1-(i:Int):=by rw [IntKind.wrap_i64];omega
 have hb1:(0:Int)<=(i:Int)+1:=by omega
 have hin:i<=n:=by omega
 have htn:((i:Int)+1).toNat=i+1:=by omega
 have hb3:(i:Int)<=(n:Int):=by omega
 have hb4:(i:Int)+1<=(n:Int)+1:=by omega
 clear hkk hik hold hROW hG hvsd hcsd htk
 go_enter Tryz.func55,Tryz.ntmps55
 go_wp2_with (first
  |(at_builtin;refine Lib.wpList_append_run _ rfl _ _ _ _ rfl _ _ rfl rfl _ _ (hrz _) ?_)
  |(at_builtin;refine wpList_copy_runI _ rfl _ _ 22 22 rfl _ _ rfl rfl (hcpA _ hE1 hE2 _ _) ?_))
 go_region_law_o (refine step_copy_runI rfl _ _ 22 22 rfl (.slice (some ⟨w.heap.size,(i+1)*3,none⟩) (n-i) (G-(i+1))) (.slice (some ⟨b,off+i*3,none⟩) (n-i) (c-i)) (by simp [Act.eval,Act.put]) (by simp [Act.eval,Act.put]) (hcpB _ hF1 hF2 3 (G-(i+1)) (c-i)) ?_)
 go_wp2
 go_ret
 exact ⟨ROW,G,rfl,hGn,hGm,hpre,hRl,rfl⟩
end Go.Proofs.YtmfmhljpddpfnaaGreatDoor
namespace Go.AM
theorem zQa (c r:Int) (f:Fil):decide (zQJ f.col f.row c r<0)=aheadC c r f:=by
 unfold aheadC
 congr 1
 exact propext (zRi _ _ _ _)
theorem ziY (c r:Int) (f:Fil):(zQJ f.col f.row c r==0)=isC c r f:=by
 unfold isC;rw [<-decide_eq_decide.2 (zb9 f.col f.row c r)];rfl
theorem ziZ {l:List Fil} (h:Srtd l) (c r:Int) {i:Nat} (hi:i<=l.length) (h1:∀ k f,k<i->l[k]?=some f->aheadC c r f=true) (h2:∀ k f,i<=k->l[k]?=some f->aheadC c r f=false):i=zK1 l c r:=by
 have e1:(l.take i).filter (aheadC c r)=l.take i:=List.filter_eq_self.2 fun f hf=>by
  obtain ⟨k,hk⟩:=zo6 hf;have hki:=(zl_ hk);rw [zon] at hki;rw [List.getElem?_take_of_lt tO] at hk;exact h1 k f tO hk
 have e2:(l.drop i).filter (aheadC c r)=[]:=znE.2 fun f hf=>by
  obtain ⟨k,hk⟩:=zo6 hf;rw [zo1] at hk;rw [h2 (i+k) f tO hk];simp
 unfold zK1
 conv=>rhs;rw [<-List.take_append_drop i l]
 rw [List.filter_append,e1,e2,zmR,zon];omega
section
variable {C:CSpec} {GT:zG_}
theorem zff (hA:∀ c1 r1 c2 r2 H,C zD5 [ze c1 r1,ze c2 r2] H (zK (zQJ c1 r1 c2 r2)) H) (f:Fil) (c r:Int) (H:Heap):EFun C GT zI7 [zf f,ze c r] H (zK (zQJ f.col f.row c r)) H:=by
 have ha:=hA f.col f.row c r;clear hA;refine zH ?_;refine zAV (x:=zf f) rfl<|zAV (x:=ze c r) rfl<|zA (ze f.col f.row) (zG zB) rfl<|zA (ze c r) zB rfl<|zI (ha _) ?_
 exact zAQ rfl rfl rfl rfl (((Old.refl _).push _).push _)
structure BsS where
 i:Nat
 j:Nat
theorem zYO (hC:∀ f c r H,C zBZ [zf f,ze c r] H (zK (zQJ f.col f.row c r)) H) (lv:AV) (l:List Fil) (hl:l.length<=3000) (hs:Srtd l) (c r:Int) (H:Heap) (hv:view H 3 lv=some (l.map zf)) (found:Bool) (hf:found=(match l[zK1 l c r]? with|some f=>isC c r f|none=>false)) :
  EFun C GT zAO [lv,ze c r,.fn zBZ [] []] H (.tup [zL (zK1 l c r),.bool found]) H:=by
 have hlm:(l.map zf).length=l.length:=zoU _;have hc:=fun f H=>hC f c r H;clear hC;refine zH ?_;refine zAV (x:=ze c r) rfl ?_;have hv0:view (H++[ABlk.box (ze c r).cells]) 3 lv=some (l.map zf):=zHx ((Old.refl H).push _) hv;refine zDU hv0 ?_;refine zAr (fun x:BsS=>[(4,pR H.length),(0,lv),(2,.fn zBZ [] []),(10,zL x.j),(9,zL x.i),(8,.int .i64 ((l.map zf).length:Nat))]) (fun x H'=>H'=H++[ABlk.box (ze c r).cells]/\x.i<=x.j/\x.j<=l.length/\(∀ k f,k<x.i->l[k]?=some f->aheadC c r f=true)/\(∀ k f,x.j<=k->l[k]?=some f->aheadC c r f=false)) (fun x=>x.j-x.i) ⟨0,l.length⟩ (by simp only [hlm];rfl) ⟨rfl,zmB _,zoR _,fun k f h=>absurd h (zmU _),fun k f (h1:l.length<=k) h2=>absurd (zl_ h2) tO⟩ (fun ⟨i,j⟩ H1 ⟨hH,hij,hj,h1,h2⟩=>?_);subst hH;dsimp only at hij hj h1 h2 ⊢;by_cases hlt:i<j
 ·obtain ⟨m,hm⟩:∃ m,(i+j)/2=m:=⟨_,rfl⟩;obtain ⟨f,hfm⟩:∃ f,l[m]?=some f:=⟨_,zoO tO⟩;have hfm2:(l.map zf)[m]?=some (zf f):=by rw [zoX,hfm];rfl
  have hsh:zCT .shr .u64 ((i+j:Nat):Int) 1=some (.int .u64 (m:Int)):=by rw [<-hm];exact shr1 _
  have hca:=zQa c r f;have mono:∀ k g,l[k]?=some g->(k<m->f.row<r\/(f.row=r/\f.col<c)->aheadC c r g=true)/\(m<k->¬ (f.row<r\/(f.row=r/\f.col<c))->aheadC c r g=false):=fun k g hg=>by
   have hp:=List.pairwise_iff_getElem.1 hs;obtain ⟨hk,rfl⟩:=zg hg;obtain ⟨hm2,rfl⟩:=zg hfm;refine ⟨fun a b=>?_,fun a b=>?_⟩
   ·have:=hp k m hk hm2 a;simp only [aheadC,zoY];omega
   ·have:=hp m k hm2 hk a;simp only [aheadC,zl4];omega
  by_cases ha:f.row<r\/(f.row=r/\f.col<c)
  ·have hcl:zQJ f.col f.row c r<0:=(zRi _ _ _ _).2 ha;refine zt (tT)<|zQ (r:=i+j) rfl tO<|zDf (r:=i+j) rfl tO<|za hsh<|zQ (r:=m) rfl tO ?_;refine zLM m (zf f) hv0 rfl hfm2 (fun p hp=>?_)
   refine zAe (zf f) hp rfl<|zA (ze c r) zB rfl<|zI (hc f _)<|zt (tT)<|zQ (r:=m+1) rfl tO ?_;refine zAJ (BsS.mk (m+1) j) rfl ⟨rfl,by simp only;omega,hj,fun k g hk hg=>?_,h2⟩ (by simp only;omega)
   by_cases e:k=m
   ·grind
   ·grind
  ·have hcl:¬ zQJ f.col f.row c r<0:=fun h=>ha ((zRi _ _ _ _).1 h);refine zt (tT)<|zQ (r:=i+j) rfl tO<|zDf (r:=i+j) rfl tO<|za hsh<|zQ (r:=m) rfl tO ?_;refine zLM m (zf f) hv0 rfl hfm2 (fun p hp=>?_)
   refine zAe (zf f) hp rfl<|zA (ze c r) zB rfl<|zI (hc f _)<|zc (zop hcl) ?_;refine zAJ (BsS.mk i m) rfl ⟨rfl,by simp only;omega,by simp only;omega,h1,fun k g hk hg=>?_⟩ (by simp only;omega)
   by_cases e:k=m
   ·grind
   ·grind
 ·obtain rfl:i=j:=by omega
  have hp:=ziZ hs c r hj h1 h2;rw [<-hp] at hf ⊢;by_cases hin:i<l.length
  ·obtain ⟨f,hfm⟩:∃ f,l[i]?=some f:=⟨_,zoO hin⟩;have hfm2:(l.map zf)[i]?=some (zf f):=by rw [zoX,hfm];rfl
   rw [hfm] at hf;have hfe:found=(zQJ f.col f.row c r==0):=by rw [hf,ziY]
   refine zc (tF)<|zt (tT) ?_;refine zLM i (zf f) hv0 rfl hfm2 (fun p hp=>?_)
   refine zAe (zf f) hp rfl<|zA (ze c r) zB rfl<|zI (hc f _)<|zD ?_
   exact zMB (v0:=.tup [zL i,.bool (zQJ f.col f.row c r==0)]) (by rw [hfe]) rfl rfl rfl rfl ((Old.refl _).push _)
  ·rw [zmA tO] at hf;subst hf;refine zc (tF)<|zc (tF)<|zC ?_
   exact zAQ rfl rfl rfl rfl ((Old.refl _).push _)
end
theorem zia {b k s i o:Nat} (j:Nat) (v:AV) (cs:List AV) {H:Heap} {xs:List AV} {K:AV->Heap->Prop} (hi:i=j) (h:H[b]?=some (.row k xs)) (hx:xs[j]?=some (.agg cs)) (hp:v.plain=true) (hs:0<s) (ho:o+s<=k) (he:v.elem s=true)
  (q:K .undef (H.set b (.row k (xs.set j (.agg (splice cs o v.cells)))))):actP (.store s) [.ref b k i o,v] H K:=by
 subst hi;refine zMj ?_ q;have hc:v.cells.length=s/\v.cells.all AV.one=true:=by
  simp only [AV.elem,zTo,zol] at he;exact ⟨he.1.1,he.2⟩
 simp only [astep,zoQ hc,h,zSN hp,hx];rw [zoQ ⟨trivial,ho,hs,he⟩];rfl
theorem zU1 {n0 b k len:Nat} {H:Heap} {xs:List AV} (hb:n0<=b) (h:H[b]?=some (.row k xs)) (hl:len=xs.length):zDm n0 (.sl (some false) b k 0 len) H=some (.lst (some false) k xs,H.set b (.frz k xs)):=by
 subst hl;simp only [zDm];rw [zWl tO,h];simp [zTb]
def zRk:AF:={ results:=[.tmp 2],body:=zDa,keep:=true }
def zcW (q:Bool) (l:List Fil) (c r:Int) (t:Bs):AV:=if q=true/\t=[] then .lst (some true) 0 [] else .lst (some false) 3 ((zEc l c r t).map zf)
section
variable {C:CSpec} {GT:zG_}
theorem zcX (k:Nat) (H:Heap):EFun C GT zRk [.lst (some true) k []] H (.lst (some true) 0 []) H:=by
 refine zH ?_;refine za rfl<|zD ?_
 exact zcs ⟨rfl,rfl⟩
theorem zfg (k:Nat) (l:List Fil) (hk:k=3\/l=[]) (hl:l.length<=3000) (H:Heap):EFun C GT zRk [.lst (some false) k (l.map zf)] H (.sl (some false) (H.length+1) 3 0 l.length) ((H++[ABlk.row 3 []]).set H.length .dead++[.row 3 (l.map zf)]):=by
 have hv:view (H++[ABlk.row 3 []]) 3 (.lst (some false) k (l.map zf))=some (l.map zf):=by
  rcases hk with rfl|rfl
  ·rfl
  ·simp [view]
 have hlm:(l.map zf).length=l.length:=zoU _;refine zH ?_;refine za rfl<|zC<|zAA (vs':=[]) rfl rfl ?_
 have ha:astep (.append 3 32) [.sl (some false) H.length 3 0 0,.lst (some false) k (l.map zf)] (H++[ABlk.row 3 []])=some (.sl (some false) (H.length+1) 3 0 l.length,(H++[ABlk.row 3 []]).set H.length .dead++[.row 3 (l.map zf)]):=by
  have hrow:(H++[ABlk.row 3 []])[H.length]?=some (.row 3 []):=zB;simp only [astep,hv,hrow,hlm];rw [zoQ ⟨trivial,trivial,by simp,by omega,by omega⟩];simp
 refine zMj ha ?_;exact zcs ⟨rfl,rfl⟩
theorem zfh (hS:∀ lv (l:List Fil) c r H found,l.length<=3000->Srtd l->view H 3 lv=some (l.map zf)->found=(match l[zK1 l c r]? with|some f=>isC c r f|none=>false) ->
   C zk [lv,ze c r,.fn zBZ [] []] H (.tup [zL (zK1 l c r),.bool found]) H)
  (hCn:∀ k H,C zi [.lst (some true) k []] H (.lst (some true) 0 []) H)
  (hCl:∀ k (l:List Fil) H,(k=3\/l=[])->l.length<=3000->C zi [.lst (some false) k (l.map zf)] H (.sl (some false) (H.length+1) 3 0 l.length) ((H++[ABlk.row 3 []]).set H.length .dead++[.row 3 (l.map zf)]))
  (hD:∀ b i (l:List Fil) H,H[b]?=some (.row 3 (l.map zf))->i<l.length->l.length<=3000->C zAG [.sl (some false) b 3 0 l.length,zL i,zL (i+1)] H (.lst (some false) 3 ((l.eraseIdx i).map zf)) (H.set b .dead))
  (hI:∀ b b' i (l:List Fil) (f:Fil) H,H[b]?=some (.row 3 (l.map zf))->H[b']?=some (.row 3 [zf f])->b≠b'->i<=l.length->l.length<=3000->C zW [.sl (some false) b 3 0 l.length,zL i,.sl (some false) b' 3 0 1] H (.lst (some false) 3 ((l.take i++f::l.drop i).map zf)) (H.set b .dead))
  (hI0:∀ b' (f:Fil) H,H[b']?=some (.row 3 [zf f])->C zW [.lst (some true) 0 [],zL 0,.sl (some false) b' 3 0 1] H (.lst (some false) 3 [zf f]) H)
  (q:Bool) (k:Nat) (l:List Fil) (hk:k=3\/l=[]) (hq:q=true->l=[]) (hl:l.length<=3000) (hs:Srtd l) (c r:Int) (t:Bs) (H:Heap):EFun C GT zMm [.lst (some q) k (l.map zf),ze c r,.str t] H (zcW q l c r t) H:=by
 have hlm:(l.map zf).length=l.length:=zoU _;have hv:∀ H,view H 3 (.lst (some q) k (l.map zf))=some (l.map zf):=fun H=>by
  rcases hk with rfl|rfl
  ·rfl
  ·simp [view]
 refine zH ?_;refine zAV (x:=ze c r) rfl ?_;have hb0:(H++[ABlk.box (ze c r).cells])[H.length]?=some (.box (ze c r).cells):=zB;have hO:Old H (H++[ABlk.box (ze c r).cells]):=(Old.refl H).push _;have hbs:=fun found h=>hS (.lst (some q) k (l.map zf)) l c r (H++[ABlk.box (ze c r).cells]) found hl hs (hv _) h;clear hS;cases q with
 |true=>
  obtain rfl:=hq rfl;have hbs:=hbs false rfl;have hcn:=hCn k (H++[ABlk.box (ze c r).cells]);clear hCn hCl hD hI;by_cases ht:t=[]
  ·have hw:zcW true [] c r t=.lst (some true) 0 []:=zoQ ⟨rfl,ht⟩;rw [hw];refine zA (ze c r) zB rfl<|zI hbs<|za rfl<|za rfl<|zBc hcn (fun h=>by cases h)<|zC ?_;refine zC<|zC<|zC<|zt (tE ht) ?_
   exact zAQ rfl rfl rfl rfl hO
  ·have hw:zcW true [] c r t=.lst (some false) 3 [zf ⟨c,r,t⟩]:=by
    unfold zcW;rw [zWl (fun h=>ht h.2)];simp [zEc,ht]
   rw [hw];refine zA (ze c r) hb0 rfl<|zI hbs<|za rfl<|za rfl<|zBc hcn (fun h=>by cases h)<|zC ?_;refine zC<|zC<|zC<|zc (tN ht)<|zA (ze c r) hb0 rfl<|za (v:=[zK c,zK r,.str t]) rfl ?_;refine zAA (vs':=[.agg [zK c,zK r,.str t]]) rfl rfl<|zBc (hI0 _ ⟨c,r,t⟩ _ zB) (fun h=>by cases h) ?_
   exact zAQ rfl rfl rfl rfl (hO.push _)
 |false=>
  have hw:zcW false l c r t=.lst (some false) 3 ((zEc l c r t).map zf):=zWl (fun h=>by cases h.1);rw [hw];have hcl:=hCl k l (H++[ABlk.box (ze c r).cells]) hk hl;clear hCn hCl hI0;obtain ⟨H1,hH1⟩:∃ H1,(H++[ABlk.box (ze c r).cells]++[ABlk.row 3 []]).set (H++[ABlk.box (ze c r).cells]).length .dead++[.row 3 (l.map zf)]=H1:=⟨_,rfl⟩;obtain ⟨b,hb⟩:∃ b,(H++[ABlk.box (ze c r).cells]).length+1=b:=⟨_,rfl⟩;have hbl:b=H.length+2:=by rw [<-hb];simp
  have hH1l:H1.length=H.length+3:=by rw [<-hH1];simp
  have hO1:Old H H1:=by
   rw [<-hH1];exact ((hO.push _).set zS_ _).push _
  have hrow:H1[b]?=some (.row 3 (l.map zf)):=by grind
  have hb1:H1[H.length]?=some (.box (ze c r).cells):=by grind
  rw [hH1,hb] at hcl;clear hH1 hb;rcases zcB hs c r with ⟨f,hf,hr,hc,hfi⟩|⟨hfi,hno⟩
  ·have hbs:=hbs true (by rw [hf];simp [isC,hr,hc]);have hlt:=(zl_ hf);rw [zcC hs c r hf hr hc t];generalize zK1 l c r=i at *;by_cases ht:t=[]
   ·rw [zoQ ht];have hd:=hD b i l H1 hrow hlt hl;clear hD hI;refine zA (ze c r) zB rfl<|zI hbs<|za rfl<|za rfl<|zBc hcl (fun h=>by cases h)<|zD ?_;refine zD<|zt (tE ht)<|zQ (r:=i+1) rfl tO<|zBc hd (fun h=>by cases h) ?_
    exact zAQ rfl rfl rfl rfl (hO1.set (by first|assumption|exact zoR _|omega|(simp only [zoW,zoP,zoN,zoT];omega)|(simp;done)|(simp;omega)) _)
   ·rw [zWl ht];clear hD hI;have hx:(l.map zf)[i]?=some (zf f):=by rw [zoX,hf];rfl
    have hset:(l.map zf).set i (.agg (splice [zK f.col,zK f.row,.str f.text] 2 [.str t]))=(l.set i ⟨c,r,t⟩).map zf:=by rw [List.map_set,<-hr,<-hc];rfl
    refine zA (ze c r) zB rfl<|zI hbs<|za rfl<|za rfl<|zBc hcl (fun h=>by cases h)<|zD ?_;refine zD<|zc (tN ht)<|zD<|sAt ⟨by omega,by omega⟩<|zia i (.str t) [zK f.col,zK f.row,.str f.text] zS_ hrow hx rfl zD_ zD_ rfl ?_
    have hz:zDm H.length (.sl (some false) b 3 0 l.length) (H1.set b (.row 3 ((l.map zf).set i (.agg (splice [zK f.col,zK f.row,.str f.text] (0+2) (AV.str t).cells)))))=some (.lst (some false) 3 ((l.set i ⟨c,r,t⟩).map zf),(H1.set b (.row 3 ((l.map zf).set i (.agg (splice [zK f.col,zK f.row,.str f.text] (0+2) (AV.str t).cells))))).set b (.frz 3 ((l.set i ⟨c,r,t⟩).map zf))):=by
     rw [<-hset];exact zU1 tO (zS hrow) zS_
    exact zIw rfl rfl hz rfl ((hO1.set (by rw [hbl];omega) _).set (by rw [hbl];omega) _)
  ·have hbs:=hbs false (by
    cases hq:l[zK1 l c r]? with
    |none=>rfl
    |some f=>
     have:=hno f hq;simp only [isC];exact (zop this).symm)
   have hile:=ziK l c r;rw [zcD hs c r hno t];generalize zK1 l c r=i at *;by_cases ht:t=[]
   ·rw [zoQ ht];clear hD hI;refine zA (ze c r) zB rfl<|zI hbs<|za rfl<|za rfl<|zBc hcl (fun h=>by cases h)<|zC ?_;refine zC<|zC<|zC<|zt (tE ht) ?_
    exact zIw rfl rfl (zU1 (n0:=H.length) tO hrow zS_) rfl (hO1.set tO _)
   ·rw [zWl ht];have hin:=fun b' H h1 h2 h3=>hI b b' i l ⟨c,r,t⟩ H h1 h2 h3 hile hl;clear hD hI;refine zA (ze c r) zB rfl<|zI hbs<|za rfl<|za rfl<|zBc hcl (fun h=>by cases h)<|zC ?_;refine zC<|zC<|zC<|zc (tN ht)<|zA (ze c r) hb1 rfl<|za (v:=[zK c,zK r,.str t]) rfl ?_;refine zAA (vs':=[.agg [zK c,zK r,.str t]]) rfl rfl<|zBc (hin _ _ (zG hrow) zB tO) (fun h=>by cases h) ?_
    exact zAQ rfl rfl rfl rfl ((hO1.push _).set (by first|assumption|exact zoR _|omega|(simp only [zoW,zoP,zoN,zoT];omega)|(simp;done)|(simp;omega)) _)
end
end Go.AM
