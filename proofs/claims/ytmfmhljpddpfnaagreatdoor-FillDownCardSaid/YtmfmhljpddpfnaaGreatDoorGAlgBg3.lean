/- Texts of mine in one. Own work. -/
import Derived.Test.YtmfmhljpddpfnaaGreatDoorGRq5Alq
import Derived.Test.YtmfmhljpddpfnaaGreatDoorGAm23Am35
import Derived.Test.YtmfmhljpddpfnaaGreatDoorGOn1Rq4
import Derived.Test.YtmfmhljpddpfnaaGreatDoorLc
import Derived.Test.YtmfmhljpddpfnaaGreatDoorGAm31Rf1
import Derived.Test.YtmfmhljpddpfnaaGreatDoorGBe0Itd
import Derived.Test.YtmfmhljpddpfnaaGreatDoorGRf5Rf3
set_option maxHeartbeats 4000000
set_option maxRecDepth 20000
set_option linter.all false
namespace Go.AM
section
variable {C:CSpec} {GT:zG_}
end
section
variable {C:CSpec} {GT:zG_}
def RRef (C:CSpec) (cv:AV) (g:RefP->Option RefP):Prop:=∀ r,okR r->∃ r',(∀ H,C zFZ [cv,rV r] H (.tup [rV r',.bool (g r).isSome]) H)/\∀ x,g r=some x->r'=x
def RBox (C:CSpec) (cv:AV) (g:RefP->RefP->Option (RefP×RefP)):Prop:=∀ a b,okR a->okR b->∃ a' b',(∀ H,C zFa [cv,rV a,rV b] H (.tup [rV a',rV b',.bool (g a b).isSome]) H)/\∀ x,g a b=some x->(a',b')=x
def ccV (k:Int) (row:Bool) (at_ many cols rows:Int) (b:Bx):AV:=.agg [.int .i64 k,.bool row,.int .i64 at_,.int .i64 many,.int .i64 cols,.int .i64 rows,.int .i64 b.c0,.int .i64 b.r0,.int .i64 b.c1,.int .i64 b.r1]
variable {k0:Int} {row:Bool} {at_ many cols rows:Int} {bx:Bx}
theorem zfR (c:Chg) (hR:RRef C (ccV k0 row at_ many cols rows bx) c.ref) (r:RefP) (h:okR r) (H:Heap):EFun C GT zCb [(ccV k0 row at_ many cols rows bx),ndV (zB3 r)] H (ndV (onN c (zB3 r))) H:=by
  obtain ⟨r',hr,hx⟩:=hR r h;clear hR;rw [zbf];refine zH<|sX ?_
  cases e:c.ref r with
  | none=>
    rw [e] at hr;clear hx;refine sX ?_;refine sSA (rV r') ?_;refine sX ?_;refine sSA (.agg zV0) ?_;exact zAU (o:=0) rfl rfl (zJ hP) rfl rfl rfl hO
  | some x=>
    rw [e] at hr;obtain rfl:=hx x e;clear hx;refine sX ?_;refine sSA (rV r') ?_;refine sX ?_;refine sSA (.agg [.int .i64 5,.int .i64 0,.str [],.int .i64 r'.col,.int .i64 r'.row,.bool r'.fc,.bool r'.fr,.int .i64 0,.int .i64 0,.bool false,.bool false,.lst (some true) 0 []]) ?_;exact zAU (o:=0) rfl rfl (zJ hP) rfl rfl rfl hO
theorem zfS (c:Chg) (hR:RBox C (ccV k0 row at_ many cols rows bx) c.box) (r o:RefP) (h:okR r) (h2:okR o) (H:Heap):EFun C GT zCb [(ccV k0 row at_ many cols rows bx),ndV (zAy r o)] H (ndV (onN c (zAy r o))) H:=by
  obtain ⟨r',o',hr,hx⟩:=hR r o h h2;clear hR;rw [zbg];refine zH<|sX ?_
  cases e:c.box r o with
  | none=>
    rw [e] at hr;clear hx;refine sX ?_;refine sSA (rV r') ?_;refine sSA (rV o') ?_;refine sX ?_;refine sSA (.agg zV0) ?_;exact zAU (o:=0) rfl rfl (zJ hP) rfl rfl rfl hO
  | some x=>
    rw [e] at hr;have hx:=hx x e;subst hx;refine sX ?_;refine sSA (rV r') ?_;refine sSA (rV o') ?_;refine sX ?_;refine sSA (.agg [.int .i64 6,.int .i64 0,.str [],.int .i64 r'.col,.int .i64 r'.row,.bool r'.fc,.bool r'.fr,.int .i64 o'.col,.int .i64 o'.row,.bool o'.fc,.bool o'.fr,.lst (some true) 0 []]) ?_;exact zAU (o:=0) rfl rfl (zJ hP) rfl rfl rfl hO
theorem zfT (k num:Int) (t:Bs) (r o:RefP) (h5:(k==5)=false) (h6:(k==6)=false) (H:Heap):EFun C GT zCb [(ccV k0 row at_ many cols rows bx),ndV (.mk k num t r o [])] H (ndV (.mk k num t r o [])) H:=by
  refine zH ?_;refine sX ?_;refine zAr (fun _:Unit=>_) (fun _ H'=>H'=_) (fun _=>0) () rfl rfl (fun _ H1 hi=>?_);subst hi;dsimp only;refine sX ?_;refine zAk 0 (z7 (.mk k num t r o [])) rfl ?_;refine sX ?_;refine sS (.lst (some true) 0 []) [.int .i64 (Nd.mk k num t r o []).kind,.int .i64 (Nd.mk k num t r o []).num,.str (Nd.mk k num t r o []).text,.int .i64 (Nd.mk k num t r o []).ref.col,.int .i64 (Nd.mk k num t r o []).ref.row,.bool (Nd.mk k num t r o []).ref.fc,.bool (Nd.mk k num t r o []).ref.fr,.int .i64 (Nd.mk k num t r o []).to.col,.int .i64 (Nd.mk k num t r o []).to.row,.bool (Nd.mk k num t r o []).to.fc,.bool (Nd.mk k num t r o []).to.fr,.lst (some true) 0 []] ?_;refine sX ?_;refine sSA (.agg [.int .i64 (Nd.mk k num t r o []).kind,.int .i64 (Nd.mk k num t r o []).num,.str (Nd.mk k num t r o []).text,.int .i64 (Nd.mk k num t r o []).ref.col,.int .i64 (Nd.mk k num t r o []).ref.row,.bool (Nd.mk k num t r o []).ref.fc,.bool (Nd.mk k num t r o []).ref.fr,.int .i64 (Nd.mk k num t r o []).to.col,.int .i64 (Nd.mk k num t r o []).to.row,.bool (Nd.mk k num t r o []).to.fc,.bool (Nd.mk k num t r o []).to.fr,.lst (some true) 0 []]) ?_;exact zAU (o:=0) rfl rfl (zJ hP) rfl rfl rfl hO
theorem zcH {n0 nb m:Nat} {k num:Int} {t:Bs} {r o:RefP} {xs:List AV} {H:Heap} (h:H[nb]?=some (.row 12 xs)) (hn:n0<=nb) (hm:xs.length=m) (hne:xs≠[]) :
    zDm n0 (.agg (zKv k num t r o (.sl (some true) nb 12 0 m))) H=some (.agg (zKv k num t r o (.lst (some false) 12 xs)),H.set nb (.frz 12 xs)):=by
  subst hm;have:¬ nb<n0:=by omega
  simp only [zKv,zDm,zKR,this,zot,h];cases xs with
  |nil=>exact absurd rfl hne
  |cons x xs=>simp [zTb]
theorem zfU (c:Chg) (k num:Int) (t:Bs) (r o:RefP) (ks:List Nd) (hne:ks≠[]) (hkl:ks.length<=1000000) (h5:(k==5)=false) (h6:(k==6)=false)
    (hS:∀ n∈ks,∀ H,C zBy [(ccV k0 row at_ many cols rows bx),ndV n] H (ndV (onN c n)) H) (H:Heap):EFun C GT zCb [(ccV k0 row at_ many cols rows bx),ndV (.mk k num t r o ks)] H (ndV (.mk k num t r o (ks.map (onN c)))) H:=by
  have hxv:zCS (zGZ (.mk k num t r o ks)) 12 (ks.map ndV):=z7 (.mk k num t r o ks);have hlm:(ks.map ndV).length=ks.length:=zoU _;have ev:ndV (.mk k num t r o (ks.map (onN c)))=.agg (zKv k num t r o (.lst (some false) 12 (ks.map fun k=>ndV (onN c k)))):=by
    have e:kxs (.mk k num t r o (ks.map (onN c)))=ks.map fun k=>ndV (onN c k):=by
      show zdQ (ks.map (onN c))=_;rw [zJi,zm7];rfl
    cases ks with
    |nil=>exact absurd rfl hne
    | cons a ks=>
      rw [<-e];rfl
  rw [ev];clear ev;refine zH ?_;refine zAV (x:=(ccV k0 row at_ many cols rows bx)) rfl ?_;refine zAV (x:=ndV (.mk k num t r o ks)) rfl ?_;refine sW ?_;have hO0:Old H (((H++[ABlk.box (ccV k0 row at_ many cols rows bx).cells])++[ABlk.box (ndV (.mk k num t r o ks)).cells])++[ABlk.box (ndV zU).cells]):=(((Old.refl H).push _).push _).push _;have g2:(((H++[ABlk.box (ccV k0 row at_ many cols rows bx).cells])++[ABlk.box (ndV (.mk k num t r o ks)).cells])++[ABlk.box (ndV zU).cells])[H.length]?=some (.box (ccV k0 row at_ many cols rows bx).cells):=zG hP;have g3:(((H++[ABlk.box (ccV k0 row at_ many cols rows bx).cells])++[ABlk.box (ndV (.mk k num t r o ks)).cells])++[ABlk.box (ndV zU).cells])[(H++[ABlk.box (ccV k0 row at_ many cols rows bx).cells]).length]?=some (.box (ndV (.mk k num t r o ks)).cells):=zG zB;have g4:(((H++[ABlk.box (ccV k0 row at_ many cols rows bx).cells])++[ABlk.box (ndV (.mk k num t r o ks)).cells])++[ABlk.box (ndV zU).cells])[((H++[ABlk.box (ccV k0 row at_ many cols rows bx).cells])++[ABlk.box (ndV (.mk k num t r o ks)).cells]).length]?=some (.box (ndV zU).cells):=zB;have hle:H.length<=(H++[ABlk.box (ccV k0 row at_ many cols rows bx).cells]).length/\H.length<=((H++[ABlk.box (ccV k0 row at_ many cols rows bx).cells])++[ABlk.box (ndV (.mk k num t r o ks)).cells]).length/\(H++[ABlk.box (ccV k0 row at_ many cols rows bx).cells]).length≠((H++[ABlk.box (ccV k0 row at_ many cols rows bx).cells])++[ABlk.box (ndV (.mk k num t r o ks)).cells]).length:=by simp
  have hT:∀ (b2 b3 b4:Nat) (H0:Heap) {K:Post},Old H H0->H0[b2]?=some (.box (ccV k0 row at_ many cols rows bx).cells)->H0[b3]?=some (.box (ndV (.mk k num t r o ks)).cells)->H0[b4]?=some (.box (ndV zU).cells) ->
      (∀ d fr' H',zT fr' [4,3,10]=[(4,.ref b4 0 0 0),(3,.ref b3 0 0 0),(10,.sl (some true) d 12 0 ks.length)]->Old H0 H'->H0.length<=d->H'[d]?=some (.row 12 (ks.map fun k=>ndV (onN c k)))->K (.exit 1) fr' H') ->
      loopP C GT [11,10,3,2,4] zMD K [(11,.int .i64 0),(10,.lst (some true) 0 []),(3,.ref b3 0 0 0),(2,.ref b2 0 0 0),(4,.ref b4 0 0 0)] H0:=by
    intro b2 b3 b4 H0 K hOH g2 g3 g4 hK;clear hle hO0;refine zAr (fun s:Nat×AV=>[(11,zL s.1),(10,s.2),(3,.ref b3 0 0 0),(2,.ref b2 0 0 0),(4,.ref b4 0 0 0)]) (fun s H'=>s.1<=ks.length/\Owns H0 H' s.2 12 ((ks.take s.1).map fun k=>ndV (onN c k))/\Old H0 H') (fun s=>ks.length-s.1) (0,.lst (some true) 0 []) rfl ⟨by omega,Owns.nil _ _ _,Old.refl _⟩ (fun s H2 hi=>?_);obtain ⟨i,v⟩:=s;obtain ⟨hi,ho,hO⟩:=hi;simp only at hi ho;have l2:=(zl_ g2);have l3:=(zl_ g3);have k2:H2[b2]?=some (.box (ccV k0 row at_ many cols rows bx).cells):=by rw [hO.2 _ l2];exact g2
    have k3:H2[b3]?=some (.box (ndV (.mk k num t r o ks)).cells):=by rw [hO.2 _ l3];exact g3
    by_cases hlt:i<ks.length
    · obtain ⟨n,hn⟩:∃ n,ks[i]?=some n:=⟨_,zoO hlt⟩
      have hkm:(ks.map ndV)[i]?=some (ndV n):=by rw [zoX,hn];rfl
      have hs:=hS n (zoc hn);have ht:(ks.take (i+1)).map (fun k=>ndV (onN c k))=(ks.take i).map (fun k=>ndV (onN c k))++[ndV (onN c n)]:=by rw [zm9,hn];simp
      have hl0:=hO.1;clear hS hK;refine zA (zGZ (.mk k num t r o ks)) k3 rfl<|zAk ks.length hxv hlm<|zt tT<|zA (ccV k0 row at_ many cols rows bx) k2 rfl<|zA (zGZ (.mk k num t r o ks)) k3 rfl<|zBg i (ndV n) hxv rfl hkm<|z8 (ndV n) rfl ?_
      refine zG2 ?_ ?_
      · refine zI (hs _) ?_
        refine zM (v:=ndV (onN c n)) (AV.cells (ndV (onN c n))) hP rfl rfl rfl rfl ?_;refine zA (ndV (onN c n)) hP rfl ?_;refine zAA (vs':=[ndV (onN c n)]) rfl rfl ?_;refine zA0 (H0:=H0) ((ho.pushSet _ _).push _) (((hO.push _).set hl0 _).push _) zAR tO (by simp;omega) zS_ fun v4 H4 ho4 hO4 hbk4 hf4=>?_;refine zQ (r:=i+1) rfl tO ?_;exact zAJ (i+1,v4) rfl ⟨by simp only;omega,by rw [ht];exact ho4,hO4⟩ (by simp only;omega)
      · refine zI (hs _) ?_
        refine zM (v:=ndV (onN c n)) (AV.cells (ndV (onN c n))) hP rfl rfl rfl rfl ?_;refine zA (ndV (onN c n)) hP rfl ?_;refine zAA (vs':=[ndV (onN c n)]) rfl rfl ?_;refine zA0 (H0:=H0) ((ho.pushSet _ _).push _) (((hO.push _).set hl0 _).push _) zAR tO (by simp;omega) zS_ fun v4 H4 ho4 hO4 hbk4 hf4=>?_;refine zQ (r:=i+1) rfl tO ?_;exact zAJ (i+1,v4) rfl ⟨by simp only;omega,by rw [ht];exact ho4,hO4⟩ (by simp only;omega)
    · obtain rfl:i=ks.length:=by omega
      rw [zmg] at ho;rcases ho with ⟨_,e⟩|⟨d,rfl,d1,d2,_⟩
      · exact absurd (znM.1 e) hne
      have hkk:=fun fr' hf=>hK d fr' H2 hf hO d1 d2;clear hK hS;rw [zoU];refine zA (zGZ (.mk k num t r o ks)) k3 rfl<|zAk ks.length hxv hlm<|zc tF ?_
      exact hkk _ rfl
  clear hS;refine hT _ _ _ _ hO0 g2 g3 g4 (fun d fr' H' hfr hO hd hrow=>sBlk hfr ?_);have l3:=(zl_ g3);have l4:=(zl_ g4);have k3:=(hO.2 _ l3).trans g3;have k4:=(hO.2 _ l4).trans g4;have hl0:=hO.1;clear hT hO0;have hn0:H.length<=(((H++[ABlk.box (ccV k0 row at_ many cols rows bx).cells])++[ABlk.box (ndV (.mk k num t r o ks)).cells])++[ABlk.box (ndV zU).cells]).length:=by simp
  have hOH:Old H H':=Old.trans ((((Old.refl H).push _).push _).push _) hO;have q1:(H++[ABlk.box (ccV k0 row at_ many cols rows bx).cells]).length=H.length+1:=by simp
  have q2:((H++[ABlk.box (ccV k0 row at_ many cols rows bx).cells])++[ABlk.box (ndV (.mk k num t r o ks)).cells]).length=H.length+2:=by simp
  have q3:(((H++[ABlk.box (ccV k0 row at_ many cols rows bx).cells])++[ABlk.box (ndV (.mk k num t r o ks)).cells])++[ABlk.box (ndV zU).cells]).length=H.length+3:=by simp
  have hd:(((H++[ABlk.box (ccV k0 row at_ many cols rows bx).cells])++[ABlk.box (ndV (.mk k num t r o ks)).cells])++[ABlk.box (ndV zU).cells]).length<=d:=hd;obtain ⟨le3,le4,n34⟩:=hle;refine zM (zKv k num t r o (.sl (some true) d 12 0 ks.length)) k3 rfl rfl rfl rfl<|zA (.agg (zKv k num t r o (.sl (some true) d 12 0 ks.length))) (zS k3) rfl<|zM (zKv k num t r o (.sl (some true) d 12 0 ks.length)) (zE n34 k4) rfl rfl rfl rfl ?_
  exact zTK (o:=0) rfl rfl (zJ (zS (zE n34 k4))) rfl (zcH (m:=ks.length) (zE tO (zE tO hrow)) tO (zoU _) (by simpa using hne)) rfl (((hOH.set tO _).set tO _).set tO _)
end
section
variable {C:CSpec} {GT:zG_}
def zNc:AF:={ zB1 with keep:=true }
theorem zYK (H:Heap):EFun C GT zNc [.lst (some true) 0 []] H (.lst (some true) 0 []) H:=by
  refine zH ?_;refine za rfl<|zD ?_
  exact zcs ⟨rfl,rfl⟩
theorem zcI (k':Nat) (ks:List Nd) (H:Heap) (hx:k'=12\/ks=[]) (hl:ks.length<=1000000):EFun C GT zNc [.lst (some false) k' (ks.map ndV)] H (.sl (some false) (H.length+1) 12 0 ks.length) ((H++[ABlk.row 12 []]).set H.length .dead++[.row 12 (ks.map ndV)]):=by
  have hv:view (H++[ABlk.row 12 []]) 12 (.lst (some false) k' (ks.map ndV))=some (ks.map ndV):=zCS.view ⟨_,k',rfl,hx.imp id (fun h=>by rw [h];rfl)⟩ _;have hlm:(ks.map ndV).length=ks.length:=zoU _;refine zH ?_;refine za rfl<|zC<|zAA (vs':=[]) rfl rfl ?_
  have ha:astep (.append 12 104) [.sl (some false) H.length 12 0 0,.lst (some false) k' (ks.map ndV)] (H++[ABlk.row 12 []])=some (.sl (some false) (H.length+1) 12 0 ks.length,(H++[ABlk.row 12 []]).set H.length .dead++[.row 12 (ks.map ndV)]):=by
    have hrow:(H++[ABlk.row 12 []])[H.length]?=some (.row 12 []):=zB;simp only [astep,hv,hrow,hlm];rw [zoQ ⟨trivial,trivial,by simp,by omega,by omega⟩];simp
  refine zMj ha ?_;exact zcs ⟨rfl,rfl⟩
theorem zcJ (n:Nd) (hl:(txt n).length<=199) (hP:∀ H,C zDX [ndV n] H (.tup [.str (zDT n),eV (zB9 n)]) H) (H:Heap):EFun C GT zI9 [ndV n] H .nili H:=by
  have e4:zB9 n=0:=by unfold zB9;rw [zoQ hl]
  rw [e4] at hP;refine zH ?_;refine zAV (x:=ndV n) rfl ?_;refine zA (ndV n) zB rfl ?_;refine zI (hP _) ?_;refine za rfl ?_;refine za rfl ?_;exact zAQ rfl rfl rfl rfl ((Old.refl _).push _)
end
section
variable {C:CSpec} {GT:zG_} {c:Chg}
theorem zcK {P:Nd->Prop} (hr:∀ r,okR r->P (zB3 r)) (hb:∀ r o,okR r->okR o->P (zAy r o)) (hl:∀ (k num:Int) t r o,(k==5)=false->(k==6)=false->P (.mk k num t r o []))
    (hn:∀ (k num:Int) t r o ks,ks≠[]->ks.length<=1000000->(k==5)=false->(k==6)=false->(∀ n∈ks,P n)->P (.mk k num t r o ks)) {x:Bool} {n:Nd} (h:Wf x n):(txt n).length<=1000->P n:=by
  induction h with
  |num _ m h=>exact fun _=>hl 1 m [] noRef noRef rfl rfl
  |txt _ t=>exact fun _=>hl 2 0 t noRef noRef rfl rfl
  |tru _ b=>exact fun _=>hl 3 _ [] noRef noRef rfl rfl
  |bad _ k h=>exact fun _=>hl 4 k [] noRef noRef rfl rfl
  |ref _ r h=>exact fun _=>hr r h
  |box r o h k=>exact fun _=>hb r o h k
  | neg _ n h ih=>
    intro hl;rw [zEz] at hl;simp only [zoN,zBj] at hl;refine hn 7 0 [] noRef noRef [n] zS_ zS_ rfl rfl fun k hk=>?_;rw [zl5.1 hk];exact ih tO
  | two _ op a b h ha hb iha ihb=>
    intro hl;rw [zEX] at hl;simp only [zoP,zBj] at hl;refine hn 8 op [] noRef noRef [a,b] zS_ zS_ rfl rfl fun k hk=>?_;rcases zmG.1 hk with rfl|hk
    · exact iha tO
    · grind
  | call _ t ks h hk ih=>
    intro hl';rw [zCz] at hl';simp only [zoP,zoN] at hl';have hj:=zF0 (ks.map txt);cases ks with
    |nil=>exact hl 9 0 t noRef noRef rfl rfl
    | cons k0 ks=>
      refine hn 9 0 t noRef noRef (k0::ks) zS_ (by have:=hj.1;rw [zoU] at this;omega) rfl rfl fun k hk'=>?_;exact ih k hk' (by have:=hj.2 (txt k) (zmh hk');omega)
theorem zWR (c:Chg) {k num:Int} {t:Bs} {r o:RefP} {ks:List Nd} (h5:(k==5)=false) (h6:(k==6)=false):onN c (.mk k num t r o ks)=.mk k num t r o (ks.map (onN c)):=by
  rw [onN,zWl (by simpa using h5),zWl (by simpa using h6),zRe]
theorem zks (fr fb:Nat) (cr cb:List AV) (l:List (Nat×ABlk)) (hR:zgK C fr cr l c.ref) (hB:BoxQ C fb cb l c.box) (hK:CnH C) (hCk:CkH C)
    (hmk:∀ n,(∀ H,Holds l H->EFun C GT zBq [cgV fr fb cr cb,ndV n] H (ndV (onN c n)) H)->∀ H,Holds l H->C zAl [cgV fr fb cr cb,ndV n] H (ndV (onN c n)) H)
    {x:Bool} {n:Nd} (h:Wf x n) (hl:(txt n).length<=1000):∀ H,Holds l H->C zAl [cgV fr fb cr cb,ndV n] H (ndV (onN c n)) H:=by
  refine zcK (P:=fun n=>∀ H,Holds l H->C zAl [cgV fr fb cr cb,ndV n] H (ndV (onN c n)) H) (fun r hr=>hmk _ fun H hh=>ziD fr fb cr cb l c hR hK r hr H hh) (fun r o hr ho=>hmk _ fun H hh=>ziE fr fb cr cb l c hB hK r o hr ho H hh) (fun k num t r o h5 h6=>hmk _ fun H _=>?_) (fun k num t r o ks hne hkl h5 h6 hS=>hmk _ fun H hh=>?_) h hl
  · rw [zWR c h5 h6]
    exact ziF fr fb cr cb hK k num t r o h5 h6 H
  · rw [zWR c h5 h6]
    exact ziI fr fb cr cb l c hCk k num t r o ks hne hkl h5 h6 hS H hh
variable {k0:Int} {row:Bool} {at_ many cols rows:Int} {bx:Bx}
theorem ziL (hR:RRef C (ccV k0 row at_ many cols rows bx) c.ref) (hB:RBox C (ccV k0 row at_ many cols rows bx) c.box)
    (hmk:∀ n,(∀ H,EFun C GT zCb [ccV k0 row at_ many cols rows bx,ndV n] H (ndV (onN c n)) H)->∀ H,C zBy [ccV k0 row at_ many cols rows bx,ndV n] H (ndV (onN c n)) H)
    {x:Bool} {n:Nd} (h:Wf x n) (hl:(txt n).length<=1000):∀ H,C zBy [ccV k0 row at_ many cols rows bx,ndV n] H (ndV (onN c n)) H:=by
  refine zcK (P:=fun n=>∀ H,C zBy [ccV k0 row at_ many cols rows bx,ndV n] H (ndV (onN c n)) H) (fun r hr=>hmk _ fun H=>zfR c hR r hr H) (fun r o hr ho=>hmk _ fun H=>zfS c hB r o hr ho H) (fun k num t r o h5 h6=>hmk _ fun H=>?_) (fun k num t r o ks hne hkl h5 h6 hS=>hmk _ fun H=>?_) h hl
  · rw [zWR c h5 h6]
    exact zfT k num t r o h5 h6 H
  · rw [zWR c h5 h6]
    exact zfU c k num t r o ks hne hkl h5 h6 hS H
end
section
variable {C:CSpec} {GT:zG_}
variable (cf:Fil->Nat×Bool×Fil) (rw_:Bs->Nat×Bs)
variable {cf:Fil->Nat×Bool×Fil} {rw_:Bs->Nat×Bs}
variable {C:CSpec} {GT:zG_}
def zNd (c:Chg) (t:Bs):Nat×Bs:=match zAj t with
  |none=>(0,t)
  |some n=>if eqN n (onN c n) then (0,t) else (zB9 (onN c n),zDT (onN c n))
theorem zMY {t:Bs} (h:t.head?≠some 61):zAj t=none:=by
  unfold zAj;rw [zWl fun x=>h x.2]
theorem zTN {c:Chg} {t:Bs} (h:zAj t=none):zNd c t=(0,t):=by unfold zNd;rw [h]
theorem zTO {c:Chg} {t:Bs} {n:Nd} (h:zAj t=some n):zNd c t=if eqN n (onN c n) then (0,t) else (zB9 (onN c n),zDT (onN c n)):=by unfold zNd;rw [h]
theorem ziM (hCo:∀ s H,C zBC [.str s] H (.bool (decide (s.head?≠some 61))) H) (hP:∀ s H,C zAM [.str s] H (zFE s) H)
    (f:Nat) (cr:List AV) (l:List (Nat×ABlk)) (c:Chg) (t:Bs) (ht:zBV t=0) (hN:∀ n,zAj t=some n->∀ H,Holds l H->C f (ndV n::cr) H (.tup [ndV (onN c n),.nili]) H)
    (hS:∀ n,zAj t=some n->∀ H,C zAh [ndV n,ndV (onN c n)] H (.bool (eqN n (onN c n))) H) (hPr:∀ n,zAj t=some n->∀ H,C zDX [ndV (onN c n)] H (.tup [.str (zDT (onN c n)),eV (zB9 (onN c n))]) H) (H:Heap) (hh:Holds l H) :
    EFun C GT zEJ [.str t,.fn f [] cr] H (.tup [.str (zNd c t).2,eV (zNd c t).1]) H:=by
  have hc:=hCo t;have hp:=hP t;clear hCo hP;by_cases h:t.head?=some 61
  · rw [tF (fun x=>x h)] at hc
    unfold zFE at hp;cases hq:zAj t with
    | none=>
      unfold zBV at ht;by_cases h2:200<t.length
      · rw [zoQ h2] at ht;cases ht
      · grind
    | some n=>
      rw [hq] at hp;have hp:∀ H,C zAM [.str t] H (.tup [ndV n,.int .i64 0,.nili]) H:=hp;have hs:=hS n hq;have hn:=hN n hq;have hpr:=hPr n hq;clear hS hN hPr;rw [zTO hq];cases he:eqN n (onN c n) with
      | true=>
        rw [he] at hs;refine zH<|sX ?_
        refine sSA (ndV n) ?_;refine za rfl<|zC<|zA (ndV n) hP rfl<|zI (hn _ (hh.old hO))<|za rfl<|za rfl<|sSA (ndV (onN c n)) ?_
        refine sX ?_;exact sRv
      | false=>
        rw [he] at hs;by_cases hl:(txt (onN c n)).length<=199
        · have e4:zB9 (onN c n)=0:=by unfold zB9;rw [zoQ hl]
          rw [e4] at hpr;show EFun C GT zEJ [.str t,.fn f [] cr] H (.tup [.str (zDT (onN c n)),eV (zB9 (onN c n))]) H;rw [e4];refine zH<|sX ?_
          refine sSA (ndV n) ?_;refine za rfl<|zC<|zA (ndV n) hP rfl<|zI (hn _ (hh.old hO))<|za rfl<|za rfl<|sSA (ndV (onN c n)) ?_
          refine sX ?_;exact sRv
        · have e4:zB9 (onN c n)=4:=by unfold zB9;rw [zWl hl]
          have et:zDT (onN c n)=[]:=by unfold zDT;rw [zWl hl]
          rw [e4,et] at hpr;show EFun C GT zEJ [.str t,.fn f [] cr] H (.tup [.str (zDT (onN c n)),eV (zB9 (onN c n))]) H;rw [e4,et];refine zH<|sX ?_
          refine sSA (ndV n) ?_;refine za rfl<|zC<|zA (ndV n) hP rfl<|zI (hn _ (hh.old hO))<|za rfl<|za rfl<|sSA (ndV (onN c n)) ?_
          refine sX ?_;exact sRv
  · rw [zoj h] at hc
    rw [zTN (zMY h)];refine zH<|sX ?_
    exact sRv
end
def zTP (H0 H:Heap) (v:AV) (k:Nat) (xs:List AV):Prop:=
  (v=.lst (some true) 0 []/\xs=[])\/∃ b,v=.sl (some true) b k 0 xs.length/\H0.length<=b/\H[b]?=some (.row k xs)
theorem zTP.nil (H0 H:Heap) (k:Nat):zTP H0 H (.lst (some true) 0 []) k []:=.inl ⟨rfl,rfl⟩
theorem zTP.keep {H0 H H':Heap} {v:AV} {k:Nat} {xs:List AV} (h:zTP H0 H v k xs) (hk:∀ b x,v.blk=some b->H[b]?=some x->H'[b]?=some x):zTP H0 H' v k xs:=by
  rcases h with h|⟨b,rfl,h1,h2⟩
  · exact .inl h
  · exact .inr ⟨b,rfl,h1,hk b _ rfl h2⟩
theorem zTP.push {H0 H:Heap} {v:AV} {k:Nat} {xs:List AV} (h:zTP H0 H v k xs) (x:ABlk):zTP H0 (H++[x]) v k xs:=h.keep fun _ _ _ hx=>zG hx
section
variable {C:CSpec} {GT:zG_}
end
section
variable {C:CSpec} {GT:zG_}
variable {k0:Int} {row:Bool} {at_ many cols rows:Int} {bx:Bx}
theorem ziN (c:Chg) (t:Bs) (ht:zBV t=0) (hP:∀ n,zAj t=some n->∀ H,C zBx [.str t] H (.tup [ndV n,zK 0,zK 0]) H)
    (hN:∀ n,zAj t=some n->∀ H,C zBy [(ccV k0 row at_ many cols rows bx),ndV n] H (ndV (onN c n)) H)
    (hS:∀ n,zAj t=some n->∀ H,C zDA [ndV n,ndV (onN c n)] H (.bool (eqN n (onN c n))) H) (hPr:∀ n,zAj t=some n->∀ H,C zEh [ndV (onN c n)] H (.tup [.str (zDT (onN c n)),zL (zB9 (onN c n))]) H) (H:Heap) :
    EFun C GT zEQ [.str t,(ccV k0 row at_ many cols rows bx)] H (.tup [.str (zNd c t).2,zL (zNd c t).1]) H:=by
  by_cases h:t.head?=some 61
  · cases hq:zAj t with
    | none=>
      unfold zBV at ht;by_cases h2:200<t.length
      · rw [zoQ h2] at ht;cases ht
      · grind
    | some n=>
      have hp:=hP n hq;have hs:=hS n hq;have hn:=hN n hq;have hpr:=hPr n hq;have h0:t[0]?=some 61:=by rw [<-List.head?_eq_getElem?];exact h
      have hne:(t==([]:Bs))=false:=tN (fun e=>by rw [e] at h;cases h);clear hP hS hN hPr;rw [zTO hq];cases he:eqN n (onN c n) with
      | true=>
        rw [he] at hs;refine zH<|zAV (x:=(ccV k0 row at_ many cols rows bx)) rfl<|zc hne<|zCF (i:=0) rfl h0<|sX ?_
        refine sSA (ndV n) ?_;refine sX ?_;refine sSA (ndV (onN c n)) ?_;refine sX ?_;exact sRv
      | false=>
        rw [he] at hs;show EFun C GT zEQ [.str t,(ccV k0 row at_ many cols rows bx)] H (.tup [.str (zDT (onN c n)),zL (zB9 (onN c n))]) H;by_cases hl:(txt (onN c n)).length<=199
        · have e4:zB9 (onN c n)=0:=by unfold zB9;rw [zoQ hl]
          rw [e4] at hpr ⊢;refine zH<|zAV (x:=(ccV k0 row at_ many cols rows bx)) rfl<|zc hne<|zCF (i:=0) rfl h0<|sX ?_
          refine sSA (ndV n) ?_;refine sX ?_;refine sSA (ndV (onN c n)) ?_;refine sX ?_;exact sRv
        · have e4:zB9 (onN c n)=4:=by unfold zB9;rw [zWl hl]
          have et:zDT (onN c n)=[]:=by unfold zDT;rw [zWl hl]
          rw [e4,et] at hpr ⊢;refine zH<|zAV (x:=(ccV k0 row at_ many cols rows bx)) rfl<|zc hne<|zCF (i:=0) rfl h0<|sX ?_
          refine sSA (ndV n) ?_;refine sX ?_;refine sSA (ndV (onN c n)) ?_;refine sX ?_;exact sRv
  · rw [zTN (zMY h)]
    refine zH<|sX ?_
    cases t with
    | nil => refine zD ?_
             refine sX ?_;exact sRv
    | cons a r=>
      have e1:((a.toNat:Int) != 61)=true:=zo0.2 (fun e=>h (by
        have:a=61:=by rw [<-UInt8.toNat_inj];show a.toNat=61;omega
        rw [this];rfl))
      refine sX ?_;refine zCF (i:=0) rfl rfl<|sX ?_
      exact sRv
abbrev RwH (C:CSpec) (cv:AV) (c:Chg) (t:Bs):Prop:=∀ H,C zBv [.str t,cv] H (.tup [.str (zNd c t).2,zL (zNd c t).1]) H
end
theorem zcL {ws:List Nat} {i:Nat} (h:i<ws.length):wval (ws.drop i)=ws[i]+4294967296*wval (ws.drop (i+1)):=by
  rw [<-List.getElem_cons_drop h,wval]
theorem or32' (a b:Nat) (ha:a<4294967296) (hb:b<4294967296):zIS .or .u64 ((b*4294967296:Nat):Int) (a:Int)=some (.int .u64 ((b*4294967296+a:Nat):Int)):=by
  have h:=or32 a b ha hb;simp only [zIS] at h ⊢;have e:(BitVec.ofInt IntKind.u64.bits ((b*4294967296:Nat):Int) ||| BitVec.ofInt IntKind.u64.bits (a:Int))=(BitVec.ofInt IntKind.u64.bits (a:Int) ||| BitVec.ofInt IntKind.u64.bits ((b*4294967296:Nat):Int)):=BitVec.or_comm _ _;rw [e,h]
  congr 2
  omega
theorem ziO (qs:List Nat) (i q:Nat):((List.replicate (i+1) 0++qs).map zBU).set i (zBU q)=(List.replicate i 0++q::qs).map zBU:=by
  rw [<-List.map_set]
  congr 1
  rw [List.replicate_succ',zou,zmq _ _ zS_];simp
theorem zfV (qs:List Nat) (i:Nat):((List.replicate (i+1) 0++qs).map zBU)[i]?=some (zBU 0):=by grind
def zTQ (n:Nat) (f:Nat->UInt8):List AV:=zVV n fun k=>zq (f k)
theorem zWS {n i:Nat} {f:Nat->UInt8} {v:UInt8}:(zTQ n f).set i (zq v)=zTQ n (upd f i v):=by
  unfold zTQ;rw [zVY];congr 1;funext j;unfold upd;split <;> rfl
theorem zNe {n i:Nat} {f:Nat->UInt8} (h:i<n):(zTQ n f)[i]?=some (zq (f i)):=zVX h
theorem zcM (xs:List UInt8):xs.map zq=zTQ xs.length fun k=>xs.getD k 0:=by
  apply zm8;intro i;by_cases h:i<xs.length
  · rw [zNe h,zoX,zoO h,zmd,zoO h];rfl
  · rw [zmA (by simp;omega),zmA (by unfold zTQ;rw [zVW];omega)]
def turn (n i:Nat) (f:Nat->UInt8):Nat->UInt8:=fun k=>if k<i\/n-i<=k then f (n-1-k) else f k
theorem zcN (n:Nat) (f:Nat->UInt8):zTQ n (turn n 0 f)=zTQ n f:=by
  unfold zTQ;refine zJf fun k hk=>?_;unfold turn;rw [zWl tO]
theorem zcO {n i:Nat} {f:Nat->UInt8} (h:i<n-1-i):zTQ n (upd (upd (turn n i f) i (turn n i f (n-1-i))) (n-1-i) (turn n i f i))=zTQ n (turn n (i+1) f):=by
  unfold zTQ;refine zJf fun k hk=>?_
  congr 1
  have e1:turn n i f (n-1-i)=f (n-1-i):=by unfold turn;rw [zWl tO]
  have e2:turn n i f i=f i:=by unfold turn;rw [zWl tO]
  rw [e1,e2];unfold upd turn;by_cases h1:k=n-1-i
  · grind
  · grind
theorem zfW {i:Nat} {xs:List UInt8} (h:xs.length-1-i<=i) (hi:i<=xs.length):zTQ xs.length (turn xs.length i fun k=>xs.getD k 0)=xs.reverse.map zq:=by
  rw [zcM xs.reverse,zmy];unfold zTQ;refine zJf fun k hk=>?_
  congr 1
  have e:xs.reverse.getD k 0=xs.getD (xs.length-1-k) 0:=by grind
  show _=xs.reverse.getD k 0;rw [e];unfold turn;split
  · rfl
  · congr 1;omega
section
variable {C:CSpec} {GT:zG_}
theorem ziP (av:AV) (m:Nat) (H:Heap) (ha:Mag av m) (hm:m≠0) (hl:(wds m).length<=100000):EFun C GT zGK [av] H (.lst (some false) 1 ((wds m).map zBU)) H:=by
  have h0:(wds m).map zBU≠[]:=by rw [zCy hm];simp
  refine zH ?_;refine zA0 (H0:=H) (Owns.nil _ _ _) (Old.refl _) (ha.view H) tO (by simp;omega) h0 (fun v' H' ho' hO' hb hf=>?_);rw [zo4] at ho';obtain ⟨H2,hf2,hO2,_⟩:=ho'.frz hO';have e:zJ7 1 ((wds m).map zBU)=.lst (some false) 1 ((wds m).map zBU):=by rw [zCy hm];rfl
  rw [e] at hf2;exact zIw rfl rfl hf2 rfl hO2
structure SSl where
  k:Nat
  r:Nat
  qs:List Nat
theorem zfX (hT:∀ b m ws H,ws.length=m->H[b]?=some (.row 1 (ws.map zBU))->Small ws->m<=1000000->C zA2 [.sl (some false) b 1 0 m] H (.sl (some false) b 1 0 (wds (wval ws)).length) H)
    (av:AV) (a d n:Nat) (H:Heap) (ha:Mag av a) (hn:(wds a).length=n) (hl:n<=100000) (hd0:0<d) (hd:d<4294967296):EFun C GT zFm [av,zBU d] H (.tup [zFL (a/d),zBU (a%d)]) H:=by
  have hal:((wds a).map zBU).length=n:=by rw [zoU,hn]
  refine zH ?_;refine zAk n ha hal ?_;refine zdH (n:=n) rfl (Int.le_refl _) ⟨by omega,by omega⟩ rfl ?_;refine zAk n ha hal ?_;refine zjC ⟨by omega,by omega⟩ ?_;refine zAr (fun s:SSl=>[(8,zK ((s.k:Int)-1)),(1,zBU d),(6,.sl (some false) H.length 1 0 n),(0,av),(7,zRr s.r)])
    (fun s H'=>Old H H'/\s.k<=n/\s.qs.length=n-s.k/\Small s.qs/\s.r<d/\H'[H.length]?=some (.row 1 ((List.replicate s.k 0++s.qs).map zBU))/\wval ((wds a).drop s.k)=d*wval s.qs+s.r) (fun s=>s.k) ⟨n,0,[]⟩ rfl
    ⟨(Old.refl _).push _,zoR _,by simp,(fun w hw=>by cases hw),hd0,by rw [zmR,zns];exact zB,by show wval ((wds a).drop n)=d*wval []+0;rw [List.drop_of_length_le tO];rfl⟩ (fun ⟨k,r,qs⟩ H1 ⟨hO,hk,hq,hsm,hr,hrow,hval⟩=>?_)
  simp only at hk hq hsm hr hrow hval;dsimp only;refine zEO (fun h=>?_) (fun h=>?_)
  · have h:1<=k:=by have:=zow h;omega
    obtain ⟨i,rfl⟩:∃ i,k=i+1:=⟨k-1,by omega⟩;have hi:i<(wds a).length:=by omega
    have hax:=zKP hi;have hdr:=zcL hi;have hsx:=zB4 a _ (zmO hi);generalize (wds a)[i]=w at *;have hq1:(r*4294967296+w)/d<4294967296:=by
      rw [Nat.div_lt_iff_lt_mul hd0];have:(r+1)*4294967296<=d*4294967296:=zo2 _ hr;rw [zme 4294967296 d];omega
    have hqt:(((r*4294967296+w:Nat)):Int).tdiv (d:Int)=(((r*4294967296+w)/d:Nat):Int):=(Int.ofNat_tdiv _ _).symm;have hrt:(((r*4294967296+w:Nat)):Int).tmod (d:Int)=(((r*4294967296+w)%d:Nat):Int):=(Int.ofNat_tmod _ _).symm;have hrd:(r*4294967296+w)%d<d:=zn7 _ hd0;have e:=Nat.div_add_mod (r*4294967296+w) d;have hne:(d:Int)≠0:=by omega
    obtain ⟨q,hqd⟩:∃ q,(r*4294967296+w)/d=q:=⟨_,rfl⟩;obtain ⟨rm,hrm⟩:∃ rm,(r*4294967296+w)%d=rm:=⟨_,rfl⟩;rw [hqd] at hq1 hqt e;rw [hrm] at hrt hrd e;have hget:=zfV qs i;have hset:=ziO qs i q;refine za (zkB r tO) ?_;refine zBg i (zBU w) ha tO hax ?_;refine z8 (zBU w) rfl ?_;refine zDf (r:=w) rfl tO ?_;refine za (or32' w r hsx tO) ?_;refine zDf (r:=d) rfl tO ?_;refine zBA hne ?_;refine zhT q (by rw [hqt];omega) ?_;refine zMU q tO ?_;refine sAt ⟨by omega,by omega⟩ ?_;refine zJ6 i (zBU q) tO hrow hget rfl zD_ rfl (fun cs h=>by cases h) ?_;refine zDf (r:=d) rfl tO ?_;refine zBA hne ?_;refine zCl (r:=(rm:Int)) hrt ?_;refine zjC ⟨by omega,by omega⟩ ?_;refine zAJ (SSl.mk i rm (q::qs)) ?_ ⟨hO.set (zoR _) _,by simp only;omega,by simp only [zoN];omega, ?_,hrd,by simp only;rw [hset];exact zS hrow, ?_⟩ (by simp only;omega)
    · have:((i+1:Nat):Int)-1-1=(i:Int)-1:=by omega
      simp only [<-this];rfl
    · intro x hx
      rcases zmG.1 hx with rfl|hx
      · exact hq1
      · exact hsm x hx
    · simp only [wval]
      rw [hdr,hval];rw [Nat.mul_add,Nat.mul_add,<-Nat.mul_assoc d 4294967296,zme d 4294967296,Nat.mul_assoc];omega
  · have h:k=0:=by have:=zl8 h;omega
    subst h;rw [znY,zEx] at hval;rw [znk,zo4] at hrow;have hv:wval qs=a/d:=by rw [hval,Nat.mul_add_div hd0,Nat.div_eq_of_lt hr];rfl
    have hm:a%d=r:=by rw [hval,Nat.mul_add_mod,zna hr]
    have ht:=hT H.length n qs H1 tO hrow hsm tO;rw [hv] at ht;rw [hm];have hfz:=zOm (H0:=H) (H:=H1) (b:=H.length) (n:=a/d) (zoR _) hrow hsm hv;refine zI ht ?_;refine zMU r tO ?_;exact zIw (v0:=.tup [.sl (some false) H.length 1 0 (wds (a/d)).length,zBU r]) rfl rfl (by simp only [zDm,zKR] at hfz ⊢;rw [hfz];rfl) rfl (hO.set (zoR _) _)
structure STx where
  m:Nat
  mv:AV
  v:AV
  out:List UInt8
theorem zfY (hTw:∀ av m H,Mag av m->m≠0->(wds m).length<=100000->C zCu [av] H (.lst (some false) 1 ((wds m).map zBU)) H)
    (hSm:∀ av a d H,Mag av a->(wds a).length<=100000->0<d->d<4294967296->C zCW [av,zBU d] H (.tup [zFL (a/d),zBU (a%d)]) H)
    (b:Nat) (v:Int) (H:Heap) (hb:H[b]?=some (.box (zF2 v))) (hv:v.natAbs<10000000000000000000000) (hl:(wds v.natAbs).length<=100):EFun C GT zCg [.ref b 0 0 0,zK 10] H (.str (zX3 v)) H:=by
  have hb2:H[b]?=some (.box [.bool (decide (v<0)),zFL v.natAbs]):=hb;clear hb;have hdl:(zS1 v.natAbs).length<=22:=zRV 22 _ (by have:(10:Nat)^22=10000000000000000000000:=zD_;omega);refine zH ?_;refine za rfl ?_;refine zC ?_;refine zA (zFL v.natAbs) hb2 rfl ?_;refine zAk (wds v.natAbs).length (zGP _) zS_ ?_;by_cases h0:v=0
  · subst h0
    refine zD ?_;exact sRr
  have hz:(wds v.natAbs).length≠0:=by rw [zCy tO];simp
  refine zEO (fun h=>absurd (eq_of_beq h) tO) (fun _=>?_);have htw:=hTw (zFL v.natAbs) v.natAbs H (zGP _) tO tO;have hdig:zX3 v=(signed v).reverse:=by unfold zX3;rw [zWl h0]
  rw [hdig];refine zA (zFL v.natAbs) hb2 rfl ?_;refine zI (htw) ?_;refine zAr (fun s:STx=>[(5,s.v),(1,zK 10),(6,s.mv),(0,.ref b 0 0 0)]) (fun s H'=>Old H H'/\Owns H H' s.v 1 (s.out.map zq)/\Mag s.mv s.m/\s.out++zS1 s.m=zS1 v.natAbs/\s.m<=v.natAbs/\(s.m≠0\/s.out≠[])) (fun s=>s.m) ⟨v.natAbs,_,.lst (some true) 0 [],[]⟩ rfl
    ⟨Old.refl _,Owns.nil _ _ _,⟨_,_,rfl,.inl rfl⟩,rfl,zoR _,.inl (by show v.natAbs≠0;omega)⟩ (fun ⟨m,mv,ov,out⟩ H1 ⟨hO,hown,hmg,hdg,hmle,hne⟩=>?_)
  simp only at hown hmg hdg hmle hne;dsimp only;have hml:(wds m).length<=100:=zmK (zMu hmle) hl;refine zAk (wds m).length hmg zS_ ?_;refine zEO (fun h=>?_) (fun h=>?_)
  · have h0:m≠0:=fun e=>by subst e;exact absurd h (by simp [zEw])
    have hsm:=hSm mv m 10 H1 hmg tO tO tO;rw [zIP h0] at hdg;have hol:out.length<=22:=by grind
    have hmod:m%10<10:=zn7 _ tO;have hu:(UInt8.ofNat (48+m%10)).toNat=48+m%10:=by rw [UInt8.toNat_ofNat'];omega
    refine zMU 10 tO ?_;refine zI hsm ?_;refine za rfl ?_;refine za rfl ?_;refine zEO (fun _=>?_) (fun h=>absurd (zl8 h) tO);refine zMU (48+m%10) tO ?_;refine zCl (r:=((UInt8.ofNat (48+m%10)).toNat:Int)) (by rw [hu,IntKind.wrap_u8];omega) ?_;refine zAA (vs':=[zq (UInt8.ofNat (48+m%10))]) rfl rfl ?_;refine zA0 (H0:=H) (hown.push _) (hO.push _) zAR tO (by simp;omega) zS_ (fun v' H' ho' hO' hblk hfr=>?_);exact zAJ (STx.mk (m/10) (zFL (m/10)) v' (out++[UInt8.ofNat (48+m%10)])) rfl ⟨hO',by simp only [zov];exact ho',zGP _,by simp only [zou];exact hdg,by simp only;omega,.inr zS_⟩ (by simp only;omega)
  · have hm0:m=0:=by
      by_cases e:m=0
      · exact e
      · exact absurd h (by rw [zCy e];simp)
    subst hm0;rw [zJT,zmR] at hdg;have hoe:out≠[]:=hne.resolve_left zS_;have hol:out.length<=22:=by rw [hdg];exact hdl
    have fin:∀ (ov:AV) (out:List UInt8) (H1:Heap),Old H H1->Owns H H1 ov 1 (out.map zq)->out≠[]->out.length<=23->EW C GT (zEZ.behind 6) (zf2 zCg H (.str out.reverse) H) [(5,ov)] H1:=by
      intro ov out H1 hO hown hne hlen;obtain ⟨c,rfl,hcl,hrow⟩:∃ c,ov=.sl (some true) c 1 0 out.length/\H.length<=c/\H1[c]?=some (.row 1 (out.map zq)):=by
        rcases hown with ⟨_,h⟩|⟨c,h1,h2,h3,_⟩
        · exact absurd (by simpa using h) hne
        · grind
      obtain ⟨n,hn⟩:∃ n,out.length=n:=⟨_,rfl⟩;have hn0:0<n:=by rw [<-hn];exact zng.2 hne
      rw [zcM,hn,<-zcN] at hrow;rw [hn];refine zIU ?_;refine zQ (r:=n-1) tO tO ?_;refine zAr (fun i:Nat=>[(9,zK ((n:Int)-1-i)),(8,zL i),(5,.sl (some true) c 1 0 n)]) (fun i H'=>Old H H'/\i<=n/\i<=n-i/\H'[c]?=some (.row 1 (zTQ n (turn n i fun k=>out.getD k 0)))) (fun i=>n-i) 0 ?_ ⟨hO,zmB _,by omega,hrow⟩ (fun i H2 ⟨hO2,hi,hi2,hrow2⟩=>?_)
      · have:((n-1:Nat):Int)=(n:Int)-1-(0:Nat):=by omega
        simp only [<-this];rfl
      dsimp only;refine zEO (fun h=>?_) (fun h=>?_)
      · have h:i<n-1-i:=by have:=zow h;omega
        have g1:=zNe (n:=n) (i:=i) (f:=turn n i fun k=>out.getD k 0) tO;have g2:=zNe (n:=n) (i:=n-1-i) (f:=turn n i fun k=>out.getD k 0) tO;have ts:=zcO (f:=fun k=>out.getD k 0) h;generalize hf:turn n i (fun k=>out.getD k 0)=f at *;have g3:=zNe (n:=n) (i:=n-1-i) (f:=upd f i (f (n-1-i))) tO;have r2:(H2.set c (.row 1 ((zTQ n f).set i (zq (f (n-1-i))))))[c]?=some (.row 1 (zTQ n (upd f i (f (n-1-i))))):=by rw [zWS];exact zS hrow2
        refine sAt ⟨by omega,by omega⟩ ?_;refine zCs i (zq (f i)) (zq (f i)) tO hrow2 g1 rfl ?_;refine sAt ⟨by omega,by omega⟩ ?_;refine zCs (n-1-i) (zq (f (n-1-i))) (zq (f (n-1-i))) tO hrow2 g2 rfl ?_;refine sAt ⟨by omega,by omega⟩ ?_;refine zJ6 i (zq (f (n-1-i))) tO hrow2 g1 rfl zD_ rfl (fun cs h=>by cases h) ?_;refine sAt ⟨by omega,by omega⟩ ?_;refine zJ6 (n-1-i) (zq (f i)) tO r2 g3 rfl zD_ rfl (fun cs h=>by cases h) ?_;refine zQ (r:=i+1) rfl tO ?_;refine zjC ⟨by omega,by omega⟩ ?_;refine zAJ (i+1) ?_ ⟨(hO2.set hcl _).set hcl _,by omega,by omega, ?_⟩ tO
        · have:(n:Int)-1-(i:Int)-1=(n:Int)-1-((i+1:Nat):Int):=by omega
          simp only [<-this];rfl
        · rw [<-ts,<-zWS (f:=upd f i (f (n-1-i)))]
          exact zS r2
      · have h:n-1-i<=i:=by have:=zl8 h;omega
        have e:=zfW (i:=i) (xs:=out) tO tO;rw [hn] at e;rw [e] at hrow2;have ho:Owns H H2 (.sl (some true) c 1 0 n) 1 (out.reverse.map zq):=.inr ⟨c,by rw [zoU,zmy,hn],hcl,hrow2,by simp [hne]⟩;refine zHW ho ?_;exact zAQ rfl rfl rfl rfl hO2
    by_cases hn:v<0
    · have e:signed v=out++[45]:=by unfold signed;rw [zoQ hn,hdg]
      rw [e];rw [zoj hn] at hb2;have hb3:=zFB hO hb2;refine zA (.bool true) hb3 rfl ?_;refine zD ?_;refine zAA (vs':=[zq 45]) rfl rfl ?_;refine zA0 (H0:=H) (hown.push _) (hO.push _) zAR tO (by simp;omega) zS_ (fun v' H' ho' hO' hblk hfr=>?_);refine zPX rfl (fin v' (out++[45]) H' hO' (by rw [zov];exact ho') zS_ (by simp;omega)) ?_;rfl
    · have e:signed v=out:=by unfold signed;rw [zWl hn,hdg]
      rw [e];rw [zop hn] at hb2;have hb3:=zFB hO hb2;refine zA (.bool false) hb3 rfl ?_;refine zC ?_;refine zPX rfl (fin ov out H1 hO hown hoe tO) ?_;rfl
theorem zYL (hT:∀ b v H,H[b]?=some (.box (zF2 v))->v.natAbs<10000000000000000000000->(wds v.natAbs).length<=100->C zA6 [.ref b 0 0 0,zK 10] H (.str (zX3 v)) H)
    (b:Nat) (v:Int) (H:Heap) (hb:H[b]?=some (.box (zF2 v))) (hv:v.natAbs<10000000000000000000000) (hl:(wds v.natAbs).length<=100):EFun C GT zDy [.ref b 0 0 0] H (.str (zX3 v)) H:=by
  have h:=hT b v H hb hv hl;refine zH ?_;refine zI (h) ?_;exact sRr
theorem zYM (hNew:∀ v H,zDi v->C zA4 [zK v] H (.ref H.length 0 0 0) (H++[.box (zF2 v)]))
    (hS:∀ b v H,H[b]?=some (.box (zF2 v))->v.natAbs<10000000000000000000000->(wds v.natAbs).length<=100->C zCC [.ref b 0 0 0] H (.str (zX3 v)) H)
    (v:Int) (H:Heap) (hv:zDi v):EFun C GT zIa [zK v] H (.str (zX3 v)) H:=by
  have e2:(4294967296:Nat)^2=18446744073709551616:=by decide
  have la:(wds v.natAbs).length<=2:=zRP (by rw [e2];unfold zDi at hv;omega);have h:=hS H.length v (H++[.box (zF2 v)]) zB (by unfold zDi at hv;omega) tO;refine zH ?_;refine zBc (hNew v _ hv) (fun h=>by cases h) ?_;refine zI (h) ?_;exact zAQ rfl rfl rfl rfl ((Old.refl _).push _)
end
end Go.AM
