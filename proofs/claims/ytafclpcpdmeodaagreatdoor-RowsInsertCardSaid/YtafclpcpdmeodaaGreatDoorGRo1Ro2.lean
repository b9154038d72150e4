/- Several texts of mine in one (Ro1, On6, Ch1, Ri1, Ro2). Own work. -/
import Derived.Test.YtafclpcpdmeodaaGreatDoorGAm30Fp1
import Derived.Test.YtafclpcpdmeodaaGreatDoorGRq1Sm1
import Derived.Test.YtafclpcpdmeodaaGreatDoorXc
import Derived.Test.YtafclpcpdmeodaaGreatDoorGRq4On5
import Derived.Test.YtafclpcpdmeodaaGreatDoorGAm31Rf1
set_option linter.all false
set_option maxRecDepth 20000
namespace Go.AM
section
variable {C:CSpec} {GT:Nat->Option AV}
def RRef (C:CSpec) (cv:AV) (g:RefP->Option RefP):Prop:=∀ r,okR r->∃ r',(∀ H,C zBd [cv,rV r] H (.tup [rV r',.bool (g r).isSome]) H)/\∀ x,g r=some x->r'=x
def RBox (C:CSpec) (cv:AV) (g:RefP->RefP->Option (RefP×RefP)):Prop:=∀ a b,okR a->okR b->∃ a' b',(∀ H,C zFb [cv,rV a,rV b] H (.tup [rV a',rV b',.bool (g a b).isSome]) H)/\∀ x,g a b=some x->(a',b')=x
def ccV (k:Int) (row:Bool) (at_ many cols rows:Int) (b:Bx):AV:=.agg [.int .i64 k,.bool row,.int .i64 at_,.int .i64 many,.int .i64 cols,.int .i64 rows,.int .i64 b.c0,.int .i64 b.r0,.int .i64 b.c1,.int .i64 b.r1]
variable {k0:Int} {row:Bool} {at_ many cols rows:Int} {bx:Bx}
set_option maxHeartbeats 4000000 in
theorem ron_refs (c:Chg) (hR:RRef C (ccV k0 row at_ many cols rows bx) c.ref) (r:RefP) (h:okR r) (H:Heap):EFun C GT zCi [(ccV k0 row at_ many cols rows bx),ndV (zBz r)] H (ndV (onN c (zBz r))) H:=by
 obtain ⟨r',hr,hx⟩:=hR r h;clear hR;rw [on_ref];refine zI<|sX ?_
 cases e:c.ref r with
 |none=>
  rw [e] at hr;clear hx;refine sX ?_;refine sSA (rV r') ?_;refine sX ?_;refine sSA (AV.agg zV0) ?_;exact zAV (o:=0) rfl rfl (zH hP) rfl rfl rfl hO
 |some x=>
  rw [e] at hr;obtain rfl:=hx x e;clear hx;refine sX ?_;refine sSA (rV r') ?_;refine sX ?_;refine sSA (AV.agg [.int .i64 5,.int .i64 0,AV.str [],.int .i64 r'.col,.int .i64 r'.row,AV.bool r'.fc,AV.bool r'.fr,.int .i64 0,.int .i64 0,AV.bool false,AV.bool false,AV.lst (some true) 0 []]) ?_;exact zAV (o:=0) rfl rfl (zH hP) rfl rfl rfl hO
set_option maxHeartbeats 4000000 in
theorem ron_boxs (c:Chg) (hR:RBox C (ccV k0 row at_ many cols rows bx) c.box) (r o:RefP) (h:okR r) (h2:okR o) (H:Heap):EFun C GT zCi [(ccV k0 row at_ many cols rows bx),ndV (zAx r o)] H (ndV (onN c (zAx r o))) H:=by
 obtain ⟨r',o',hr,hx⟩:=hR r o h h2;clear hR;rw [on_box];refine zI<|sX ?_
 cases e:c.box r o with
 |none=>
  rw [e] at hr;clear hx;refine sX ?_;refine sSA (rV r') ?_;refine sSA (rV o') ?_;refine sX ?_;refine sSA (AV.agg zV0) ?_;exact zAV (o:=0) rfl rfl (zH hP) rfl rfl rfl hO
 |some x=>
  rw [e] at hr;have hx:=hx x e;subst hx;refine sX ?_;refine sSA (rV r') ?_;refine sSA (rV o') ?_;refine sX ?_;refine sSA (AV.agg [.int .i64 6,.int .i64 0,AV.str [],.int .i64 r'.col,.int .i64 r'.row,AV.bool r'.fc,AV.bool r'.fr,.int .i64 o'.col,.int .i64 o'.row,AV.bool o'.fc,AV.bool o'.fr,AV.lst (some true) 0 []]) ?_;exact zAV (o:=0) rfl rfl (zH hP) rfl rfl rfl hO
set_option maxHeartbeats 4000000 in
theorem ron_leaf (k num:Int) (t:Bs) (r o:RefP) (h5:(k==5)=false) (h6:(k==6)=false) (H:Heap):EFun C GT zCi [(ccV k0 row at_ many cols rows bx),ndV (.mk k num t r o [])] H (ndV (.mk k num t r o [])) H:=by
 refine zI ?_;refine sX ?_;refine zBB (fun _:Unit=>_) (fun _ H'=>H'=_) (fun _=>0) () rfl rfl (fun _ H1 hi=>?_);subst hi;dsimp only;refine sX ?_;refine zBC 0 (zAC (.mk k num t r o [])) rfl ?_;refine sX ?_;refine sS (AV.lst (some true) 0 []) [.int .i64 (Nd.mk k num t r o []).kind,.int .i64 (Nd.mk k num t r o []).num,AV.str (Nd.mk k num t r o []).text,.int .i64 (Nd.mk k num t r o []).ref.col,.int .i64 (Nd.mk k num t r o []).ref.row,AV.bool (Nd.mk k num t r o []).ref.fc,AV.bool (Nd.mk k num t r o []).ref.fr,.int .i64 (Nd.mk k num t r o []).to.col,.int .i64 (Nd.mk k num t r o []).to.row,AV.bool (Nd.mk k num t r o []).to.fc,AV.bool (Nd.mk k num t r o []).to.fr,AV.lst (some true) 0 []] ?_;refine sX ?_;refine sSA (AV.agg [.int .i64 (Nd.mk k num t r o []).kind,.int .i64 (Nd.mk k num t r o []).num,AV.str (Nd.mk k num t r o []).text,.int .i64 (Nd.mk k num t r o []).ref.col,.int .i64 (Nd.mk k num t r o []).ref.row,AV.bool (Nd.mk k num t r o []).ref.fc,AV.bool (Nd.mk k num t r o []).ref.fr,.int .i64 (Nd.mk k num t r o []).to.col,.int .i64 (Nd.mk k num t r o []).to.row,AV.bool (Nd.mk k num t r o []).to.fc,AV.bool (Nd.mk k num t r o []).to.fr,AV.lst (some true) 0 []]) ?_;exact zAV (o:=0) rfl rfl (zH hP) rfl rfl rfl hO
theorem frz_nodeT {n0 nb m:Nat} {k num:Int} {t:Bs} {r o:RefP} {xs:List AV} {H:Heap} (h:H[nb]?=some (.row 12 xs)) (hn:n0<=nb) (hm:xs.length=m) (hne:xs≠[]) :
  zEE n0 (.agg (zLL k num t r o (.sl (some true) nb 12 0 m))) H=some (.agg (zLL k num t r o (.lst (some false) 12 xs)),H.set nb (.frz 12 xs)):=by
 subst hm;have:¬ nb<n0:=by omega
 simp only [zLL,zEE,zLP,this,zQt,h];cases xs with
 |nil=>exact absurd rfl hne
 |cons x xs=>simp [frzQ]
set_option maxHeartbeats 4000000 in
theorem ron_node (c:Chg) (k num:Int) (t:Bs) (r o:RefP) (ks:List Nd) (hne:ks≠[]) (hkl:ks.length<=1000000) (h5:(k==5)=false) (h6:(k==6)=false)
  (hS:∀ n∈ks,∀ H,C zBY [(ccV k0 row at_ many cols rows bx),ndV n] H (ndV (onN c n)) H) (H:Heap):EFun C GT zCi [(ccV k0 row at_ many cols rows bx),ndV (.mk k num t r o ks)] H (ndV (.mk k num t r o (ks.map (onN c)))) H:=by
 have hxv:zDa (zGj (.mk k num t r o ks)) 12 (ks.map ndV):=zAC (.mk k num t r o ks);have hlm:(ks.map ndV).length=ks.length:=zQW _;have ev:ndV (.mk k num t r o (ks.map (onN c)))=.agg (zLL k num t r o (.lst (some false) 12 (ks.map fun k=>ndV (onN c k)))):=by
  have e:kxs (.mk k num t r o (ks.map (onN c)))=ks.map fun k=>ndV (onN c k):=by
   show kidL (ks.map (onN c))=_;rw [zJ6,zSF];rfl
  cases ks with
  |nil=>exact absurd rfl hne
  |cons a ks=>
   rw [<-e];rfl
 rw [ev];clear ev;refine zI ?_;refine zBr (x:=(ccV k0 row at_ many cols rows bx)) rfl ?_;refine zBr (x:=ndV (.mk k num t r o ks)) rfl ?_;refine sW ?_;have hO0:Old H (((H++[ABlk.box (ccV k0 row at_ many cols rows bx).cells])++[ABlk.box (ndV (.mk k num t r o ks)).cells])++[ABlk.box (ndV zZ).cells]):=(((Old.refl H).push _).push _).push _;have g2:(((H++[ABlk.box (ccV k0 row at_ many cols rows bx).cells])++[ABlk.box (ndV (.mk k num t r o ks)).cells])++[ABlk.box (ndV zZ).cells])[H.length]?=some (.box (ccV k0 row at_ many cols rows bx).cells):=zF hP;have g3:(((H++[ABlk.box (ccV k0 row at_ many cols rows bx).cells])++[ABlk.box (ndV (.mk k num t r o ks)).cells])++[ABlk.box (ndV zZ).cells])[(H++[ABlk.box (ccV k0 row at_ many cols rows bx).cells]).length]?=some (.box (ndV (.mk k num t r o ks)).cells):=zF zB;have g4:(((H++[ABlk.box (ccV k0 row at_ many cols rows bx).cells])++[ABlk.box (ndV (.mk k num t r o ks)).cells])++[ABlk.box (ndV zZ).cells])[((H++[ABlk.box (ccV k0 row at_ many cols rows bx).cells])++[ABlk.box (ndV (.mk k num t r o ks)).cells]).length]?=some (.box (ndV zZ).cells):=zB;have hle:H.length<=(H++[ABlk.box (ccV k0 row at_ many cols rows bx).cells]).length/\H.length<=((H++[ABlk.box (ccV k0 row at_ many cols rows bx).cells])++[ABlk.box (ndV (.mk k num t r o ks)).cells]).length/\(H++[ABlk.box (ccV k0 row at_ many cols rows bx).cells]).length≠((H++[ABlk.box (ccV k0 row at_ many cols rows bx).cells])++[ABlk.box (ndV (.mk k num t r o ks)).cells]).length:=by simp
 have hT:∀ (b2 b3 b4:Nat) (H0:Heap) {K:Post},Old H H0->H0[b2]?=some (.box (ccV k0 row at_ many cols rows bx).cells)->H0[b3]?=some (.box (ndV (.mk k num t r o ks)).cells)->H0[b4]?=some (.box (ndV zZ).cells) ->
   (∀ d fr' H',zT fr' [4,3,10]=[(4,.ref b4 0 0 0),(3,.ref b3 0 0 0),(10,.sl (some true) d 12 0 ks.length)]->Old H0 H'->H0.length<=d->H'[d]?=some (.row 12 (ks.map fun k=>ndV (onN c k)))->K (.exit 1) fr' H') ->
   loopP C GT [11,10,3,2,4] zHe K [(11,.int .i64 0),(10,.lst (some true) 0 []),(3,.ref b3 0 0 0),(2,.ref b2 0 0 0),(4,.ref b4 0 0 0)] H0:=by
  intro b2 b3 b4 H0 K hOH g2 g3 g4 hK;clear hle hO0;refine zBB (fun s:Nat×AV=>[(11,zK s.1),(10,s.2),(3,.ref b3 0 0 0),(2,.ref b2 0 0 0),(4,.ref b4 0 0 0)]) (fun s H'=>s.1<=ks.length/\Owns H0 H' s.2 12 ((ks.take s.1).map fun k=>ndV (onN c k))/\Old H0 H') (fun s=>ks.length-s.1) (0,.lst (some true) 0 []) rfl ⟨by omega,Owns.nil _ _ _,Old.refl _⟩ (fun s H2 hi=>?_);obtain ⟨i,v⟩:=s;obtain ⟨hi,ho,hO⟩:=hi;simp only at hi ho;have l2:=(zg g2).1;have l3:=(zg g3).1;have k2:H2[b2]?=some (.box (ccV k0 row at_ many cols rows bx).cells):=by rw [hO.2 _ l2];exact g2
  have k3:H2[b3]?=some (.box (ndV (.mk k num t r o ks)).cells):=by rw [hO.2 _ l3];exact g3
  by_cases hlt:i<ks.length
  ·obtain ⟨n,hn⟩:∃ n,ks[i]?=some n:=⟨_,zQS hlt⟩;have hkm:(ks.map ndV)[i]?=some (ndV n):=by rw [zQa,hn];rfl
   have hs:=hS n (zQh hn);have ht:(ks.take (i+1)).map (fun k=>ndV (onN c k))=(ks.take i).map (fun k=>ndV (onN c k))++[ndV (onN c n)]:=by rw [zR5,hn];simp
   have hl0:=hO.1;clear hS hK;refine zA (zGj (.mk k num t r o ks)) k3 rfl<|zBC ks.length hxv hlm<|zp tT<|zA (ccV k0 row at_ many cols rows bx) k2 rfl<|zA (zGj (.mk k num t r o ks)) k3 rfl<|zE6 i (ndV n) hxv rfl hkm<|zA4 (ndV n) rfl ?_;refine zHB ?_ ?_
   all_goals
    refine zM (hs _) ?_;refine zL (v:=ndV (onN c n)) (AV.cells (ndV (onN c n))) hP rfl rfl rfl rfl ?_;refine zA (ndV (onN c n)) hP rfl ?_;refine zAW (vs':=[ndV (onN c n)]) rfl rfl ?_;refine zBt (H0:=H0) ((ho.pushSet _ _).push _) (((hO.push _).set hl0 _).push _) zAo tO (by simp;omega) (by simp) fun v4 H4 ho4 hO4 hbk4 hf4=>?_;refine zS (r:=i+1) rfl tO ?_;exact zAP (i+1,v4) rfl ⟨by simp only;omega,by rw [ht];exact ho4,hO4⟩ (by simp only;omega)
  ·obtain rfl:i=ks.length:=by omega
   rw [zRs] at ho;rcases ho with ⟨_,e⟩|⟨d,rfl,d1,d2,_⟩
   ·exact absurd (zSR.1 e) hne
   have hkk:=fun fr' hf=>hK d fr' H2 hf hO d1 d2;clear hK hS;rw [zQW];refine zA (zGj (.mk k num t r o ks)) k3 rfl<|zBC ks.length hxv hlm<|zk tF ?_
   exact hkk _ rfl
 clear hS;refine hT _ _ _ _ hO0 g2 g3 g4 (fun d fr' H' hfr hO hd hrow=>sBlk hfr ?_);have l3:=(zg g3).1;have l4:=(zg g4).1;have k3:=(hO.2 _ l3).trans g3;have k4:=(hO.2 _ l4).trans g4;have hl0:=hO.1;clear hT hO0;have hn0:H.length<=(((H++[ABlk.box (ccV k0 row at_ many cols rows bx).cells])++[ABlk.box (ndV (.mk k num t r o ks)).cells])++[ABlk.box (ndV zZ).cells]).length:=by simp
 have hOH:Old H H':=Old.trans ((((Old.refl H).push _).push _).push _) hO;have q1:(H++[ABlk.box (ccV k0 row at_ many cols rows bx).cells]).length=H.length+1:=by simp
 have q2:((H++[ABlk.box (ccV k0 row at_ many cols rows bx).cells])++[ABlk.box (ndV (.mk k num t r o ks)).cells]).length=H.length+2:=by simp
 have q3:(((H++[ABlk.box (ccV k0 row at_ many cols rows bx).cells])++[ABlk.box (ndV (.mk k num t r o ks)).cells])++[ABlk.box (ndV zZ).cells]).length=H.length+3:=by simp
 have hd:(((H++[ABlk.box (ccV k0 row at_ many cols rows bx).cells])++[ABlk.box (ndV (.mk k num t r o ks)).cells])++[ABlk.box (ndV zZ).cells]).length<=d:=hd;obtain ⟨le3,le4,n34⟩:=hle;refine zL (zLL k num t r o (.sl (some true) d 12 0 ks.length)) k3 rfl rfl rfl rfl<|zA (.agg (zLL k num t r o (.sl (some true) d 12 0 ks.length))) (zV k3) rfl<|zL (zLL k num t r o (.sl (some true) d 12 0 ks.length)) (zC n34 k4) rfl rfl rfl rfl ?_
 exact sRetCellF (o:=0) rfl rfl (zH (zV (zC n34 k4))) rfl (frz_nodeT (m:=ks.length) (zC tO (zC tO hrow)) tO (zQW _) (by simpa using hne)) rfl (((hOH.set tO _).set tO _).set tO _)
end
end Go.AM
set_option maxRecDepth 20000
namespace Go.AM
section
variable {C:CSpec} {GT:Nat->Option AV}
def zOk:AF:={ zBw with keep:=true }
theorem nclone0_ev (H:Heap):EFun C GT zOk [.lst (some true) 0 []] H (.lst (some true) 0 []) H:=by
 refine zI ?_;refine zy rfl<|zD ?_
 exact sRet ⟨rfl,rfl⟩
theorem nclone_ev (k':Nat) (ks:List Nd) (H:Heap) (hx:k'=12\/ks=[]) (hl:ks.length<=1000000):EFun C GT zOk [.lst (some false) k' (ks.map ndV)] H (.sl (some false) (H.length+1) 12 0 ks.length) ((H++[ABlk.row 12 []]).set H.length .dead++[.row 12 (ks.map ndV)]):=by
 have hv:view (H++[ABlk.row 12 []]) 12 (.lst (some false) k' (ks.map ndV))=some (ks.map ndV):=zDa.view ⟨_,k',rfl,hx.imp id (fun h=>by rw [h];rfl)⟩ _;have hlm:(ks.map ndV).length=ks.length:=zQW _;refine zI ?_;refine zy rfl<|zG<|zAW (vs':=[]) rfl rfl ?_
 have ha:astep (.append 12 104) [.sl (some false) H.length 12 0 0,.lst (some false) k' (ks.map ndV)] (H++[ABlk.row 12 []])=some (.sl (some false) (H.length+1) 12 0 ks.length,(H++[ABlk.row 12 []]).set H.length .dead++[.row 12 (ks.map ndV)]):=by
  have hrow:(H++[ABlk.row 12 []])[H.length]?=some (.row 12 []):=zB;simp only [astep,hv,hrow,hlm];rw [zQQ ⟨trivial,trivial,by simp,by omega,by omega⟩];simp
 refine sAct ha ?_;exact sRet ⟨rfl,rfl⟩
theorem fcheck_ev (n:Nd) (hl:(txt n).length<=199) (hP:∀ H,C zCb [ndV n] H (.tup [.str (zDZ n),eV (zB7 n)]) H) (H:Heap):EFun C GT zJY [ndV n] H .nili H:=by
 have e4:zB7 n=0:=by unfold zB7;rw [zQQ hl]
 rw [e4] at hP;refine zI ?_;refine zBr (x:=ndV n) rfl ?_;refine zA (ndV n) zB rfl ?_;refine zM (hP _) ?_;refine zy rfl ?_;refine zy rfl ?_;exact zAq rfl rfl rfl rfl ((Old.refl _).push _)
end
section
variable {C:CSpec} {GT:Nat->Option AV} {c:Chg}
theorem chg_all {P:Nd->Prop} (hr:∀ r,okR r->P (zBz r)) (hb:∀ r o,okR r->okR o->P (zAx r o)) (hl:∀ (k num:Int) t r o,(k==5)=false->(k==6)=false->P (.mk k num t r o []))
  (hn:∀ (k num:Int) t r o ks,ks≠[]->ks.length<=1000000->(k==5)=false->(k==6)=false->(∀ n∈ks,P n)->P (.mk k num t r o ks)) {x:Bool} {n:Nd} (h:Wf x n):(txt n).length<=1000->P n:=by
 induction h with
 |num _ m h=>exact fun _=>hl 1 m [] noRef noRef rfl rfl
 |txt _ t=>exact fun _=>hl 2 0 t noRef noRef rfl rfl
 |tru _ b=>exact fun _=>hl 3 _ [] noRef noRef rfl rfl
 |bad _ k h=>exact fun _=>hl 4 k [] noRef noRef rfl rfl
 |ref _ r h=>exact fun _=>hr r h
 |box r o h k=>exact fun _=>hb r o h k
 |neg _ n h ih=>
  intro hl;rw [zE3] at hl;simp only [zQO,zBh] at hl;refine hn 7 0 [] noRef noRef [n] (by simp) (by simp) rfl rfl fun k hk=>?_;rw [zQ1.1 hk];exact ih tO
 |two _ op a b h ha hb iha ihb=>
  intro hl;rw [zEY] at hl;simp only [zQR,zBh] at hl;refine hn 8 op [] noRef noRef [a,b] (by simp) (by simp) rfl rfl fun k hk=>?_;rcases zRQ.1 hk with rfl|hk
  ·exact iha tO
  ·rw [zQ1.1 hk];exact ihb tO
 |call _ t ks h hk ih=>
  intro hl';rw [zDD] at hl';simp only [zQR,zQO] at hl';have hj:=zF2 (ks.map txt);cases ks with
  |nil=>exact hl 9 0 t noRef noRef rfl rfl
  |cons k0 ks=>
   refine hn 9 0 t noRef noRef (k0::ks) (by simp) (by have:=hj.1;rw [zQW] at this;omega) rfl rfl fun k hk'=>?_;exact ih k hk' (by have:=hj.2 (txt k) (zRf hk');omega)
theorem onN_mk (c:Chg) {k num:Int} {t:Bs} {r o:RefP} {ks:List Nd} (h5:(k==5)=false) (h6:(k==6)=false):onN c (.mk k num t r o ks)=.mk k num t r o (ks.map (onN c)):=by
 rw [onN,zQN (by simpa using h5),zQN (by simpa using h6),onNs_map]
theorem on_all (fr fb:Nat) (cr cb:List AV) (l:List (Nat×ABlk)) (hR:RefQ C fr cr l c.ref) (hB:BoxQ C fb cb l c.box) (hK:CnH C) (hCk:CkH C)
  (hmk:∀ n,(∀ H,Holds l H->EFun C GT zBn [cgV fr fb cr cb,ndV n] H (ndV (onN c n)) H)->∀ H,Holds l H->C zAZ [cgV fr fb cr cb,ndV n] H (ndV (onN c n)) H)
  {x:Bool} {n:Nd} (h:Wf x n) (hl:(txt n).length<=1000):∀ H,Holds l H->C zAZ [cgV fr fb cr cb,ndV n] H (ndV (onN c n)) H:=by
 refine chg_all (P:=fun n=>∀ H,Holds l H->C zAZ [cgV fr fb cr cb,ndV n] H (ndV (onN c n)) H) (fun r hr=>hmk _ fun H hh=>on_refs fr fb cr cb l c hR hK r hr H hh) (fun r o hr ho=>hmk _ fun H hh=>on_boxs fr fb cr cb l c hB hK r o hr ho H hh) (fun k num t r o h5 h6=>hmk _ fun H _=>?_) (fun k num t r o ks hne hkl h5 h6 hS=>hmk _ fun H hh=>?_) h hl
 ·rw [onN_mk c h5 h6];exact on_leaf fr fb cr cb hK k num t r o h5 h6 H
 ·rw [onN_mk c h5 h6];exact on_node fr fb cr cb l c hCk k num t r o ks hne hkl h5 h6 hS H hh
variable {k0:Int} {row:Bool} {at_ many cols rows:Int} {bx:Bx}
theorem ron_all (hR:RRef C (ccV k0 row at_ many cols rows bx) c.ref) (hB:RBox C (ccV k0 row at_ many cols rows bx) c.box)
  (hmk:∀ n,(∀ H,EFun C GT zCi [ccV k0 row at_ many cols rows bx,ndV n] H (ndV (onN c n)) H)->∀ H,C zBY [ccV k0 row at_ many cols rows bx,ndV n] H (ndV (onN c n)) H)
  {x:Bool} {n:Nd} (h:Wf x n) (hl:(txt n).length<=1000):∀ H,C zBY [ccV k0 row at_ many cols rows bx,ndV n] H (ndV (onN c n)) H:=by
 refine chg_all (P:=fun n=>∀ H,C zBY [ccV k0 row at_ many cols rows bx,ndV n] H (ndV (onN c n)) H) (fun r hr=>hmk _ fun H=>ron_refs c hR r hr H) (fun r o hr ho=>hmk _ fun H=>ron_boxs c hB r o hr ho H) (fun k num t r o h5 h6=>hmk _ fun H=>?_) (fun k num t r o ks hne hkl h5 h6 hS=>hmk _ fun H=>?_) h hl
 ·rw [onN_mk c h5 h6];exact ron_leaf k num t r o h5 h6 H
 ·rw [onN_mk c h5 h6];exact ron_node c k num t r o ks hne hkl h5 h6 hS H
end
end Go.AM
set_option maxRecDepth 20000
namespace Go.AM
def rewP (c:Chg) (t:Bs):Nat×Bs:=match zAi t with
 |none=>(0,t)
 |some n=>if eqN n (onN c n) then (0,t) else (zB7 (onN c n),zDZ (onN c n))
theorem zNQ {t:Bs} (h:t.head?≠some 61):zAi t=none:=by
 unfold zAi;rw [zQN fun x=>h x.2]
theorem rewP_none {c:Chg} {t:Bs} (h:zAi t=none):rewP c t=(0,t):=by unfold rewP;rw [h]
theorem rewP_some {c:Chg} {t:Bs} {n:Nd} (h:zAi t=some n):rewP c t=if eqN n (onN c n) then (0,t) else (zB7 (onN c n),zDZ (onN c n)):=by unfold rewP;rw [h]
section
variable {C:CSpec} {GT:Nat->Option AV}
set_option maxHeartbeats 4000000 in
theorem rew2_ev (hCo:∀ s H,C zAc [.str s] H (.bool (decide (s.head?≠some 61))) H) (hP:∀ s H,C zAD [.str s] H (zFE s) H)
  (f:Nat) (cr:List AV) (l:List (Nat×ABlk)) (c:Chg) (t:Bs) (ht:zBq t=0) (hN:∀ n,zAi t=some n->∀ H,Holds l H->C f (ndV n::cr) H (.tup [ndV (onN c n),.nili]) H)
  (hS:∀ n,zAi t=some n->∀ H,C zAf [ndV n,ndV (onN c n)] H (.bool (eqN n (onN c n))) H) (hPr:∀ n,zAi t=some n->∀ H,C zCb [ndV (onN c n)] H (.tup [.str (zDZ (onN c n)),eV (zB7 (onN c n))]) H) (H:Heap) (hh:Holds l H) :
  EFun C GT zEK [.str t,.fn f [] cr] H (.tup [.str (rewP c t).2,eV (rewP c t).1]) H:=by
 have hc:=hCo t;have hp:=hP t;clear hCo hP;by_cases h:t.head?=some 61
 ·rw [tF (fun x=>x h)] at hc;unfold zFE at hp;cases hq:zAi t with
  |none=>
   unfold zBq at ht;by_cases h2:200<t.length
   ·rw [zQQ h2] at ht;cases ht
   ·rw [zQN h2,zQQ h,hq] at ht;cases ht
  |some n=>
   rw [hq] at hp;have hp:∀ H,C zAD [.str t] H (.tup [ndV n,.int .i64 0,.nili]) H:=hp;have hs:=hS n hq;have hn:=hN n hq;have hpr:=hPr n hq;clear hS hN hPr;rw [rewP_some hq];cases he:eqN n (onN c n) with
   |true=>
    rw [he] at hs;refine zI<|sX ?_;refine sSA (ndV n) ?_;refine zy rfl<|zG<|zA (ndV n) hP rfl<|zM (hn _ (hh.old hO))<|zy rfl<|zy rfl<|sSA (ndV (onN c n)) ?_;refine sX ?_
    exact sRv
   |false=>
    rw [he] at hs;by_cases hl:(txt (onN c n)).length<=199
    ·have e4:zB7 (onN c n)=0:=by unfold zB7;rw [zQQ hl]
     rw [e4] at hpr;show EFun C GT zEK [.str t,.fn f [] cr] H (.tup [.str (zDZ (onN c n)),eV (zB7 (onN c n))]) H;rw [e4];refine zI<|sX ?_;refine sSA (ndV n) ?_;refine zy rfl<|zG<|zA (ndV n) hP rfl<|zM (hn _ (hh.old hO))<|zy rfl<|zy rfl<|sSA (ndV (onN c n)) ?_;refine sX ?_
     exact sRv
    ·have e4:zB7 (onN c n)=4:=by unfold zB7;rw [zQN hl]
     have et:zDZ (onN c n)=[]:=by unfold zDZ;rw [zQN hl]
     rw [e4,et] at hpr;show EFun C GT zEK [.str t,.fn f [] cr] H (.tup [.str (zDZ (onN c n)),eV (zB7 (onN c n))]) H;rw [e4,et];refine zI<|sX ?_;refine sSA (ndV n) ?_;refine zy rfl<|zG<|zA (ndV n) hP rfl<|zM (hn _ (hh.old hO))<|zy rfl<|zy rfl<|sSA (ndV (onN c n)) ?_;refine sX ?_
     exact sRv
 ·rw [zQj h] at hc;rw [rewP_none (zNQ h)];refine zI<|sX ?_
  exact sRv
end
section
variable (cf:Fil->Nat×Bool×Fil) (rw_:Bs->Nat×Bs)
def chg1 (f:Fil):Nat:=if (cf f).1≠0 then (cf f).1 else if (cf f).2.1=true then (rw_ f.text).1 else 0
def zLS:List Fil->Nat
 |[]=>0
 |f::r=>if chg1 cf rw_ f=0 then zLS r else chg1 cf rw_ f
def chgF (f:Fil):Option Fil:=if (cf f).2.1=true then some ⟨(cf f).2.2.col,(cf f).2.2.row,(rw_ f.text).2⟩ else none
def zMf (l:List Fil):List Fil:=l.filterMap (chgF cf rw_)
def zMg (l:List Fil):AV:=if zLS cf rw_ l=0 then lstF 3 ((zJJ (zMf cf rw_ l)).map zl) else .lst (some true) 0 []
end
section
variable {cf:Fil->Nat×Bool×Fil} {rw_:Bs->Nat×Bs}
theorem chgN_drop {l:List Fil} {i:Nat} {f:Fil} (h:l[i]?=some f):zLS cf rw_ (l.drop i)=if chg1 cf rw_ f=0 then zLS cf rw_ (l.drop (i+1)) else chg1 cf rw_ f:=by
 obtain ⟨a,b⟩:=zg h;rw [zRU a,b,zLS]
theorem chgL_take {l:List Fil} {i:Nat} {f:Fil} (h:l[i]?=some f):zMf cf rw_ (l.take (i+1))=zMf cf rw_ (l.take i)++(match chgF cf rw_ f with
  |none=>[]
  |some g=>[g]):=by
 unfold zMf;rw [zR5,h,List.filterMap_append]
 congr 1
 cases e:chgF cf rw_ f <;> simp [e]
theorem zMh (l:List Fil):(zMf cf rw_ l).length<=l.length:=List.length_filterMap_le _ _
variable {C:CSpec} {GT:Nat->Option AV}
set_option maxHeartbeats 8000000 in
theorem change2_ev (f1 f2:Nat) (c1 c2:List AV) (L:List (Nat×ABlk)) (lv:AV) (l:List Fil)
  (hC:∀ f∈l,∀ b H,H[b]?=some (.box (zl f).cells)->Holds L H->(∀ p∈L,p.1<b)->C f1 (bR b::c1) H (.tup [.bool (cf f).2.1,eV (cf f).1]) (H.set b (.box (zl (cf f).2.2).cells)))
  (hC0:∀ f∈l,(cf f).1≠0->(cf f).2.1=false) (hCt:∀ f∈l,(cf f).2.2.text=f.text)
  (hR:∀ f∈l,∀ H,Holds L H->C zDG [.str f.text,.fn f2 [] c2] H (.tup [.str (rw_ f.text).2,eV (rw_ f.text).1]) H)
  (hS:∀ (b:Nat) (xs:List Fil) H,H[b]?=some (.row 3 (xs.map zl))->xs≠[]->xs.length<=1000->(xs.map zLR).Nodup->C zDq [.sl (some true) b 3 0 xs.length] H (.sl (some true) b 3 0 xs.length) (H.set b (.row 3 ((zJJ xs).map zl))))
  (hS0:∀ H,C zDq [.lst (some true) 0 []] H (.lst (some true) 0 []) H)
  (hlv:zDa lv 3 (l.map zl)) (hl:l.length<=200) (hnd:zLS cf rw_ l=0->((zMf cf rw_ l).map zLR).Nodup) (H:Heap) (hh:Holds L H) :
  EFun C GT zLr [lv,.fn f1 [] c1,.fn f2 [] c2] H (.tup [zMg cf rw_ l,eV (zLS cf rw_ l)]) H:=by
 have hlm:(l.map zl).length=l.length:=zQW _;have hLb:∀ p∈L,p.1<H.length:=fun p hp=>(zg (hh p hp)).1;refine zI<|sX ?_;refine zBB (fun z:Nat×AV=>[(15,zK z.1),(8,z.2),(2,.fn f2 [] c2),(1,.fn f1 [] c1),(13,lv),(14,zK l.length)]) (fun z H'=>Old H H'/\z.1<=l.length/\Owns H H' z.2 3 ((zMf cf rw_ (l.take z.1)).map zl)/\zLS cf rw_ (l.drop z.1)=zLS cf rw_ l) (fun z=>l.length-z.1) (0,.lst (some true) 0 []) rfl ⟨Old.refl H,by simp,.inl ⟨rfl,by simp [zMf]⟩,rfl⟩ (fun z H1 hi=>?_)
 obtain ⟨i,out⟩:=z;obtain ⟨ho0,hi,ho,hq⟩:=hi;dsimp only at hi ho hq ⊢;by_cases hlt:i<l.length
 ·obtain ⟨f,hf⟩:∃ f,l[i]?=some f:=⟨_,zQS hlt⟩;have hmem:=zQh hf;have hfm:(l.map zl)[i]?=some (zl f):=by rw [zQa,hf];rfl
  have hol:((zMf cf rw_ (l.take i)).map zl).length<=200:=by
   rw [zQW];have:=zMh (cf:=cf) (rw_:=rw_) (l.take i);rw [zQk] at this;omega
  have hHl:=ho0.1;obtain ⟨H2,hH2⟩:∃ H2,(H1++[ABlk.box zV3]).set H1.length (.box (zl f).cells)=H2:=⟨_,rfl⟩;have hO2:Old H H2:=by rw [<-hH2];exact ho0.pushSet _ _
  have ho2:Owns H H2 out 3 ((zMf cf rw_ (l.take i)).map zl):=by rw [<-hH2];exact ho.pushSet _ _
  have hnb:out.blk≠some H1.length:=fun e=>by have:=(ho.lt e).2;omega
  have hbx:H2[H1.length]?=some (.box (zl f).cells):=by rw [<-hH2];exact zV zB
  have hc:=hC f hmem H1.length H2 hbx (hh.old hO2) (fun p hp=>by have:=hLb p hp;omega);have hr:=hR f hmem;have hc0:=hC0 f hmem;have hct:=hCt f hmem;have hbl2:=(zg hbx).1;have hdr:=chgN_drop (cf:=cf) (rw_:=rw_) hf;have htk:=chgL_take (cf:=cf) (rw_:=rw_) hf;rw [hdr] at hq;clear hC hC0 hCt hR hS hS0 hdr;unfold chg1 at hq;unfold chgF at htk;obtain ⟨⟨e1,st,g⟩,hcf⟩:∃ z,cf f=z:=⟨_,rfl⟩;rw [hcf] at hc hc0 hct hq htk;simp only at hc hc0 hct hq htk;obtain ⟨H3,hH3⟩:∃ H3,H2.set H1.length (.box (zl g).cells)=H3:=⟨_,rfl⟩;have hO3:Old H H3:=by rw [<-hH3];exact hO2.set hHl _
  have ho3:Owns H H3 out 3 ((zMf cf rw_ (l.take i)).map zl):=by rw [<-hH3];exact ho2.set hnb _
  have hb3:H3[H1.length]?=some (.box (zl g).cells):=by rw [<-hH3];exact zV hbx
  rw [hH3] at hc;by_cases he1:e1=0
  ·subst he1;cases st with
   |false=>
    have hq:zLS cf rw_ (l.drop (i+1))=zLS cf rw_ l:=by simpa using hq
    have htk:zMf cf rw_ (l.take (i+1))=zMf cf rw_ (l.take i):=by simpa using htk
    have hc:C f1 (bR H1.length::c1) H2 (.tup [.bool false,.nili]) H3:=hc;refine sX ?_;refine sSA (zl f) ?_;rw [hH2];refine sX ?_;refine zS (r:=i+1) rfl tO ?_;exact zAP (i+1,out) rfl ⟨hO3,by simp only;omega,by rw [htk];exact ho3,hq⟩ (by simp only;omega)
   |true=>
    have hc:C f1 (bR H1.length::c1) H2 (.tup [.bool true,.nili]) H3:=hc;simp only [ne_eq,zSw,zQt,zQz] at hq htk;obtain ⟨⟨e2,t2⟩,hrw⟩:∃ z,rw_ f.text=z:=⟨_,rfl⟩;rw [hrw] at hr hq htk;simp only at hr hq htk;have hr:=hr H3 (hh.old hO3);rw [<-hct] at hr;by_cases he2:e2=0
    ·subst he2;rw [zQQ rfl] at hq;have hr:C zDG [.str g.text,.fn f2 [] c2] H3 (.tup [.str t2,.nili]) H3:=hr;obtain ⟨H4,hH4⟩:∃ H4,H3.set H1.length (.box (zl ⟨g.col,g.row,t2⟩).cells)=H4:=⟨_,rfl⟩;have hO4:Old H H4:=by rw [<-hH4];exact hO3.set hHl _
     have ho4:Owns H H4 out 3 ((zMf cf rw_ (l.take i)).map zl):=by rw [<-hH4];exact ho3.set hnb _
     have hb4:H4[H1.length]?=some (.box (zl ⟨g.col,g.row,t2⟩).cells):=by rw [<-hH4];exact zV hb3
     refine sX ?_;refine sSA (zl f) ?_;rw [hH2];refine sX ?_;refine sS (AV.str t2) (zl ⟨g.col,g.row,t2⟩).cells ?_;refine sW ?_;refine zA (zl { col:=g.col,row:=g.row,text:=t2 }) (zV hb3) rfl<|zAW (vs':=[zl { col:=g.col,row:=g.row,text:=t2 }]) rfl rfl ?_
     rw [hH4];refine zBt (H0:=H) (ys:=[zl ⟨g.col,g.row,t2⟩]) (ho4.push _) (hO4.push _) zAo (by decide) (by simp only [zRZ];omega) (by simp) (fun v' H' ho' hO' _ hfr=>?_);refine zS (r:=i+1) rfl tO ?_;refine zAP (i+1,v') rfl ⟨hO',by simp only;omega, ?_,hq⟩ (by simp only;omega);simp only;rw [htk,zQ5];exact ho'
    ·rw [zQN he2] at hq;have ev:eV e2=zIb e2:=zQN he2;rw [ev] at hr;have er:AV.tup [zMg cf rw_ l,eV (zLS cf rw_ l)]=.tup [.lst (some true) 0 [],zIb e2]:=by
      unfold zMg;rw [<-hq,zQN he2,ev]
     rw [er];refine sX ?_;refine sSA (zl f) ?_;rw [hH2];refine sX ?_;refine sS (AV.str t2) (zl ⟨g.col,g.row,t2⟩).cells ?_;refine sX ?_;exact sRv
  ·rw [zQQ he1,zQN he1] at hq;have ev:eV e1=zIb e1:=zQN he1;have hst:=hc0 he1;rw [ev,hst] at hc;have er:AV.tup [zMg cf rw_ l,eV (zLS cf rw_ l)]=.tup [.lst (some true) 0 [],zIb e1]:=by
    unfold zMg;rw [<-hq,zQN he1,ev]
   rw [er];refine sX ?_;refine sSA (zl f) ?_;rw [hH2];refine sX ?_;exact zAq rfl rfl rfl rfl hO3
 ·have he:l.take i=l:=zQ6 tO;rw [he] at ho;rw [zRD tO] at hq;have hq:zLS cf rw_ l=0:=hq.symm;have er:AV.tup [zMg cf rw_ l,eV (zLS cf rw_ l)]=.tup [lstF 3 ((zJJ (zMf cf rw_ l)).map zl),.nili]:=by
   unfold zMg;rw [hq];rfl
  have hnd:=hnd hq;have hle:=zMh (cf:=cf) (rw_:=rw_) l;rw [er];generalize zMf cf rw_ l=xs at *;rcases ho with ⟨rfl,h0⟩|⟨bb,rfl,g1,g2,g3⟩
  ·have hl0:xs=[]:=by simpa using h0
   subst hl0;refine sX ?_;exact zAq rfl rfl rfl rfl ho0
  ·have hne:xs≠[]:=fun e=>g3 (by rw [e];rfl);have hs:=hS bb xs H1 g2 hne tO hnd;have hln:(xs.map zl).length=xs.length:=zQW _;have hbl:=(zg g2).1;rw [hln];have hol:(zJJ xs).length=xs.length:=(zJx _).length_eq;clear hS hS0 hC hR;have hO3:Old H (H1.set bb (.row 3 ((zJJ xs).map zl))):=ho0.set g1 _;have hne2:(zJJ xs).map zl≠[]:=fun e=>by
    have:=zQb List.length e;rw [zQW,hol] at this;exact hne (zRq.1 this)
   have hoo:Owns H (H1.set bb (.row 3 ((zJJ xs).map zl))) (.sl (some true) bb 3 0 xs.length) 3 ((zJJ xs).map zl):=
    .inr ⟨bb,by rw [zQW (f:=zl),hol],g1,zV g2,hne2⟩
   obtain ⟨H4,hf4,hO4,_⟩:=hoo.frz hO3;refine sX ?_;exact sRetF rfl rfl (frz_pair2 hf4 fun _=>rfl) (bel_pair _ _ _) hO4
end
end Go.AM
set_option maxRecDepth 20000
namespace Go.AM
def zNR (row:Bool) (at_ many:Int) (f:Fil):Fil:=if row then (if at_<=f.row then ⟨f.col,f.row+many,f.text⟩ else f) else (if at_<=f.col then ⟨f.col+many,f.row,f.text⟩ else f)
def zEZ (row:Bool) (at_ many:Int) (f:Fil):Nat×Bool×Fil:=if okC (zNR row at_ many f).col (zNR row at_ many f).row=true then (0,true,zNR row at_ many f) else (4,false,zNR row at_ many f)
section
variable {C:CSpec} {GT:Nat->Option AV}
abbrev RAl (C:CSpec):Prop:=∀ (b:Nat) (row:Bool) (cs:List AV) H,H[b]?=some (.box cs)->C zGn [.ref b 0 0 0,.bool row] H (.ref b 0 0 (offV row)) H
set_option maxHeartbeats 4000000 in
theorem insertc1_ev (hAl:RAl C) (hCk:ACk C) (f:Fil) (h:okC f.col f.row=true) (row:Bool) (at_ many:Int) (hs:spanP row at_ many) (b n1 n2 n3:Nat) (H:Heap) (hb:H[b]?=some (.box (zl f).cells))
  (h1:H[n1]?=some (.box [.bool row])) (h2:H[n2]?=some (.box [zJ at_])) (h3:H[n3]?=some (.box [zJ many])) (d1:n1<b) (d2:n2<b) (d3:n3<b) :
  EFun C GT zIq [bR b,bR n1,bR n2,bR n3] H (.tup [.bool (zEZ row at_ many f).2.1,eV (zEZ row at_ many f).1]) (H.set b (.box (zl (zEZ row at_ many f).2.2).cells)):=by
 have hbl:=(zg hb).1;have hrefl:H.set b (.box (zl f).cells)=H:=zOc hb;obtain ⟨c,w,t⟩:=f;unfold okC at h;simp only [zQP,zQf] at h;obtain ⟨⟨⟨k1,k2⟩,k3⟩,k4⟩:=h;have hm:many<=99/\0<=many:=by
  obtain ⟨_,_,a,b⟩:=hs;refine ⟨?_,a⟩;unfold mostK at b;split at b <;> omega
 have w1:IntKind.i64.wrap (c+many)=c+many:=by rw [IntKind.wrap_i64];omega
 have w2:IntKind.i64.wrap (w+many)=w+many:=by rw [IntKind.wrap_i64];omega
 have ha:=hAl b row _ H hb;clear hAl;refine zI ?_;cases row with
 |true=>
  by_cases hk:at_<=w
  ·have e0:zNR true at_ many ⟨c,w,t⟩=⟨c,(w+many),t⟩:=zQQ hk;have hc:=hCk c (w+many);have hbl2:(H.set b (.box [.int .i64 c,.int .i64 (w+many),AV.str t]))[b]?=some (.box [.int .i64 c,.int .i64 (w+many),AV.str t]):=zV hb;clear hCk;cases e:okC c (w+many) with
   |true=>
    have ei:zEZ true at_ many ⟨c,w,t⟩=(0,true,⟨c,(w+many),t⟩):=by unfold zEZ;rw [e0];exact zQQ e
    rw [ei];rw [e,zQQ rfl] at hc;refine zA (AV.bool true) h1 rfl<|zM ha<|zA (.int .i64 w) hb rfl<|zA (zJ at_) h2 rfl<|zp (tT)<|sX ?_;refine zFR w2<|zL [.int .i64 c,.int .i64 (w+many),AV.str t] hb rfl rfl rfl rfl<|sX ?_
    exact zP8 rfl rfl rfl rfl rfl rfl
   |false=>
    have ei:zEZ true at_ many ⟨c,w,t⟩=(4,false,⟨c,(w+many),t⟩):=by unfold zEZ;rw [e0];exact zQN (by rw [show okC (Fil.mk c (w+many) t).col (Fil.mk c (w+many) t).row=false from e];decide)
    rw [ei];rw [e,zQN (by decide)] at hc;refine zA (AV.bool true) h1 rfl<|zM ha<|zA (.int .i64 w) hb rfl<|zA (zJ at_) h2 rfl<|zp (tT)<|sX ?_;refine zFR w2<|zL [.int .i64 c,.int .i64 (w+many),AV.str t] hb rfl rfl rfl rfl<|sX ?_
    exact zP8 rfl rfl rfl rfl rfl rfl
  ·have e0:zNR true at_ many ⟨c,w,t⟩=⟨c,w,t⟩:=zQN hk;have hc:=hCk c w;have ho:okC c w=true:=(zF3 ⟨c,w,false,false⟩).2 ⟨k1,k2,k3,k4⟩;have ei:zEZ true at_ many ⟨c,w,t⟩=(0,true,⟨c,w,t⟩):=by unfold zEZ;rw [e0];exact zQQ ho
   clear hCk;rw [ei];rw [ho,zQQ rfl] at hc;simp only;rw [hrefl];refine zA (AV.bool true) h1 rfl<|zM ha<|zA (.int .i64 w) hb rfl<|zA (zJ at_) h2 rfl<|zk (tF)<|sX ?_
   exact sRv
 |false=>
  by_cases hk:at_<=c
  ·have e0:zNR false at_ many ⟨c,w,t⟩=⟨(c+many),w,t⟩:=zQQ hk;have hc:=hCk (c+many) w;have hbl2:(H.set b (.box [.int .i64 (c+many),.int .i64 w,AV.str t]))[b]?=some (.box [.int .i64 (c+many),.int .i64 w,AV.str t]):=zV hb;clear hCk;cases e:okC (c+many) w with
   |true=>
    have ei:zEZ false at_ many ⟨c,w,t⟩=(0,true,⟨(c+many),w,t⟩):=by unfold zEZ;rw [e0];exact zQQ e
    rw [ei];rw [e,zQQ rfl] at hc;refine zA (AV.bool false) h1 rfl<|zM ha<|zA (.int .i64 c) hb rfl<|zA (zJ at_) h2 rfl<|zp (tT)<|sX ?_;refine zFR w1<|zL [.int .i64 (c+many),.int .i64 w,AV.str t] hb rfl rfl rfl rfl<|sX ?_
    exact zP8 rfl rfl rfl rfl rfl rfl
   |false=>
    have ei:zEZ false at_ many ⟨c,w,t⟩=(4,false,⟨(c+many),w,t⟩):=by unfold zEZ;rw [e0];exact zQN (by rw [show okC (Fil.mk (c+many) w t).col (Fil.mk (c+many) w t).row=false from e];decide)
    rw [ei];rw [e,zQN (by decide)] at hc;refine zA (AV.bool false) h1 rfl<|zM ha<|zA (.int .i64 c) hb rfl<|zA (zJ at_) h2 rfl<|zp (tT)<|sX ?_;refine zFR w1<|zL [.int .i64 (c+many),.int .i64 w,AV.str t] hb rfl rfl rfl rfl<|sX ?_
    exact zP8 rfl rfl rfl rfl rfl rfl
  ·have e0:zNR false at_ many ⟨c,w,t⟩=⟨c,w,t⟩:=zQN hk;have hc:=hCk c w;have ho:okC c w=true:=(zF3 ⟨c,w,false,false⟩).2 ⟨k1,k2,k3,k4⟩;have ei:zEZ false at_ many ⟨c,w,t⟩=(0,true,⟨c,w,t⟩):=by unfold zEZ;rw [e0];exact zQQ ho
   clear hCk;rw [ei];rw [ho,zQQ rfl] at hc;simp only;rw [hrefl];refine zA (AV.bool false) h1 rfl<|zM ha<|zA (.int .i64 c) hb rfl<|zA (zJ at_) h2 rfl<|zk (tF)<|sX ?_
   exact zAq rfl rfl rfl rfl hO
set_option maxHeartbeats 4000000 in
theorem insertc2_ev (n:Nd) (row:Bool) (at_ many:Int) (hI:∀ H,C zEj [ndV n,.bool row,zJ at_,zJ many] H (.tup [ndV (onN (zNP row at_ many) n),.nili]) H) (n1 n2 n3:Nat) (H:Heap)
  (h1:H[n1]?=some (.box [.bool row])) (h2:H[n2]?=some (.box [zJ at_])) (h3:H[n3]?=some (.box [zJ many])) :
  EFun C GT zIr [ndV n,bR n1,bR n2,bR n3] H (.tup [ndV (onN (zNP row at_ many) n),.nili]) H:=by
 have l1:=(zg h1).1;have l2:=(zg h2).1;have l3:=(zg h3).1;refine zI<|sX ?_;refine sSA (ndV (onN (zNP row at_ many) n)) ?_
 exact zn (o:=0) rfl rfl (zH hP) rfl rfl rfl rfl hO
theorem frz_chg {cf:Fil->Nat×Bool×Fil} {rw_:Bs->Nat×Bs} (l:List Fil) (k n:Nat) (H:Heap):zEE n (.tup [zMg cf rw_ l,eV k]) H=some (.tup [zMg cf rw_ l,eV k],H)/\(AV.tup [zMg cf rw_ l,eV k]).bel n=true:=by
 have h2:(∀ H,zEE n (eV k) H=some (eV k,H))/\(eV k).bel n=true:=by
  unfold eV;split <;> exact ⟨fun _=>rfl,rfl⟩
 have h1:zEE n (zMg cf rw_ l) H=some (zMg cf rw_ l,H)/\(zMg cf rw_ l).bel n=true:=by
  unfold zMg;split
  ·generalize (zJJ (zMf cf rw_ l)).map zl=xs;cases xs <;> exact ⟨rfl,rfl⟩
  ·exact ⟨rfl,rfl⟩
 exact ⟨frz_pair2 h1.1 h2.1,by simp only [AV.bel,AV.belL,h1.2,h2.2,Bool.and_self]⟩
def zGT (l:List Fil) (row:Bool) (at_ many:Int):Nat:=if zB6 l≠0 then zB6 l else if zNO row at_ many=true then zLS (zEZ row at_ many) (rewP (zNP row at_ many)) l else 1
def zGU (l:List Fil) (row:Bool) (at_ many:Int):AV:=if zGT l row at_ many=0 then lstF 3 ((zJJ (zMf (zEZ row at_ many) (rewP (zNP row at_ many)) l)).map zl) else .lst (some true) 0 []
set_option maxHeartbeats 4000000 in
theorem insert_ev (hG:∀ lv l H,view H 3 lv=some (l.map zl)->C zFu [lv] H (eV (zB6 l)) H) (hSp:∀ row a m H,C zFC [.bool row,zJ a,zJ m] H (.bool (zNO row a m)) H)
  (lv:AV) (l:List Fil) (hlv:zDa lv 3 (l.map zl)) (row:Bool) (at_ many:Int)
  (hCh:zB6 l=0->zNO row at_ many=true->∀ n1 n2 n3 H,H[n1]?=some (.box [.bool row])->H[n2]?=some (.box [zJ at_])->H[n3]?=some (.box [zJ many]) ->
   C zIE [lv,.fn zEH [] [bR n1,bR n2,bR n3],.fn zDF [] [bR n1,bR n2,bR n3]] H (.tup [zMg (zEZ row at_ many) (rewP (zNP row at_ many)) l,eV (zLS (zEZ row at_ many) (rewP (zNP row at_ many)) l)]) H) (H:Heap) :
  EFun C GT zLn [lv,.bool row,zJ at_,zJ many] H (.tup [zGU l row at_ many,eV (zGT l row at_ many)]) H:=by
 have hg:=hG lv l (((H++[ABlk.box (AV.bool row).cells])++[ABlk.box (zJ at_).cells])++[ABlk.box (zJ many).cells]) (hlv.view _);have hsp:=hSp row at_ many;clear hG hSp;refine zI<|zBr (x:=.bool row) rfl<|zBr (x:=zJ at_) rfl<|zBr (x:=zJ many) rfl ?_
 by_cases hck:zB6 l=0
 ·cases hsb:zNO row at_ many with
  |true=>
   have hc:=hCh hck hsb;rw [hsb] at hsp;rw [hck] at hg;have en:zGT l row at_ many=zLS (zEZ row at_ many) (rewP (zNP row at_ many)) l:=by unfold zGT;rw [zQN (fun h=>h hck),zQQ hsb]
   have ev:zGU l row at_ many=zMg (zEZ row at_ many) (rewP (zNP row at_ many)) l:=by unfold zGU zMg;rw [en]
   rw [en,ev];clear hCh;refine zM hg<|zy rfl<|zG<|zA (AV.bool row) hP rfl<|zA (zJ at_) hP rfl<|zA (zJ many) zB rfl<|zM (hsp _)<|zG<|zM (hc _ _ _ _ hP hP hP)<|zy rfl<|zy rfl ?_
   exact zAq rfl rfl (frz_chg _ _ _ _).1 (frz_chg _ _ _ H).2 hO
  |false=>
   rw [hsb] at hsp;rw [hck] at hg;have en:zGT l row at_ many=1:=by unfold zGT;rw [zQN (fun h=>h hck),hsb,zQN (by decide)]
   have ev:zGU l row at_ many=.lst (some true) 0 []:=by unfold zGU;rw [en];rfl
   rw [en,ev];clear hCh;refine zM hg<|zy rfl<|zG<|zA (AV.bool row) hP rfl<|zA (zJ at_) hP rfl<|zA (zJ many) zB rfl<|zM (hsp _)<|zD ?_
   exact zAq rfl rfl rfl rfl ((((Old.refl _).push _).push _).push _)
 ·have en:zGT l row at_ many=zB6 l:=by unfold zGT;rw [zQQ hck]
  have ev:zGU l row at_ many=.lst (some true) 0 []:=by unfold zGU;rw [en,zQN hck]
  have eq:eV (zB6 l)=zIb (zB6 l):=zQN hck;rw [en,ev,eq];rw [eq] at hg;clear hCh;refine sX ?_;exact sRv
end
end Go.AM
set_option maxRecDepth 20000
namespace Go.AM
section
variable {C:CSpec} {GT:Nat->Option AV}
variable {k0:Int} {row:Bool} {at_ many cols rows:Int} {bx:Bx}
set_option maxHeartbeats 4000000 in
theorem rbox_each (g:RefP->Option RefP) (h3:(k0==3)=false) (h4:(k0==4)=false) (hR:RRef C (ccV k0 row at_ many cols rows bx) g) (a b:RefP) (ha:okR a) (hb:okR b) :
  ∃ a' b',(∀ H,EFun C GT zIu [(ccV k0 row at_ many cols rows bx),rV a,rV b] H (.tup [rV a',rV b',.bool (zLK g a b).isSome]) H)/\∀ x,zLK g a b=some x->(a',b')=x:=by
 obtain ⟨a',h1,q1⟩:=hR a ha;obtain ⟨b',h2,q2⟩:=hR b hb;refine ⟨a',b',fun H=>?_,fun x hx=>?_⟩
 case refine_2=>
  unfold zLK at hx;cases e1:g a with
  |none=>rw [e1] at hx;cases hx
  |some y=>
   rw [e1] at hx;cases e2:g b with
   |none=>simp only [e2] at hx;cases hx
   |some z=>
    simp only [e2,zQT] at hx;rw [q1 _ e1,q2 _ e2];exact hx
 clear q1 q2;have e:(zLK g a b).isSome=((g a).isSome&&(g b).isSome):=by
  unfold zLK;cases g a <;> cases g b <;> rfl
 rw [e];clear hR e;refine zI ?_;cases ea:(g a).isSome with
 |true=>
  rw [ea] at h1;refine sX ?_;refine sSA (rV a') ?_;refine sX ?_;refine sSA (rV b') ?_;refine sX ?_;refine zHB ?_ ?_
  ·refine sX ?_;refine sSA (rV a') ?_;refine sSA (rV b') ?_;exact zNm (o:=0) (o':=0) rfl rfl (zH hP) rfl (zH hP) rfl rfl rfl rfl hO
  ·refine sSA (rV a') ?_;refine sX ?_;refine sSA (rV b') ?_;exact zNm (o:=0) (o':=0) rfl rfl (zH hP) rfl (zH hP) rfl rfl rfl rfl hO
 |false=>
  rw [ea] at h1;refine sX ?_;refine sSA (rV a') ?_;refine sX ?_;refine sSA (rV b') ?_;refine sX ?_;refine zHB ?_ ?_
  ·refine sX ?_;refine sSA (rV a') ?_;refine sSA (rV b') ?_;exact zNm (o:=0) (o':=0) rfl rfl (zH hP) rfl (zH hP) rfl rfl rfl rfl hO
  ·refine sSA (rV a') ?_;refine sX ?_;refine sSA (rV b') ?_;exact zNm (o:=0) (o':=0) rfl rfl (zH hP) rfl (zH hP) rfl rfl rfl rfl hO
set_option maxHeartbeats 4000000 in
theorem rins_ref (hI:InH C) (r:RefP) (h:okR r) (hs:spanP row at_ many) (H:Heap) :
  EFun C GT zIt [ccV 2 row at_ many cols rows bx,rV r] H (.tup [rV (insP row at_ many r),.bool (inR (insP row at_ many r)).isSome]) H:=by
 obtain ⟨c,w,fc,fr⟩:=r;obtain ⟨k1,k2,k3,k4⟩:=h;simp only at k1 k2 k3 k4;have hm:many<=99/\0<=many:=by
  obtain ⟨_,_,a,b⟩:=hs;refine ⟨?_,a⟩;unfold mostK at b;split at b <;> omega
 have w1:IntKind.i64.wrap (c+many)=c+many:=by rw [IntKind.wrap_i64];omega
 have w2:IntKind.i64.wrap (w+many)=w+many:=by rw [IntKind.wrap_i64];omega
 refine zI ?_;cases row with
 |true=>
  refine sX ?_;by_cases hk:at_<=w
  ·have ei:insP true at_ many ⟨c,w,fc,fr⟩=⟨c,(w+many),fc,fr⟩:=zQQ hk;have hc:=hI c (w+many);have es:(inR ⟨c,(w+many),fc,fr⟩).isSome=okC c (w+many):=by unfold inR;show (if okC c (w+many) then _ else _:Option RefP).isSome=_;cases okC c (w+many) <;> rfl
   have c1:decide (w>=at_)=true:=zQj hk;clear hI;rw [ei,es];refine sX ?_;refine zFR w2<|zL [.int .i64 c,.int .i64 (w+many),AV.bool fc,AV.bool fr] hP rfl rfl rfl rfl<|sX ?_;refine zL [.int .i64 c,.int .i64 (w+many),AV.bool fc,AV.bool fr] hP rfl rfl rfl rfl ?_
   exact zn (o:=0) rfl rfl (zH hP) rfl rfl rfl rfl hO
  ·have ei:insP true at_ many ⟨c,w,fc,fr⟩=⟨c,w,fc,fr⟩:=zQN hk;have hc:=hI c w;have ho:okC c w=true:=(zF3 ⟨c,w,fc,fr⟩).2 ⟨k1,k2,k3,k4⟩;have es:(inR ⟨c,w,fc,fr⟩).isSome=true:=by unfold inR;show (if okC c w then _ else _:Option RefP).isSome=_;rw [ho];rfl
   have c1:decide (w>=at_)=false:=zQs hk;clear hI;rw [ei,es];rw [ho] at hc;refine sX ?_;refine sSA (rV { col:=c,row:=w,fc:=fc,fr:=fr }) ?_;exact zn (o:=0) rfl rfl (zH hP) rfl rfl rfl rfl hO
 |false=>
  refine sX ?_;by_cases hk:at_<=c
  ·have ei:insP false at_ many ⟨c,w,fc,fr⟩=⟨(c+many),w,fc,fr⟩:=zQQ hk;have hc:=hI (c+many) w;have es:(inR ⟨(c+many),w,fc,fr⟩).isSome=okC (c+many) w:=by unfold inR;show (if okC (c+many) w then _ else _:Option RefP).isSome=_;cases okC (c+many) w <;> rfl
   have c1:decide (c>=at_)=true:=zQj hk;clear hI;rw [ei,es];refine sX ?_;refine zFR w1<|zL [.int .i64 (c+many),.int .i64 w,AV.bool fc,AV.bool fr] hP rfl rfl rfl rfl<|sX ?_;refine zL [.int .i64 (c+many),.int .i64 w,AV.bool fc,AV.bool fr] hP rfl rfl rfl rfl ?_
   exact zn (o:=0) rfl rfl (zH hP) rfl rfl rfl rfl hO
  ·have ei:insP false at_ many ⟨c,w,fc,fr⟩=⟨c,w,fc,fr⟩:=zQN hk;have hc:=hI c w;have ho:okC c w=true:=(zF3 ⟨c,w,fc,fr⟩).2 ⟨k1,k2,k3,k4⟩;have es:(inR ⟨c,w,fc,fr⟩).isSome=true:=by unfold inR;show (if okC c w then _ else _:Option RefP).isSome=_;rw [ho];rfl
   have c1:decide (c>=at_)=false:=zQs hk;clear hI;rw [ei,es];rw [ho] at hc;refine sX ?_;refine sSA (rV { col:=c,row:=w,fc:=fc,fr:=fr }) ?_;exact zn (o:=0) rfl rfl (zH hP) rfl rfl rfl rfl hO
end
end Go.AM
