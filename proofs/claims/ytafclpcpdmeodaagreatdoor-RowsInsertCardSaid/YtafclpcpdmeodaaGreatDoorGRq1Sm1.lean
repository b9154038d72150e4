/- Several texts of mine in one (Rq1, On2, Rq2, Rq3, Sm1). Own work. -/
import Derived.Test.YtafclpcpdmeodaaGreatDoorGAm30Fp1
import Derived.Test.YtafclpcpdmeodaaGreatDoorGOn0Pr3
import Derived.Test.YtafclpcpdmeodaaGreatDoorXc
import Derived.Test.YtafclpcpdmeodaaGreatDoorGAm31Rf1
import Derived.Test.YtafclpcpdmeodaaGreatDoorGRt2Kd
set_option linter.all false
set_option maxRecDepth 20000
namespace Go.AM
section
variable {C:CSpec} {GT:Nat->Option AV}
abbrev RcH (C:CSpec) (n:Nd):Prop:=∀ (l:Nat) H,cnt n<=l->l<=1000000->C zEk [ndV n,zK l] H (zK (cnt n)) H
set_option maxHeartbeats 4000000 in
theorem rcount_ev (n:Nd) (hS:∀ k∈n.kids,RcH C k) (hkl:n.kids.length<=1000000) (l:Nat) (H:Heap) (hl:cnt n<=l) (hl2:l<=1000000):EFun C GT zJa [ndV n,zK l] H (zK (cnt n)) H:=by
  have hxv:=zAC n;have hlm:(n.kids.map ndV).length=n.kids.length:=zQW _;have e0:((0:Nat):Int)=0:=rfl;rw [cnt_is] at hl ⊢;have hnb:(H++[ABlk.box (ndV n).cells])[H.length]?=some (.box (ndV n).cells):=zB;refine zI<|zBr (x:=ndV n) rfl<|zk (tF) ?_
  refine zBB (fun i:Nat=>[(6,zK i),(5,zK (1+cnts (n.kids.take i))),(1,zK l),(2,bR H.length)]) (fun i H'=>i<=n.kids.length/\H'=H++[ABlk.box (ndV n).cells]) (fun i=>n.kids.length-i) 0 rfl ⟨by omega,rfl⟩ (fun i H1 hi=>?_);obtain ⟨hi,rfl⟩:=hi;have hle:=cnts_le n.kids i;have c2:decide (((1+cnts (n.kids.take i):Nat):Int)<=(l:Int))=true:=tT;by_cases hlt:i<n.kids.length
  · obtain ⟨k,hk⟩:∃ k,n.kids[i]?=some k:=⟨_,zQS hlt⟩
    have hkm:(n.kids.map ndV)[i]?=some (ndV k):=by rw [zQa,hk];rfl
    have ht:=cnts_take hk;have hle2:=cnts_le n.kids (i+1);have hs:=hS k (zQh hk) (l-(1+cnts (n.kids.take i))) (H++[ABlk.box (ndV n).cells]) tO tO;have e3:1+cnts (n.kids.take i)+cnt k=1+cnts (n.kids.take (i+1)):=by omega
    clear hS;refine sX ?_;refine zS (r:=l-(1+cnts (n.kids.take i))) tO tO<|sX ?_
    refine zS (r:=1+cnts (n.kids.take (i+1))) tO tO<|zS (r:=i+1) rfl tO ?_
    exact zAP (i+1) rfl ⟨by omega,rfl⟩ tO
  · obtain rfl:i=n.kids.length:=by omega
    have e5:zK (1+cnts n.kids)=zK (1+cnts (n.kids.take n.kids.length)):=by rw [zRs]
    clear hS;rw [e5];refine sX ?_;exact sRv
abbrev RfH (C:CSpec) (x:Bool) (n:Nd):Prop:=∀ H,C zAK [ndV n,.bool x] H (.bool true) H
abbrev InH (C:CSpec):Prop:=∀ c r H,C zBX [zCs c r] H (.bool (okC c r)) H
set_option maxHeartbeats 4000000 in
theorem rform_num (x:Bool) (m:Nat) (H:Heap):EFun C GT zAM [ndV (zJ7 m),.bool x] H (.bool true) H:=by
  have c1:decide ((zJ7 m).num>=0)=true:=tT (by show (0:Int)<=(m:Int);omega);have hxv:=zAC (zJ7 m);refine zI<|zBr (x:=ndV (zJ7 m)) rfl<|sW ?_
  refine zBC 0 hxv rfl<|sW ?_
  exact zAq rfl rfl rfl rfl ((Old.refl _).push _)
set_option maxHeartbeats 4000000 in
theorem rform_txt (x:Bool) (t:Bs) (H:Heap):EFun C GT zAM [ndV (zHP t),.bool x] H (.bool true) H:=by
  have hxv:=zAC (zHP t);refine zI<|zBr (x:=ndV (zHP t)) rfl ?_
  cases e:((zHP t).text==([]:Bs)) with
  | true => refine zA (AV.agg [.int .i64 (zHP t).ref.col,.int .i64 (zHP t).ref.row,AV.bool (zHP t).ref.fc,AV.bool (zHP t).ref.fr]) zB rfl ?_
            refine sW ?_;refine zBC 0 hxv rfl<|sW ?_
            refine zBC 0 hxv rfl<|sW ?_
            exact zAq rfl rfl rfl rfl ((Old.refl _).push _)
  | false => refine zA (AV.agg [.int .i64 (zHP t).ref.col,.int .i64 (zHP t).ref.row,AV.bool (zHP t).ref.fc,AV.bool (zHP t).ref.fr]) zB rfl ?_
             refine sW ?_;refine zBC 0 hxv rfl<|sW ?_
             exact zAq rfl rfl rfl rfl ((Old.refl _).push _)
set_option maxHeartbeats 4000000 in
theorem rform_tru_true (x:Bool) (H:Heap):EFun C GT zAM [ndV (zE5 true),.bool x] H (.bool true) H:=by
  have hxv:=zAC (zE5 true);refine zI<|zBr (x:=ndV (zE5 true)) rfl<|sW ?_
  refine zBC 0 hxv rfl<|sW ?_
  exact zAq rfl rfl rfl rfl ((Old.refl _).push _)
set_option maxHeartbeats 4000000 in
theorem zQL (x:Bool) (H:Heap):EFun C GT zAM [ndV (zE5 false),.bool x] H (.bool true) H:=by
  have hxv:=zAC (zE5 false);refine zI<|zBr (x:=ndV (zE5 false)) rfl<|sW ?_
  refine zBC 0 hxv rfl<|sW ?_
  exact zAq rfl rfl rfl rfl ((Old.refl _).push _)
set_option maxHeartbeats 4000000 in
theorem rform_bad (x:Bool) (k:Nat) (h:1<=k/\k<=6) (H:Heap):EFun C GT zAM [ndV (zHR k),.bool x] H (.bool true) H:=by
  have c1:decide ((zHR k).num>=1)=true:=tT (by show (1:Int)<=(k:Int);omega);have c2:decide ((zHR k).num<=6)=true:=tT (by show (k:Int)<=6;omega);have hxv:=zAC (zHR k);refine zI<|zBr (x:=ndV (zHR k)) rfl<|sW ?_
  refine zBC 0 hxv rfl<|sW ?_
  exact zID (v0:=.bool (decide ((zHR k).num<=6))) (by rw [c2]) rfl rfl rfl rfl hO
set_option maxHeartbeats 4000000 in
theorem rform_ref (hI:InH C) (x:Bool) (r:RefP) (h:okC r.col r.row=true) (H:Heap):EFun C GT zAM [ndV (zBz r),.bool x] H (.bool true) H:=by
  have h0:(r.col==(0:Int))=false:=by
    unfold okC at h;simp only [zQP,zQf] at h;exact tN
  have c1:negB false ((r.col==0)&&((r.row==0)&&((r.fc==false)&&((r.fr==false)&&true))))=false:=by rw [h0];rfl
  have ha:=hI r.col r.row;rw [h] at ha;have hxv:=zAC (zBz r);refine zI<|zBr (x:=ndV (zBz r)) rfl<|zA (AV.agg [.int .i64 (zBz r).ref.col,.int .i64 (zBz r).ref.row,AV.bool (zBz r).ref.fc,AV.bool (zBz r).ref.fr]) zB rfl<|zy (v:=zP) rfl<|zy rfl<|zk c1<|zG<|zA (AV.str (zBz r).text) zB rfl<|zD<|zA (AV.lst (some (zBz r).kq) (zBz r).kk (kxs (zBz r))) zB rfl<|zBC 0 hxv rfl<|zD<|zA (AV.int IntKind.i64 (zBz r).kind) zB rfl<|zG<|zG<|zG<|zG<|zD<|zD<|zA (AV.int IntKind.i64 (zBz r).num) zB rfl ?_
  refine zD<|zD<|zA (AV.agg [.int .i64 (zBz r).to.col,.int .i64 (zBz r).to.row,AV.bool (zBz r).to.fc,AV.bool (zBz r).to.fr]) zB rfl<|zy (v:=zP) rfl<|zy rfl<|zD<|zD<|zA (AV.agg [.int .i64 (zBz r).ref.col,.int .i64 (zBz r).ref.row]) zB rfl<|zM (ha _)<|zD ?_
  exact zAq rfl rfl rfl rfl ((Old.refl _).push _)
set_option maxHeartbeats 4000000 in
theorem rform_box (hI:InH C) (r o:RefP) (h:okC r.col r.row=true) (h2:okC o.col o.row=true) (H:Heap):EFun C GT zAM [ndV (zAx r o),.bool true] H (.bool true) H:=by
  have h0:(r.col==(0:Int))=false:=by
    unfold okC at h;simp only [zQP,zQf] at h;exact tN
  have c1:negB false ((r.col==0)&&((r.row==0)&&((r.fc==false)&&((r.fr==false)&&true))))=false:=by rw [h0];rfl
  have ha:=hI r.col r.row;rw [h] at ha;have ha2:=hI o.col o.row;rw [h2] at ha2;have hxv:=zAC (zAx r o);refine zI<|zBr (x:=ndV (zAx r o)) rfl<|zA (AV.agg [.int .i64 (zAx r o).ref.col,.int .i64 (zAx r o).ref.row,AV.bool (zAx r o).ref.fc,AV.bool (zAx r o).ref.fr]) zB rfl<|zy (v:=zP) rfl<|zy rfl<|zk c1<|zG<|zA (AV.str (zAx r o).text) zB rfl<|zD<|zA (AV.lst (some (zAx r o).kq) (zAx r o).kk (kxs (zAx r o))) zB rfl<|zBC 0 hxv rfl<|zD<|zA (AV.int IntKind.i64 (zAx r o).kind) zB rfl<|zG<|zG<|zG<|zG<|zG<|zD<|zD<|zD<|zD<|zA (AV.int IntKind.i64 (zAx r o).num) zB rfl ?_
  refine zD<|zD<|zA (AV.agg [.int .i64 (zAx r o).ref.col,.int .i64 (zAx r o).ref.row]) zB rfl<|zM (ha _)<|zD<|zD<|zA (AV.agg [.int .i64 (zAx r o).to.col,.int .i64 (zAx r o).to.row]) zB rfl<|zM (ha2 _)<|zD ?_
  exact zAq rfl rfl rfl rfl ((Old.refl _).push _)
set_option maxHeartbeats 4000000 in
theorem rform_neg (x:Bool) (n:Nd) (hF:RfH C false n) (H:Heap):EFun C GT zAM [ndV (zDJ n),.bool x] H (.bool true) H:=by
  have hf:∀ H,C zAK [ndV n,.bool false] H (.bool true) H:=hF;have hk:((zDJ n).kids.map ndV)[0]?=some (ndV n):=rfl;clear hF;have hxv:=zAC (zDJ n);refine zI<|zBr (x:=ndV (zDJ n)) rfl<|zA (AV.agg [.int .i64 (zDJ n).ref.col,.int .i64 (zDJ n).ref.row,AV.bool (zDJ n).ref.fc,AV.bool (zDJ n).ref.fr]) zB rfl<|zy (v:=zP) rfl<|zy rfl<|zD<|zA (AV.agg [.int .i64 (zDJ n).to.col,.int .i64 (zDJ n).to.row,AV.bool (zDJ n).to.fc,AV.bool (zDJ n).to.fr]) zB rfl<|zy (v:=zP) rfl<|zy rfl<|zD<|zA (AV.str (zDJ n).text) zB rfl ?_
  refine zD<|zA (AV.lst (some (zDJ n).kq) (zDJ n).kk (kxs (zDJ n))) zB rfl<|zBC 1 hxv rfl<|zD<|zA (AV.int IntKind.i64 (zDJ n).kind) zB rfl<|zG<|zG<|zG<|zG<|zG<|zG<|zD<|zD<|zA (AV.str (zDJ n).text) zB rfl<|zD<|zD<|zA (AV.int IntKind.i64 (zDJ n).num) zB rfl<|zD<|zD<|zA (AV.lst (some (zDJ n).kq) (zDJ n).kk (kxs (zDJ n))) zB rfl<|zBC 1 hxv rfl<|zD<|zD<|zA (AV.lst (some (zDJ n).kq) (zDJ n).kk (kxs (zDJ n))) zB rfl<|zE6 0 (ndV n) hxv rfl hk<|zA4 (ndV n) rfl<|zM (hf _)<|zD ?_
  exact zAq rfl rfl rfl rfl ((Old.refl _).push _)
set_option maxHeartbeats 4000000 in
theorem rform_two (x:Bool) (op:Nat) (a b:Nd) (h:1<=op/\op<=11) (hFa:RfH C false a) (hFb:RfH C false b) (H:Heap):EFun C GT zAM [ndV (zAl op a b),.bool x] H (.bool true) H:=by
  have hf:∀ H,C zAK [ndV a,.bool false] H (.bool true) H:=hFa;have hf2:∀ H,C zAK [ndV b,.bool false] H (.bool true) H:=hFb;have hk:((zAl op a b).kids.map ndV)[0]?=some (ndV a):=rfl;have hk2:((zAl op a b).kids.map ndV)[1]?=some (ndV b):=rfl;have c1:decide ((zAl op a b).num>=1)=true:=tT (by show (1:Int)<=(op:Int);omega);have c2:decide ((zAl op a b).num<=11)=true:=tT (by show (op:Int)<=11;omega);clear hFa hFb;have hxv:=zAC (zAl op a b);refine zI<|zBr (x:=ndV (zAl op a b)) rfl<|zA (AV.agg [.int .i64 (zAl op a b).ref.col,.int .i64 (zAl op a b).ref.row,AV.bool (zAl op a b).ref.fc,AV.bool (zAl op a b).ref.fr]) zB rfl<|zy (v:=zP) rfl<|zy rfl<|zD<|zA (AV.agg [.int .i64 (zAl op a b).to.col,.int .i64 (zAl op a b).to.row,AV.bool (zAl op a b).to.fc,AV.bool (zAl op a b).to.fr]) zB rfl<|zy (v:=zP) rfl<|zy rfl ?_
  refine zD<|zA (AV.str (zAl op a b).text) zB rfl<|zD<|zA (AV.lst (some (zAl op a b).kq) (zAl op a b).kk (kxs (zAl op a b))) zB rfl<|zBC 2 hxv rfl<|zD<|zA (AV.int IntKind.i64 (zAl op a b).kind) zB rfl<|zG<|zG<|zG<|zG<|zG<|zG<|zG<|zD<|zD<|zA (AV.str (zAl op a b).text) zB rfl<|zD<|zD<|zA (AV.int IntKind.i64 (zAl op a b).num) zB rfl<|zD<|zp c1<|zA (AV.int IntKind.i64 (zAl op a b).num) zB rfl<|zD<|zp c2<|zA (AV.lst (some (zAl op a b).kq) (zAl op a b).kk (kxs (zAl op a b))) zB rfl<|zBC 2 hxv rfl ?_
  refine zD<|zD<|zA (AV.lst (some (zAl op a b).kq) (zAl op a b).kk (kxs (zAl op a b))) zB rfl<|zE6 0 (ndV a) hxv rfl hk<|zA4 (ndV a) rfl<|zM (hf _)<|zD<|zD<|zA (AV.lst (some (zAl op a b).kq) (zAl op a b).kk (kxs (zAl op a b))) zB rfl<|zE6 1 (ndV b) hxv rfl hk2<|zA4 (ndV b) rfl<|zM (hf2 _)<|zD ?_
  exact zAq rfl rfl rfl rfl ((Old.refl _).push _)
set_option maxHeartbeats 4000000 in
theorem rform_call (hC:∀ t,t.length<=1000->∀ H,C z8 [.str t] H (.bool (zA3 t)) H) (x:Bool) (t:Bs) (ks:List Nd) (hc:zA3 t=true) (ht:t.length<=1000) (hkl:ks.length<=1000000) (hF:∀ k∈ks,RfH C true k) (H:Heap):EFun C GT zAM [ndV (zAv t ks),.bool x] H (.bool true) H:=by
  have hca:=hC t ht;rw [hc] at hca;have hxv:zDa (zGj (zAv t ks)) 12 (ks.map ndV):=zAC (zAv t ks);have hlm:(ks.map ndV).length=ks.length:=zQW _;have e:((zAv t ks).text==([]:Bs))=false:=tN (fun e=>by
    have e:t=[]:=e;rw [e] at hc;exact absurd hc (by decide))
  clear hC;refine zI<|sX ?_
  refine zBB (fun i:Nat=>[(8,zK i),(2,bR H.length)]) (fun i H'=>i<=ks.length/\H'=H++[ABlk.box (ndV (zAv t ks)).cells]) (fun i=>ks.length-i) 0 rfl ⟨by omega,rfl⟩ (fun i H1 hi=>?_);obtain ⟨hi,rfl⟩:=hi;by_cases hlt:i<ks.length
  · obtain ⟨k,hk⟩:∃ k,ks[i]?=some k:=⟨_,zQS hlt⟩
    have hkm:(ks.map ndV)[i]?=some (ndV k):=by rw [zQa,hk];rfl
    have hs:∀ H,C zAK [ndV k,.bool true] H (.bool true) H:=hF k (zQh hk);clear hF;refine sX ?_;refine zS (r:=i+1) rfl tO ?_;exact zAP (i+1) rfl ⟨by omega,rfl⟩ tO
  · refine sX ?_
    exact sRv
end
end Go.AM
set_option maxRecDepth 20000
namespace Go.AM
def Holds (l:List (Nat×ABlk)) (H:Heap):Prop:=∀ p∈l,H[p.1]?=some p.2
theorem Holds.old {l:List (Nat×ABlk)} {H H':Heap} (h:Holds l H) (o:Old H H'):Holds l H':=fun p hp=>by
  have:=h p hp;rw [o.2 p.1 (zg this).1];exact this
section
variable {C:CSpec} {GT:Nat->Option AV}
def RefQ (C:CSpec) (f:Nat) (cr:List AV) (l:List (Nat×ABlk)) (g:RefP->Option RefP):Prop:=∀ r,okR r->∃ r',(∀ H,Holds l H->C f (rV r::cr) H (.tup [rV r',.bool (g r).isSome]) H)/\∀ x,g r=some x->r'=x
def BoxQ (C:CSpec) (f:Nat) (cr:List AV) (l:List (Nat×ABlk)) (g:RefP->RefP->Option (RefP×RefP)):Prop:=∀ a b,okR a->okR b->∃ a' b',(∀ H,Holds l H->C f (rV a::rV b::cr) H (.tup [rV a',rV b',.bool (g a b).isSome]) H)/\∀ x,g a b=some x->(a',b')=x
abbrev cgV (fr fb:Nat) (cr cb:List AV):AV:=.agg [.fn fr [] cr,.fn fb [] cb]
abbrev CnH (C:CSpec):Prop:=∀ H,C zu [.lst (some true) 0 []] H (.lst (some true) 0 []) H
set_option maxHeartbeats 4000000 in
theorem on_refs (fr fb:Nat) (cr cb:List AV) (l:List (Nat×ABlk)) (c:Chg) (hR:RefQ C fr cr l c.ref) (hK:CnH C) (r:RefP) (h:okR r) (H:Heap) (hh:Holds l H):EFun C GT zBn [cgV fr fb cr cb,ndV (zBz r)] H (ndV (onN c (zBz r))) H:=by
  obtain ⟨r',hr,hx⟩:=hR r h;have hk:=hK;clear hR hK;rw [on_ref];refine zI<|sX ?_
  cases e:c.ref r with
  | none=>
    rw [e] at hr;clear hx;refine sX ?_;refine sSA (AV.agg zV0) ?_;refine zA (AV.int IntKind.i64 (zBz r).kind) hP rfl<|zD<|zA (.fn fr [] cr) hP rfl<|zA (AV.agg [.int .i64 (zBz r).ref.col,.int .i64 (zBz r).ref.row,AV.bool (zBz r).ref.fc,AV.bool (zBz r).ref.fr]) hP rfl<|zM (hr _ (hh.old hO))<|zy rfl<|zy rfl<|sSA (rV r') ?_
    refine sX ?_;refine sSA (AV.agg zV0) ?_;exact zAV (o:=0) rfl rfl (zH hP) rfl rfl rfl hO
  | some x=>
    rw [e] at hr;obtain rfl:=hx x e;clear hx;refine sX ?_;refine sSA (AV.agg zV0) ?_;refine zA (AV.int IntKind.i64 (zBz r).kind) hP rfl<|zD<|zA (.fn fr [] cr) hP rfl<|zA (AV.agg [.int .i64 (zBz r).ref.col,.int .i64 (zBz r).ref.row,AV.bool (zBz r).ref.fc,AV.bool (zBz r).ref.fr]) hP rfl<|zM (hr _ (hh.old hO))<|zy rfl<|zy rfl<|sSA (rV r') ?_
    refine sX ?_;refine sS (rV r') [.int .i64 (zBz r).kind,.int .i64 (zBz r).num,AV.str (zBz r).text,.int .i64 r'.col,.int .i64 r'.row,AV.bool r'.fc,AV.bool r'.fr,.int .i64 (zBz r).to.col,.int .i64 (zBz r).to.row,AV.bool (zBz r).to.fc,AV.bool (zBz r).to.fr,AV.lst (some (zBz r).kq) (zBz r).kk (kxs (zBz r))] ?_;refine sX ?_;refine sS (AV.lst (some true) 0 []) [.int .i64 (zBz r).kind,.int .i64 (zBz r).num,AV.str (zBz r).text,.int .i64 r'.col,.int .i64 r'.row,AV.bool r'.fc,AV.bool r'.fr,.int .i64 (zBz r).to.col,.int .i64 (zBz r).to.row,AV.bool (zBz r).to.fc,AV.bool (zBz r).to.fr,AV.lst (some true) 0 []] ?_;refine sX ?_;refine zBC 0 (zAC (zBz r)) rfl ?_;refine zBB (fun _:Unit=>_) (fun _ H'=>H'=_) (fun _=>0) () rfl rfl (fun _ H1 hi=>?_);subst hi;dsimp only;refine sX ?_;refine sSA (AV.agg [.int .i64 (zBz r).kind,.int .i64 (zBz r).num,AV.str (zBz r).text,.int .i64 r'.col,.int .i64 r'.row,AV.bool r'.fc,AV.bool r'.fr,.int .i64 (zBz r).to.col,.int .i64 (zBz r).to.row,AV.bool (zBz r).to.fc,AV.bool (zBz r).to.fr,AV.lst (some true) 0 []]) ?_;exact zAV (o:=0) rfl rfl (zH hP) rfl rfl rfl hO
set_option maxHeartbeats 4000000 in
theorem on_boxs (fr fb:Nat) (cr cb:List AV) (l:List (Nat×ABlk)) (c:Chg) (hR:BoxQ C fb cb l c.box) (hK:CnH C) (r o:RefP) (h:okR r) (h2:okR o) (H:Heap) (hh:Holds l H):EFun C GT zBn [cgV fr fb cr cb,ndV (zAx r o)] H (ndV (onN c (zAx r o))) H:=by
  obtain ⟨r',o',hr,hx⟩:=hR r o h h2;have hk:=hK;clear hR hK;rw [on_box];refine zI<|sX ?_
  cases e:c.box r o with
  | none=>
    rw [e] at hr;clear hx;refine sX ?_;refine sSA (AV.agg zV0) ?_;refine zA (AV.int IntKind.i64 (zAx r o).kind) hP rfl<|zG<|zD<|zA (.fn fb [] cb) hP rfl<|zA (AV.agg [.int .i64 (zAx r o).ref.col,.int .i64 (zAx r o).ref.row,AV.bool (zAx r o).ref.fc,AV.bool (zAx r o).ref.fr]) hP rfl<|zA (AV.agg [.int .i64 (zAx r o).to.col,.int .i64 (zAx r o).to.row,AV.bool (zAx r o).to.fc,AV.bool (zAx r o).to.fr]) hP rfl<|zM (hr _ (hh.old hO))<|zy rfl<|zy rfl<|zy rfl<|sSA (rV r') ?_
    refine sSA (rV o') ?_;refine sX ?_;refine sSA (AV.agg zV0) ?_;exact zAV (o:=0) rfl rfl (zH hP) rfl rfl rfl hO
  | some x=>
    rw [e] at hr;have hx:=hx x e;subst hx;refine sX ?_;refine sSA (AV.agg zV0) ?_;refine zA (AV.int IntKind.i64 (zAx r o).kind) hP rfl<|zG<|zD<|zA (.fn fb [] cb) hP rfl<|zA (AV.agg [.int .i64 (zAx r o).ref.col,.int .i64 (zAx r o).ref.row,AV.bool (zAx r o).ref.fc,AV.bool (zAx r o).ref.fr]) hP rfl<|zA (AV.agg [.int .i64 (zAx r o).to.col,.int .i64 (zAx r o).to.row,AV.bool (zAx r o).to.fc,AV.bool (zAx r o).to.fr]) hP rfl<|zM (hr _ (hh.old hO))<|zy rfl<|zy rfl<|zy rfl<|sSA (rV r') ?_
    refine sSA (rV o') ?_;refine sX ?_;refine zHB ?_ ?_
    · refine sX ?_
      refine sS (rV r') [.int .i64 (zAx r o).kind,.int .i64 (zAx r o).num,AV.str (zAx r o).text,.int .i64 r'.col,.int .i64 r'.row,AV.bool r'.fc,AV.bool r'.fr,.int .i64 (zAx r o).to.col,.int .i64 (zAx r o).to.row,AV.bool (zAx r o).to.fc,AV.bool (zAx r o).to.fr,AV.lst (some (zAx r o).kq) (zAx r o).kk (kxs (zAx r o))] ?_;refine sS (rV o') [.int .i64 (zAx r o).kind,.int .i64 (zAx r o).num,AV.str (zAx r o).text,.int .i64 r'.col,.int .i64 r'.row,AV.bool r'.fc,AV.bool r'.fr,.int .i64 o'.col,.int .i64 o'.row,AV.bool o'.fc,AV.bool o'.fr,AV.lst (some (zAx r o).kq) (zAx r o).kk (kxs (zAx r o))] ?_;refine sX ?_;refine sS (AV.lst (some true) 0 []) [.int .i64 (zAx r o).kind,.int .i64 (zAx r o).num,AV.str (zAx r o).text,.int .i64 r'.col,.int .i64 r'.row,AV.bool r'.fc,AV.bool r'.fr,.int .i64 o'.col,.int .i64 o'.row,AV.bool o'.fc,AV.bool o'.fr,AV.lst (some true) 0 []] ?_;refine sX ?_;refine zBC 0 (zAC (zAx r o)) rfl ?_;refine zBB (fun _:Unit=>_) (fun _ H'=>H'=_) (fun _=>0) () rfl rfl (fun _ H1 hi=>?_);subst hi;dsimp only;refine sX ?_;refine sSA (AV.agg [.int .i64 (zAx r o).kind,.int .i64 (zAx r o).num,AV.str (zAx r o).text,.int .i64 r'.col,.int .i64 r'.row,AV.bool r'.fc,AV.bool r'.fr,.int .i64 o'.col,.int .i64 o'.row,AV.bool o'.fc,AV.bool o'.fr,AV.lst (some true) 0 []]) ?_;exact zAV (o:=0) rfl rfl (zH hP) rfl rfl rfl hO
    · refine sS (rV r') [.int .i64 (zAx r o).kind,.int .i64 (zAx r o).num,AV.str (zAx r o).text,.int .i64 r'.col,.int .i64 r'.row,AV.bool r'.fc,AV.bool r'.fr,.int .i64 (zAx r o).to.col,.int .i64 (zAx r o).to.row,AV.bool (zAx r o).to.fc,AV.bool (zAx r o).to.fr,AV.lst (some (zAx r o).kq) (zAx r o).kk (kxs (zAx r o))] ?_
      refine sX ?_;refine sS (rV o') [.int .i64 (zAx r o).kind,.int .i64 (zAx r o).num,AV.str (zAx r o).text,.int .i64 r'.col,.int .i64 r'.row,AV.bool r'.fc,AV.bool r'.fr,.int .i64 o'.col,.int .i64 o'.row,AV.bool o'.fc,AV.bool o'.fr,AV.lst (some (zAx r o).kq) (zAx r o).kk (kxs (zAx r o))] ?_;refine sX ?_;refine sS (AV.lst (some true) 0 []) [.int .i64 (zAx r o).kind,.int .i64 (zAx r o).num,AV.str (zAx r o).text,.int .i64 r'.col,.int .i64 r'.row,AV.bool r'.fc,AV.bool r'.fr,.int .i64 o'.col,.int .i64 o'.row,AV.bool o'.fc,AV.bool o'.fr,AV.lst (some true) 0 []] ?_;refine sX ?_;refine zBC 0 (zAC (zAx r o)) rfl ?_;refine zBB (fun _:Unit=>_) (fun _ H'=>H'=_) (fun _=>0) () rfl rfl (fun _ H1 hi=>?_);subst hi;dsimp only;refine sX ?_;refine sSA (AV.agg [.int .i64 (zAx r o).kind,.int .i64 (zAx r o).num,AV.str (zAx r o).text,.int .i64 r'.col,.int .i64 r'.row,AV.bool r'.fc,AV.bool r'.fr,.int .i64 o'.col,.int .i64 o'.row,AV.bool o'.fc,AV.bool o'.fr,AV.lst (some true) 0 []]) ?_;exact zAV (o:=0) rfl rfl (zH hP) rfl rfl rfl hO
set_option maxHeartbeats 4000000 in
theorem on_leaf (fr fb:Nat) (cr cb:List AV) (hK:CnH C) (k num:Int) (t:Bs) (r o:RefP) (h5:(k==5)=false) (h6:(k==6)=false) (H:Heap):EFun C GT zBn [cgV fr fb cr cb,ndV (.mk k num t r o [])] H (ndV (.mk k num t r o [])) H:=by
  have hk:=hK;clear hK;refine zI<|sX ?_
  refine sSA (AV.agg zV0) ?_;refine sX ?_;refine sS (AV.lst (some true) 0 []) [.int .i64 (Nd.mk k num t r o []).kind,.int .i64 (Nd.mk k num t r o []).num,AV.str (Nd.mk k num t r o []).text,.int .i64 (Nd.mk k num t r o []).ref.col,.int .i64 (Nd.mk k num t r o []).ref.row,AV.bool (Nd.mk k num t r o []).ref.fc,AV.bool (Nd.mk k num t r o []).ref.fr,.int .i64 (Nd.mk k num t r o []).to.col,.int .i64 (Nd.mk k num t r o []).to.row,AV.bool (Nd.mk k num t r o []).to.fc,AV.bool (Nd.mk k num t r o []).to.fr,AV.lst (some true) 0 []] ?_;refine sX ?_;refine zBC 0 (zAC (.mk k num t r o [])) rfl ?_;refine zBB (fun _:Unit=>_) (fun _ H'=>H'=_) (fun _=>0) () rfl rfl (fun _ H1 hi=>?_);subst hi;dsimp only;refine sX ?_;refine sSA (AV.agg [.int .i64 (Nd.mk k num t r o []).kind,.int .i64 (Nd.mk k num t r o []).num,AV.str (Nd.mk k num t r o []).text,.int .i64 (Nd.mk k num t r o []).ref.col,.int .i64 (Nd.mk k num t r o []).ref.row,AV.bool (Nd.mk k num t r o []).ref.fc,AV.bool (Nd.mk k num t r o []).ref.fr,.int .i64 (Nd.mk k num t r o []).to.col,.int .i64 (Nd.mk k num t r o []).to.row,AV.bool (Nd.mk k num t r o []).to.fc,AV.bool (Nd.mk k num t r o []).to.fr,AV.lst (some true) 0 []]) ?_;exact zAV (o:=0) rfl rfl (zH hP) rfl rfl rfl hO
def CkH (C:CSpec):Prop:=∀ (n:Nd) H,n.kids≠[]->n.kids.length<=1000000->C zu [zGj n] H (.sl (some false) (H.length+1) 12 0 n.kids.length) ((H++[ABlk.row 12 []]).set H.length .dead++[.row 12 (n.kids.map ndV)])
def mixL (c:Chg) (ks:List Nd) (i:Nat):List AV:=(ks.take i).map (fun k=>ndV (onN c k))++(ks.drop i).map ndV
theorem mixL_get {c:Chg} {ks:List Nd} {i:Nat} {k:Nd} (h:ks[i]?=some k):(mixL c ks i)[i]?=some (ndV k):=by
  have hl:=(zg h).1;unfold mixL;rw [zQn (by simp;omega)];simp [zQ4,zR6 (zS6 hl),h]
theorem mixL_set {c:Chg} {ks:List Nd} {i:Nat} {k:Nd} (h:ks[i]?=some k):(mixL c ks i).set i (ndV (onN c k))=mixL c ks (i+1):=by
  have hl:=(zg h).1;have ht:((ks.take i).map fun k=>ndV (onN c k)).length=i:=by simp;omega
  unfold mixL;rw [zRv _ _ (by rw [ht];exact zQU _),ht,Nat.sub_self,zRU hl,zR5,h];rw [zQe,List.set_cons_zero,zSU,zQ5,zQu];rfl
theorem sStoreN {b j:Nat} (m:Nd) {x:Nd} {H:Heap} {xs:List AV} {K:AV->Heap->Prop} (h:H[b]?=some (.row 12 xs)) (hx:xs[j]?=some (ndV x)) (q:K .undef (H.set b (.row 12 (xs.set j (ndV m))))):actP (.store 12) [.ref b 12 j 0,ndV m] H K:=by
  refine sAct ?_ q;have hc:(ndV m).cells.length=12/\(ndV m).cells.all AV.one=true:=⟨rfl,rfl⟩;have he:(ndV m).elem 12=true:=rfl;have hu:zH7 (ndV x) 0 (ndV m)=ndV m:=rfl;simp only [astep,zQQ hc,h,frz_nd,hx];rw [zQQ ⟨trivial,by omega,by omega,he⟩,hu]
theorem sAtN {q:Option Bool} {b k n:Nat} {x:Int} {K:AV->Prop} (j:Nat) (hx:x=(j:Int)) (hj:j<n) (p:K (.ref b k j 0)):idxN k (.sl q b k 0 n) x K:=by
  subst hx;refine sAt ⟨by omega,by omega⟩ ?_;rw [zQy,zQ7];assumption
def zLL (k num:Int) (t:Bs) (r o:RefP) (x:AV):List AV:=[.int .i64 k,.int .i64 num,.str t,.int .i64 r.col,.int .i64 r.row,.bool r.fc,.bool r.fr,.int .i64 o.col,.int .i64 o.row,.bool o.fc,.bool o.fr,x]
set_option maxHeartbeats 4000000 in
theorem on_loop (fr fb:Nat) (cr cb:List AV) (l:List (Nat×ABlk)) (c:Chg) (k num:Int) (t:Bs) (r o:RefP) (ks:List Nd) (hkl:ks.length<=1000000)
    (hS:∀ n∈ks,∀ H,Holds l H->C zAZ [cgV fr fb cr cb,ndV n] H (ndV (onN c n)) H) (H0:Heap) (hh:Holds l H0) (b2 b3 b4 rb:Nat) (B4:List AV) (H1:Heap) {K:Post}
    (hO:Old H0 H1) (h2:H1[b2]?=some (.box (cgV fr fb cr cb).cells)) (h3:H1[b3]?=some (.box (zLL k num t r o (.sl (some false) rb 12 0 ks.length)))) (h4:H1[b4]?=some (.box B4)) (hr:H1[rb]?=some (.row 12 (ks.map ndV))) (hrb:H0.length<=rb)
    (hK:∀ fr' H',zT fr' [4,3]=[(4,.ref b4 0 0 0),(3,.ref b3 0 0 0)]->Old H0 H'->H'[b3]?=some (.box (zLL k num t r o (.sl (some false) rb 12 0 ks.length)))->H'[b4]?=some (.box B4)->H'[rb]?=some (.row 12 (ks.map fun k=>ndV (onN c k)))->K (.exit 1) fr' H') :
    loopP C GT [58,2,3,56,4,57] zGE K [(58,.int .i64 0),(2,.ref b2 0 0 0),(3,.ref b3 0 0 0),(56,.sl (some false) rb 12 0 ks.length),(4,.ref b4 0 0 0),(57,zK ks.length)] H1:=by
  have hne:∀ {H:Heap} {b:Nat} {cs:List AV} {xs:List AV},H[b]?=some (.box cs)->H[rb]?=some (.row 12 xs)->rb≠b:=fun h1 h2 e=>by rw [e,h1] at h2;cases h2
  refine zBB (fun i:Nat=>[(58,zK i),(2,.ref b2 0 0 0),(3,.ref b3 0 0 0),(56,.sl (some false) rb 12 0 ks.length),(4,.ref b4 0 0 0),(57,zK ks.length)])
    (fun i H'=>i<=ks.length/\Old H0 H'/\H'[b2]?=some (.box (cgV fr fb cr cb).cells)/\H'[b3]?=some (.box (zLL k num t r o (.sl (some false) rb 12 0 ks.length)))/\H'[b4]?=some (.box B4)/\H'[rb]?=some (.row 12 (mixL c ks i))) (fun i=>ks.length-i) 0 rfl ⟨by omega,hO,h2,h3,h4,by unfold mixL;simpa using hr⟩ (fun i H2 hi=>?_)
  clear hO h2 h3 h4 hr;obtain ⟨hi,ho,h2,h3,h4,hr⟩:=hi;by_cases hlt:i<ks.length
  · obtain ⟨n,hn⟩:∃ n,ks[i]?=some n:=⟨_,zQS hlt⟩
    have hs:=hS n (zQh hn);have hg:=mixL_get (c:=c) hn;have hst:=mixL_set (c:=c) hn;have d2:=hne h2 hr;have d3:=hne h3 hr;have d4:=hne h4 hr;clear hS hK;have hl0:=ho.1;have hrl:=(zg hr).1;have hb2:=(zg h2).1;have hb3:=(zg h3).1;have hb4:=(zg h4).1;refine sX ?_;refine sAtN i rfl hlt<|zBV i (ndV n) _ rfl hr hg rfl<|sSA (AV.agg (List.take 12 (List.drop 0 (ndV n).cells))) ?_
    refine zA (AV.sl (some false) rb 12 0 ks.length) (zC tA (zF h3)) rfl<|zA (cgV fr fb cr cb) (zC tA (zF h2)) rfl<|zA (AV.agg (List.take 12 (List.drop 0 (ndV n).cells))) hP rfl<|zM (hs _ (hh.old hO))<|sAtN i rfl hlt<|sStoreN (onN c n) hP hg<|zS (r:=i+1) rfl tO ?_
    rw [hst];exact zAP (i+1) rfl ⟨by omega,((ho.push _).set hl0 _).set hrb _,zC tO (zC tO (zF h2)),zC tO (zC tO (zF h3)),zC tO (zC tO (zF h4)),set_atL (by simp;omega)⟩ tO
  · obtain rfl:i=ks.length:=by omega
    have hr':H2[rb]?=some (.row 12 (ks.map fun k=>ndV (onN c k))):=by
      rw [hr];unfold mixL;simp
    have hkk:=fun fr' hf=>hK fr' H2 hf ho h3 h4 hr';clear hK hS;refine sX ?_;exact hkk _ rfl
theorem sRetCellF {F:AF} {a s:Nat} {ag:Bool} {H H1 H2:Heap} {fr:Fr} {v0 v:AV} {cs:List AV} {o:Nat} (hF:F.results=[.cell a s ag]) (hk:F.keep=false) (hp:zAA H1 (zLQ fr a)=some (cs,o)) (hpt:part cs o s ag=some v0)
    (hf:zEE H.length v0 H1=some (v,H2)) (hb:v.bel H.length=true) (ho:Old H H2):retP F H fr H1 v H:=by
  refine sRetF hk ?_ hf hb ho;rw [zFA] at hp;simp only [hF,zBa,zKq,hp,hpt,zQg];rfl
theorem push_atN {A:Heap} {x:ABlk} {b:Nat} (h:b=A.length):(A++[x])[b]?=some x:=by rw [h];exact zB
theorem frz_nodeX {n0 nb m:Nat} {k num:Int} {t:Bs} {r o:RefP} {xs:List AV} {H:Heap} (h:H[nb]?=some (.row 12 xs)) (hn:n0<=nb) (hm:xs.length=m) :
    zEE n0 (.agg (zLL k num t r o (.sl (some false) nb 12 0 m))) H=some (.agg (zLL k num t r o (.lst (some false) 12 xs)),H.set nb (.frz 12 xs)):=by
  subst hm;have:¬ nb<n0:=by omega
  simp only [zLL,zEE,zLP,this,zQt,h];simp [frzQ]
set_option maxHeartbeats 4000000 in
theorem on_node (fr fb:Nat) (cr cb:List AV) (l:List (Nat×ABlk)) (c:Chg) (hK:CkH C) (k num:Int) (t:Bs) (r o:RefP) (ks:List Nd) (hne:ks≠[]) (hkl:ks.length<=1000000) (h5:(k==5)=false) (h6:(k==6)=false)
    (hS:∀ n∈ks,∀ H,Holds l H->C zAZ [cgV fr fb cr cb,ndV n] H (ndV (onN c n)) H) (H:Heap) (hh:Holds l H):EFun C GT zBn [cgV fr fb cr cb,ndV (.mk k num t r o ks)] H (ndV (.mk k num t r o (ks.map (onN c)))) H:=by
  have hxv:zDa (zGj (.mk k num t r o ks)) 12 (ks.map ndV):=zAC (.mk k num t r o ks);have hk:=fun H=>hK (.mk k num t r o ks) H hne hkl;have ev:ndV (.mk k num t r o (ks.map (onN c)))=.agg (zLL k num t r o (.lst (some false) 12 (ks.map fun k=>ndV (onN c k)))):=by
    have e:kxs (.mk k num t r o (ks.map (onN c)))=ks.map fun k=>ndV (onN c k):=by
      show kidL (ks.map (onN c))=_;rw [zJ6,zSF];rfl
    cases ks with
    |nil=>exact absurd rfl hne
    | cons a ks=>
      rw [<-e];rfl
  rw [ev];clear hK ev;refine zI<|sX ?_
  refine sSA (AV.agg zV0) ?_;refine sX ?_;refine sS (AV.sl (some false)   ((List.set         (H++[ABlk.box (cgV fr fb cr cb).cells]++[ABlk.box (ndV (Nd.mk k num t r o ks)).cells] ++             [ABlk.box                 zV2] ++           [ABlk.box               zV2])         (List.length           (H++[ABlk.box (cgV fr fb cr cb).cells]++[ABlk.box (ndV (Nd.mk k num t r o ks)).cells] ++             [ABlk.box                 zV2]))         (ABlk.box           (AV.agg zV0).cells)).length +     1)   12 0 (Nd.mk k num t r o ks).kids.length) [.int .i64 (Nd.mk k num t r o ks).kind,.int .i64 (Nd.mk k num t r o ks).num,AV.str (Nd.mk k num t r o ks).text,.int .i64 (Nd.mk k num t r o ks).ref.col,.int .i64 (Nd.mk k num t r o ks).ref.row,AV.bool (Nd.mk k num t r o ks).ref.fc,AV.bool (Nd.mk k num t r o ks).ref.fr,.int .i64 (Nd.mk k num t r o ks).to.col,.int .i64 (Nd.mk k num t r o ks).to.row,AV.bool (Nd.mk k num t r o ks).to.fc,AV.bool (Nd.mk k num t r o ks).to.fr,AV.sl (some false)   ((List.set         (H++[ABlk.box (cgV fr fb cr cb).cells]++[ABlk.box (ndV (Nd.mk k num t r o ks)).cells] ++             [ABlk.box                 zV2] ++           [ABlk.box               zV2])         (List.length           (H++[ABlk.box (cgV fr fb cr cb).cells]++[ABlk.box (ndV (Nd.mk k num t r o ks)).cells] ++             [ABlk.box                 zV2]))         (ABlk.box           (AV.agg zV0).cells)).length +     1)   12 0 (Nd.mk k num t r o ks).kids.length] ?_;refine sX ?_;refine zHb ?_
  refine on_loop fr fb cr cb l c k num t r o ks hkl hS H hh _ _ _ _ _ _ hO hP hP hP (zC (by simp only [zQZ,zQR,zQO,zQV];omega) (push_atN (by simp only [zQZ,zQR,zQO,zQV]))) (by simp only [zQZ,zQR,zQO,zQV];omega) (fun fr' H' hfr ho h3 h4 hrow=>sBlk hfr ?_);refine sX ?_;refine zL (zLL k num t r o (.sl (some false) _ 12 0 ks.length)) h4 rfl rfl rfl rfl ?_;have hl0:=ho.1;exact sRetCellF (o:=0) rfl rfl (zH (zV h4)) rfl (frz_nodeX (m:=ks.length) (zC (fun e=>by rw [<-e,h4] at hrow;cases hrow) hrow) (by simp only [zQZ,zQR,zQO,zQV];omega) (zQW _)) rfl ((ho.set (by simp only [zQZ,zQR,zQO,zQV];omega) _).set (by simp only [zQZ,zQR,zQO,zQV];omega) _)
end
end Go.AM
set_option maxRecDepth 20000
namespace Go.AM
section
variable {C:CSpec} {GT:Nat->Option AV}
theorem zMc {H:Heap} {q:Option Bool} {n:Nat} {xs:List AV} (u:List UInt8) {K:AV->Heap->Prop} (hu:xs=u.map zo) (hn:n=xs.length) (p:K (.str u) (H++[.row 1 xs])):actP .bytesToStr [.sl q H.length 1 0 n] (H++[.row 1 xs]) K:=by
  subst hn;exact sAct (by simp only [astep,zAo,hu,zK0,zQg]) p
theorem rinw_ev (s:Bs) (b:Bool) (hl:s.length<=1000000) (H:Heap):EFun C GT zNf [.str s,.bool b] H (.str (brk b s)) H:=by
  refine zI ?_;cases b with
  | true => refine zD ?_
            refine zBA (by first|(simp;done)|(simp;omega))<|zBA (by first|(simp;done)|(simp;omega)) ?_
            exact sRv
  | false => refine zG ?_
             exact sRv
theorem rtightn_ev (hT:∀ op H,op<=1000->C zAg [zK op] H (zK (tight op)) H) (n:Nd) (h:n.kind=8->1<=n.num/\n.num<=11) (H:Heap):EFun C GT zJc [ndV n] H (zK (zf n)) H:=by
  have hb:=@zB H (.box (ndV n).cells);refine zI ?_;unfold zf;refine zBr (x:=ndV n) rfl ?_;by_cases hk:n.kind=8
  · obtain ⟨h1,h2⟩:=h hk
    obtain ⟨op,ho⟩:∃ op:Nat,n.num=op:=⟨n.num.toNat,by omega⟩;have ht:=hT op (H++[.box (ndV n).cells]) tO;have e:n.num.toNat=op:=by omega
    rw [zQQ hk,e];have e8:(n.kind==8)=true:=tE hk;have hv:AV.int .i64 n.num=zK op:=by rw [ho];rfl
    clear hT;refine zA (AV.int IntKind.i64 n.kind) zB rfl<|zp e8<|zA (zK op) (by rw [hb]) (by rw [<-hv];rfl)<|sX ?_
    exact sRv
  · have e8:(n.kind==8)=false:=tN hk
    rw [zQN hk];refine sX ?_;exact sRv
theorem signText_ev (op:Nat) (h:1<=op/\op<=11) (H:Heap):EFun C GT zGq [zK op] H (.str (opT op)) H:=by
  have hx:[AV.str [],.str [61],.str [60,62],.str [60],.str [60,61],.str [62],.str [62,61],.str [38],.str [43],.str [45],.str [42],.str [47]][op]?=some (.str (opT op)):=by
    have:op=1\/op=2\/op=3\/op=4\/op=5\/op=6\/op=7\/op=8\/op=9\/op=10\/op=11:=by omega
    rcases this with rfl|rfl|rfl|rfl|rfl|rfl|rfl|rfl|rfl|rfl|rfl <;> rfl
  refine zI<|zAW (vs':=[AV.str [],AV.str [61],AV.str [60,62],AV.str [60],AV.str [60,61],AV.str [62],AV.str [62,61],AV.str [38],AV.str [43],AV.str [45],AV.str [42],AV.str [47]]) rfl rfl<|sAtN op rfl (by show op<12;omega)<|zBV op (.str (opT op)) _ rfl zB hx rfl ?_
  exact sRv
theorem rshow_tru (b:Bool) (H:Heap):EFun C GT zHF [v3 3 (if b=true then 1 else 0)] H (.str (if b then zFz else zDY)) H:=by
  refine zI ?_;cases b
  · refine sX ?_
    exact sRv
  · refine sX ?_
    exact sRv
theorem rshow_bad (hR:∀ H,C zAy [] H (.lst (some false) 1 (wrL.map AV.str)) H) (k:Nat) (h:1<=k/\k<=6) (H:Heap):EFun C GT zHF [v3 4 k] H (.str (wrongs.getD (k-1) [])) H:=by
  have hx:(wrL.map AV.str)[k]?=some (.str (wrongs.getD (k-1) [])):=by
    have:k=1\/k=2\/k=3\/k=4\/k=5\/k=6:=by omega
    rcases this with rfl|rfl|rfl|rfl|rfl|rfl <;> rfl
  refine zI<|sX ?_
  refine sIdx (i:=k) rfl hx<|sX ?_
  exact sRv
abbrev DgH (C:CSpec):Prop:=∀ n:Nat,n<=9223372036854775807->∀ H,C zDH [zK n] H (.str (zF1 n)) H
set_option maxHeartbeats 4000000 in
theorem zMd (hD:DgH C) (c w:Nat) (h:1<=c/\c<=26) (h2:1<=w/\w<=99) (H:Heap):EFun C GT zCj [rV ⟨c,w,true,true⟩] H (.str (zD2 ⟨c,w,true,true⟩)) H:=by
  have hd:=hD w tO;have hl:=(zFj (r:=⟨c,w,true,true⟩) ⟨by simp only;omega,by simp only;omega,by simp only;omega,by simp only;omega⟩).2;have e1:IntKind.i64.wrap (64+(c:Int))=((64+c:Nat):Int):=by rw [IntKind.wrap_i64];omega
  have e2:IntKind.u8.wrap ((64+c:Nat):Int)=(((UInt8.ofNat (64+c)).toNat:Nat):Int):=by rw [IntKind.wrap_u8];first|(simp;done)|(simp;omega)
  have er:zD2 ⟨c,w,true,true⟩=[36]++[UInt8.ofNat (64+c)]++[36]++zF1 w:=rfl;rw [er] at hl ⊢;simp only [zQR,zQO,zQV] at hl;clear hD;refine zI<|sX ?_
  refine zFR e1<|zFR e2<|zAW (vs':=[.int .u8 ↑(UInt8.ofNat (64+c)).toNat]) rfl rfl<|zMc [UInt8.ofNat (64+c)] rfl rfl<|zBA (by first|(simp;done)|(simp;omega))<|sX ?_
  refine zBA (by first|(simp;done)|(simp;omega))<|sX ?_
  refine zBA (by first|(simp;done)|(simp;omega)) ?_;exact sRv
set_option maxHeartbeats 4000000 in
theorem zLM (hD:DgH C) (c w:Nat) (h:1<=c/\c<=26) (h2:1<=w/\w<=99) (H:Heap):EFun C GT zCj [rV ⟨c,w,true,false⟩] H (.str (zD2 ⟨c,w,true,false⟩)) H:=by
  have hd:=hD w tO;have hl:=(zFj (r:=⟨c,w,true,false⟩) ⟨by simp only;omega,by simp only;omega,by simp only;omega,by simp only;omega⟩).2;have e1:IntKind.i64.wrap (64+(c:Int))=((64+c:Nat):Int):=by rw [IntKind.wrap_i64];omega
  have e2:IntKind.u8.wrap ((64+c:Nat):Int)=(((UInt8.ofNat (64+c)).toNat:Nat):Int):=by rw [IntKind.wrap_u8];first|(simp;done)|(simp;omega)
  have er:zD2 ⟨c,w,true,false⟩=[36]++[UInt8.ofNat (64+c)]++[]++zF1 w:=rfl;rw [er] at hl ⊢;simp only [zQR,zQO,zQV] at hl;clear hD;refine zI<|sX ?_
  refine zFR e1<|zFR e2<|zAW (vs':=[.int .u8 ↑(UInt8.ofNat (64+c)).toNat]) rfl rfl<|zMc [UInt8.ofNat (64+c)] rfl rfl<|zBA (by first|(simp;done)|(simp;omega))<|sX ?_
  refine zBA (by first|(simp;done)|(simp;omega)) ?_;exact sRv
set_option maxHeartbeats 4000000 in
theorem zLN (hD:DgH C) (c w:Nat) (h:1<=c/\c<=26) (h2:1<=w/\w<=99) (H:Heap):EFun C GT zCj [rV ⟨c,w,false,true⟩] H (.str (zD2 ⟨c,w,false,true⟩)) H:=by
  have hd:=hD w tO;have hl:=(zFj (r:=⟨c,w,false,true⟩) ⟨by simp only;omega,by simp only;omega,by simp only;omega,by simp only;omega⟩).2;have e1:IntKind.i64.wrap (64+(c:Int))=((64+c:Nat):Int):=by rw [IntKind.wrap_i64];omega
  have e2:IntKind.u8.wrap ((64+c:Nat):Int)=(((UInt8.ofNat (64+c)).toNat:Nat):Int):=by rw [IntKind.wrap_u8];first|(simp;done)|(simp;omega)
  have er:zD2 ⟨c,w,false,true⟩=[]++[UInt8.ofNat (64+c)]++[36]++zF1 w:=rfl;rw [er] at hl ⊢;simp only [zQR,zQO,zQV] at hl;clear hD;refine zI<|sX ?_
  refine zFR e1<|zFR e2<|zAW (vs':=[.int .u8 ↑(UInt8.ofNat (64+c)).toNat]) rfl rfl<|zMc [UInt8.ofNat (64+c)] rfl rfl<|zBA (by first|(simp;done)|(simp;omega))<|sX ?_
  refine zBA (by first|(simp;done)|(simp;omega))<|sX ?_
  refine zBA (by first|(simp;done)|(simp;omega)) ?_;exact sRv
set_option maxHeartbeats 4000000 in
theorem zKX (hD:DgH C) (c w:Nat) (h:1<=c/\c<=26) (h2:1<=w/\w<=99) (H:Heap):EFun C GT zCj [rV ⟨c,w,false,false⟩] H (.str (zD2 ⟨c,w,false,false⟩)) H:=by
  have hd:=hD w tO;have hl:=(zFj (r:=⟨c,w,false,false⟩) ⟨by simp only;omega,by simp only;omega,by simp only;omega,by simp only;omega⟩).2;have e1:IntKind.i64.wrap (64+(c:Int))=((64+c:Nat):Int):=by rw [IntKind.wrap_i64];omega
  have e2:IntKind.u8.wrap ((64+c:Nat):Int)=(((UInt8.ofNat (64+c)).toNat:Nat):Int):=by rw [IntKind.wrap_u8];first|(simp;done)|(simp;omega)
  have er:zD2 ⟨c,w,false,false⟩=[]++[UInt8.ofNat (64+c)]++[]++zF1 w:=rfl;rw [er] at hl ⊢;simp only [zQR,zQO,zQV] at hl;clear hD;refine zI<|sX ?_
  refine zFR e1<|zFR e2<|zAW (vs':=[.int .u8 ↑(UInt8.ofNat (64+c)).toNat]) rfl rfl<|zMc [UInt8.ofNat (64+c)] rfl rfl<|zBA (by first|(simp;done)|(simp;omega))<|sX ?_
  refine zBA (by first|(simp;done)|(simp;omega)) ?_;exact sRv
end
end Go.AM
set_option maxRecDepth 20000
namespace Go.AM
section
variable {C:CSpec} {GT:Nat->Option AV}
abbrev RtH (C:CSpec) (n:Nd):Prop:=∀ H,C zAj [ndV n] H (.str (txt n)) H
structure RshH (C:CSpec):Prop where
  dig:DgH C
  tru:∀ (x:Bool) H,C zFv [.bool x] H (v3 3 (if x=true then 1 else 0)) H
  stru:∀ (x:Bool) H,C zD4 [v3 3 (if x=true then 1 else 0)] H (.str (if x then zFz else zDY)) H
  bad:∀ (k:Nat) H,C zCx [zK k] H (v3 4 k) H
  sbad:∀ (k:Nat),1<=k/\k<=6->∀ H,C zD4 [v3 4 k] H (.str (wrongs.getD (k-1) [])) H
  ref:∀ (r:RefP),okR r->∀ H,C zCc [rV r] H (.str (zD2 r)) H
  inn:∀ (s:Bs) (b:Bool),s.length<=1000000->∀ H,C zFT [.str s,.bool b] H (.str (brk b s)) H
  tightn:∀ (n:Nd),(n.kind=8->1<=n.num/\n.num<=11)->∀ H,C zEl [ndV n] H (zK (zf n)) H
  tight:∀ op H,op<=1000->C zAg [zK op] H (zK (tight op)) H
  sign:∀ (k:Nat),1<=k/\k<=11->∀ H,C zEm [zK k] H (.str (opT k)) H
theorem esc_app:∀ (a b:Bs),esc (a++b)=esc a++esc b
  |[],_=>rfl
  | c::r,b=>by
    rw [zRF,esc,esc,esc_app r b];split <;> simp
theorem esc_take {t:Bs} {i:Nat} {c:UInt8} (h:t[i]?=some c):esc (t.take (i+1))=esc (t.take i)++(if c=34 then [34,34] else [c]):=by
  rw [zR5,h,zSU,esc_app]
  congr 1
theorem esc_take_le (t:Bs) (i:Nat):(esc (t.take i)).length<=(esc t).length:=by
  have h:=esc_app (t.take i) (t.drop i);rw [zSb] at h;rw [h,zQR];omega
theorem rtext_num (S:RshH C) (m:Nat) (h:m<=9223372036854775807) (H:Heap):EFun C GT zAt [ndV (zJ7 m)] H (.str (zF1 m)) H:=by
  have hd:=S.dig m h;refine zI<|sX ?_
  exact sRv
theorem rtext_tru (S:RshH C) (b:Bool) (H:Heap):EFun C GT zAt [ndV (zE5 b)] H (.str (if b then zFz else zDY)) H:=by
  have ht:=S.tru b;have hs:=S.stru b;refine zI<|zBr (x:=ndV (zE5 b)) rfl ?_
  cases b with
  | true => refine zA (AV.int IntKind.i64 (zE5 true).kind) zB rfl ?_
            refine sX ?_;exact zAq rfl rfl rfl rfl hO
  | false => refine zA (AV.int IntKind.i64 (zE5 false).kind) zB rfl ?_
             refine sX ?_;exact sRv
theorem rtext_bad (S:RshH C) (k:Nat) (h:1<=k/\k<=6) (H:Heap):EFun C GT zAt [ndV (zHR k)] H (.str (wrongs.getD (k-1) [])) H:=by
  have ht:=S.bad k;have hs:=S.sbad k h;refine zI<|sX ?_
  exact sRv
theorem rtext_ref (S:RshH C) (r:RefP) (h:okR r) (H:Heap):EFun C GT zAt [ndV (zBz r)] H (.str (zD2 r)) H:=by
  have ht:=S.ref r h;refine zI<|sX ?_
  exact sRv
theorem rtext_box (S:RshH C) (r o:RefP) (h:okR r) (h2:okR o) (H:Heap):EFun C GT zAt [ndV (zAx r o)] H (.str (zD2 r++58::zD2 o)) H:=by
  have ht:=S.ref r h;have ht2:=S.ref o h2;have l1:=(zFj h).2;have l2:=(zFj h2).2;have e:zD2 r++58::zD2 o=(zD2 r++[58])++zD2 o:=by simp
  rw [e];refine zI<|sX ?_
  refine zBA (by first|(simp;done)|(simp;omega)|omega)<|sX ?_
  refine zBA (by first|(simp;done)|(simp;omega)|omega) ?_;exact sRv
theorem rtext_neg (S:RshH C) (n:Nd) (hn:n.kind=8->1<=n.num/\n.num<=11) (hT:RtH C n) (hl:(txt n).length<=1000000) (H:Heap):EFun C GT zAt [ndV (zDJ n)] H (.str (txt (zDJ n))) H:=by
  have ht:∀ H,C zAj [ndV n] H (.str (txt n)) H:=hT;have hi:=S.inn (txt n) (decide (zf n<9)) hl;have hxv:=zAC (zDJ n);have hk:((zDJ n).kids.map ndV)[0]?=some (ndV n):=rfl;have hb:(n.kind==8)=decide (zf n<9):=by
    have:=zDv n.num.toNat;unfold zf;by_cases h:n.kind=8
    · rw [zQQ h,tE h,tT]
    · rw [zQN h,tN h];rfl
  have hbl:=zBh (decide (zf n<9)) (txt n);rw [zE3];rw [<-hb] at hi hbl ⊢;have hbl2:(brk (n.kind==8) (txt n)).length<=1000002:=by rw [hbl];split <;> omega
  refine zI<|sX ?_
  refine zBA (by first|(simp;done)|(simp;omega)|omega) ?_;exact sRv
set_option maxHeartbeats 4000000 in
theorem rtext_two (S:RshH C) (op:Nat) (a b:Nd) (h:1<=op/\op<=11) (ha:a.kind=8->1<=a.num/\a.num<=11) (hb:b.kind=8->1<=b.num/\b.num<=11) (hTa:RtH C a) (hTb:RtH C b) (hl:(txt (zAl op a b)).length<=1000000) (H:Heap):EFun C GT zAt [ndV (zAl op a b)] H (.str (txt (zAl op a b))) H:=by
  have ht:∀ H,C zAj [ndV a] H (.str (txt a)) H:=hTa;have ht2:∀ H,C zAj [ndV b] H (.str (txt b)) H:=hTb;rw [zEY] at hl ⊢;simp only [zQR,zBh] at hl;have t1:=S.tightn a ha;have t2:=S.tightn b hb;have t3:=fun H=>S.tight op H tO;have e1:decide ((zf a:Int)<(tight op:Int))=decide (zf a<tight op):=by rw [zRr];omega
  have e2:decide ((zf b:Int)<=(tight op:Int))=decide (zf b<=tight op):=by rw [zRr];omega
  have i1:=S.inn (txt a) (decide ((zf a:Int)<(tight op:Int))) tO;have i2:=S.inn (txt b) (decide ((zf b:Int)<=(tight op:Int))) tO;rw [<-e1,<-e2];have l1:(brk (decide ((zf a:Int)<(tight op:Int))) (txt a)).length<=1000002:=by rw [zBh];split <;> omega
  have l2:(brk (decide ((zf b:Int)<=(tight op:Int))) (txt b)).length<=1000002:=by rw [zBh];split <;> omega
  have l3:(opT op).length<=1000000:=by omega
  have sg:=S.sign op h;have hxv:=zAC (zAl op a b);have hk:((zAl op a b).kids.map ndV)[0]?=some (ndV a):=rfl;have hk2:((zAl op a b).kids.map ndV)[1]?=some (ndV b):=rfl;clear hTa hTb e1 e2 S;refine zI<|sX ?_
  refine zBA (by first|(simp;done)|(simp;omega)|omega)<|zBA (by rw [zQR] <;> omega) ?_
  exact sRv
set_option maxHeartbeats 4000000 in
theorem rtext_call (t:Bs) (ks:List Nd) (hT:∀ k∈ks,RtH C k) (hkl:ks.length<=1000000) (hl:(txt (zAv t ks)).length<=1000000) (H:Heap):EFun C GT zAt [ndV (zAv t ks)] H (.str (txt (zAv t ks))) H:=by
  have hxv:zDa (zGj (zAv t ks)) 12 (ks.map ndV):=zAC (zAv t ks);have hlm:(ks.map ndV).length=ks.length:=zQW _;rw [zDD] at hl ⊢;simp only [zQR,zQO,zQV] at hl;have e:t++40::zAw (ks.map txt)++[41]=((t++[40])++zAw (ks.map txt))++[41]:=by simp
  rw [e];refine zI<|zBr (x:=ndV (zAv t ks)) rfl<|zA (AV.int IntKind.i64 (zAv t ks).kind) zB rfl<|zG<|zG<|zG<|zG<|zG<|zG<|zG<|zG<|zA (.str t) zB rfl<|zBA (by first|(simp;done)|(simp;omega)|omega) ?_
  refine zBB (fun i:Nat=>[(12,zK i),(1,bR H.length),(11,.str ((t++[40])++zAw ((ks.take i).map txt)))]) (fun i H'=>i<=ks.length/\H'=H++[ABlk.box (ndV (zAv t ks)).cells]) (fun i=>ks.length-i) 0 (by show _=[(12,zK 0),(1,bR H.length),(11,AV.str ((t++[40])++[]))];rw [zRk];rfl) ⟨by omega,rfl⟩ (fun i H1 hi=>?_);obtain ⟨hi,rfl⟩:=hi;by_cases hlt:i<ks.length
  · obtain ⟨k,hk⟩:∃ k,ks[i]?=some k:=⟨_,zQS hlt⟩
    have hkm:(ks.map ndV)[i]?=some (ndV k):=by rw [zQa,hk];rfl
    have hs:∀ H,C zAj [ndV k] H (.str (txt k)) H:=hT k (zQh hk);have hj:=joinC_take hk;have hle:=zMb (ks.map txt) i;have hle2:=zMb (ks.map txt) (i+1);rw [<-List.map_take] at hle hle2;have hjl:=zQb List.length hj;clear hT;by_cases h0:i=0
    · have c0:decide ((i:Int)>0)=false:=tF
      rw [zQQ h0] at hj hjl;have en:AV.str ((t++[40])++zAw ((ks.take i).map txt)++txt k)=.str ((t++[40])++zAw ((ks.take (i+1)).map txt)):=by rw [hj,h0];simp [zAw]
      refine sX ?_;refine zBA (by simp only [zQR,zQO,zQV];omega)<|zS (r:=i+1) rfl tO ?_
      rw [en];exact zAP (i+1) rfl ⟨by omega,rfl⟩ tO
    · have c0:decide ((i:Int)>0)=true:=tT
      rw [zQN h0] at hj hjl;simp only [zQR,zQO] at hjl;have en:AV.str ((t++[40])++zAw ((ks.take i).map txt)++[44]++txt k)=.str ((t++[40])++zAw ((ks.take (i+1)).map txt)):=by rw [hj];simp
      refine sX ?_;refine zBA (by simp only [zQR,zQO,zQV];omega) ?_;refine sX ?_;refine zBA (by simp only [zQR,zQO,zQV];omega) ?_;refine zS (r:=i+1) rfl tO ?_;rw [en];exact zAP (i+1) rfl ⟨by omega,rfl⟩ tO
  · obtain rfl:i=ks.length:=by omega
    rw [zRs];refine sX ?_;refine zBA (by simp only [zQR,zQO,zQV];omega) ?_;exact sRv
set_option maxHeartbeats 4000000 in
theorem rtext_txt (t:Bs) (hl:t.length<=1000000) (H:Heap):EFun C GT zAt [ndV (zHP t)] H (.str (txt (zHP t))) H:=by
  have hel:∀ i,(esc (t.take i)).length<=2*t.length:=fun i=>by
    have h1:=esc_take_le t i;have h2:∀ u:Bs,(esc u).length<=2*u.length:=fun u=>by
      induction u with
      |nil=>exact zQU _
      |cons c r ih=>unfold esc;split <;> simp only [zQO] <;> omega
    have:=h2 t;omega
  rw [zLI];refine zI<|zBr (x:=ndV (zHP t)) rfl ?_
  obtain ⟨H0,e0⟩:∃ H0,H++[ABlk.box (ndV (zHP t)).cells]=H0:=⟨_,rfl⟩;have hbn:H0[H.length]?=some (.box (ndV (zHP t)).cells):=by rw [<-e0];exact zB
  have hO0:Old H H0:=by rw [<-e0];exact (Old.refl H).push _
  rw [e0];clear e0;refine sX ?_;refine zAW (vs':=[.int .u8 34]) rfl rfl ?_;refine zBt (H0:=H0) (Owns.nil _ _ _) ((Old.refl H0).push _) zAo tO (by simp) (by simp) fun v1 H1 ho1 hO1 _ _=>?_;refine zBB (fun s:Nat×AV=>[(4,zK s.1),(1,bR H.length),(3,s.2)]) (fun s H'=>s.1<=t.length/\Owns H0 H' s.2 1 ((34::esc (t.take s.1)).map zo)/\Old H0 H') (fun s=>t.length-s.1) (0,v1) rfl ⟨by omega,ho1,hO1⟩ (fun s H2 hi=>?_);obtain ⟨i,v⟩:=s;obtain ⟨hi,ho,hO⟩:=hi;simp only at hi ho;have hl1:=hel i;have hb2:H2[H.length]?=some (.box (ndV (zHP t)).cells):=by rw [hO.2 _ (zg hbn).1];exact hbn
  by_cases hlt:i<t.length
  · obtain ⟨c,hc⟩:∃ c,t[i]?=some c:=⟨_,zQS hlt⟩
    have he:=esc_take hc;by_cases h34:c=34
    · have e1:((c.toNat:Int)==34)=true:=by rw [h34];rfl
      have hx:((34::esc (t.take i)).map zo++[zo 34])++[zo c]=(34::esc (t.take (i+1))).map zo:=by rw [he,zQQ h34,h34];simp
      refine zA (.str t) hb2 rfl<|zp tT<|zA (.str t) hb2 rfl<|zCB (i:=i) rfl hc<|sX ?_
      refine zAW (vs':=[.int .u8 34]) rfl rfl<|zBt (H0:=H0) (ho.push _) (hO.push _) zAo tO (by simp;omega) (by simp) fun v3 H3 ho3 hO3 hbk3 hf3=>?_
      have hb3:H3[H.length]?=some (.box (ndV (zHP t)).cells):=by rw [hO3.2 _ (zg hbn).1];exact hbn
      refine zA (.str t) hb3 rfl ?_;refine zCB (i:=i) rfl hc ?_;refine zAW (vs':=[zo c]) rfl rfl ?_;refine zBt (H0:=H0) (ho3.push _) (hO3.push _) zAo tO (by simp;omega) (by simp) fun v4 H4 ho4 hO4 hbk4 hf4=>?_;refine zS (r:=i+1) rfl tO ?_;exact zAP (i+1,v4) rfl ⟨by simp only;omega,by rw [<-hx];exact ho4,hO4⟩ (by simp only;omega)
    · have e1:((c.toNat:Int)==34)=false:=tN (fun e=>h34 (by
        have:c.toNat=34:=by omega
        rw [<-UInt8.toNat_inj];exact this))
      have hx:(34::esc (t.take i)).map zo++[zo c]=(34::esc (t.take (i+1))).map zo:=by rw [he,zQN h34];simp
      refine zA (.str t) hb2 rfl ?_;refine zp tT ?_;refine zA (.str t) hb2 rfl ?_;refine zCB (i:=i) rfl hc ?_;refine zk e1 ?_;refine zA (.str t) hb2 rfl ?_;refine zCB (i:=i) rfl hc ?_;refine zAW (vs':=[zo c]) rfl rfl ?_;refine zBt (H0:=H0) (ho.push _) (hO.push _) zAo tO (by simp;omega) (by simp) fun v4 H4 ho4 hO4 hbk4 hf4=>?_;refine zS (r:=i+1) rfl tO ?_;exact zAP (i+1,v4) rfl ⟨by simp only;omega,by rw [<-hx];exact ho4,hO4⟩ (by simp only;omega)
  · obtain rfl:i=t.length:=by omega
    rw [zRs] at ho hl1;have hx:(34::esc t).map zo++[zo 34]=(34::esc t++[34]).map zo:=by simp
    refine zA (.str t) hb2 rfl<|sW ?_
    refine zAW (vs':=[.int .u8 34]) rfl rfl<|zBt (H0:=H0) (ho.push _) (hO.push _) zAo tO (by simp;omega) (by simp) fun v4 H4 ho4 hO4 hbk4 hf4=>?_
    have ho4:Owns H0 H4 v4 1 ((34::esc t++[34]).map zo):=by rw [<-hx];exact ho4
    refine zHd ho4 ?_;exact zAq rfl rfl rfl rfl (hO0.trans hO4)
end
end Go.AM
set_option maxRecDepth 20000
namespace Go.AM
def refB (r s:RefP):Bool:=(r.col==s.col)&&((r.row==s.row)&&((r.fc==s.fc)&&((r.fr==s.fr)&&true)))
def topB (n m:Nd):Bool:=(n.kind==m.kind)&&((n.num==m.num)&&((n.text==m.text)&&(refB n.ref m.ref&&refB n.to m.to)))
mutual
def eqN:Nd->Nd->Bool
  |.mk k n t r o ks,m=>topB (.mk k n t r o ks) m&&eqNs ks m.kids
def eqNs:List Nd->List Nd->Bool
  |[],ls=>ls.isEmpty
  | a::r,ls=>match ls with
    |[]=>false
    |b::s=>eqN a b&&eqNs r s
end
theorem eqN_is (n m:Nd):eqN n m=(topB n m&&eqNs n.kids m.kids):=by cases n;rw [eqN];rfl
theorem eqNs_len:∀ {ks ls:List Nd},eqNs ks ls=true->ks.length=ls.length
  |[],[],_=>rfl
  |[],_::_,h=>by simp [eqNs] at h
  |_::_,[],h=>by simp [eqNs] at h
  | a::r,b::s,h=>by
    rw [eqNs,zQP] at h;rw [zQO,zQO,eqNs_len h.2]
theorem eqNs_drop {ks ls:List Nd} {i:Nat} {k l:Nd} (h:ks[i]?=some k) (h2:ls[i]?=some l):eqNs (ks.drop i) (ls.drop i)=(eqN k l&&eqNs (ks.drop (i+1)) (ls.drop (i+1))):=by
  have a:=(zg h);have b:=(zg h2);obtain ⟨a1,a2⟩:=a;obtain ⟨b1,b2⟩:=b;rw [zRU a1,zRU b1,a2,b2,eqNs]
section
variable {C:CSpec} {GT:Nat->Option AV}
set_option maxHeartbeats 4000000 in
theorem same2_ev (n m:Nd) (b:Bool) (hE:∀ H,C zd [zGj n,zGj m,.fn zAf [] []] H (.bool b) H) (H:Heap):EFun C GT zPR [ndV n,ndV m] H (.bool (topB n m&&b)) H:=by
  refine zI<|zBr (x:=ndV n) rfl<|zBr (x:=ndV m) rfl ?_
  unfold topB;cases e1:(n.kind==m.kind) with
  | false => refine zA (AV.int IntKind.i64 n.kind) hP rfl ?_
             refine sX ?_;exact zAq rfl rfl rfl rfl hO
  | true=>
    cases e2:(n.num==m.num) with
    | false => refine zA (AV.int IntKind.i64 n.kind) hP rfl ?_
               refine sX ?_;exact zAq rfl rfl rfl rfl hO
    | true=>
      cases e3:(n.text==m.text) with
      | false => refine zA (AV.int IntKind.i64 n.kind) hP rfl ?_
                 refine sX ?_;exact sRv
      | true=>
        cases e4:refB n.ref m.ref with
        | false=>
          have e4':negB false ((n.ref.col==m.ref.col)&&((n.ref.row==m.ref.row)&&((n.ref.fc==m.ref.fc)&&((n.ref.fr==m.ref.fr)&&true))))=false:=e4;refine zA (AV.int IntKind.i64 n.kind) hP rfl<|zA (AV.int IntKind.i64 m.kind) zB rfl<|zp e1<|zA (AV.int IntKind.i64 n.num) hP rfl<|zA (AV.int IntKind.i64 m.num) zB rfl<|zD<|zp e2<|zA (AV.str n.text) hP rfl<|zA (AV.str m.text) zB rfl<|zD<|zp e3<|zA (AV.agg [.int .i64 n.ref.col,.int .i64 n.ref.row,AV.bool n.ref.fc,AV.bool n.ref.fr]) hP rfl<|zA (AV.agg [.int .i64 m.ref.col,.int .i64 m.ref.row,AV.bool m.ref.fc,AV.bool m.ref.fr]) zB rfl<|zy rfl<|zD<|zk e4'<|sX ?_
          exact sRv
        | true=>
          have e4':negB false ((n.ref.col==m.ref.col)&&((n.ref.row==m.ref.row)&&((n.ref.fc==m.ref.fc)&&((n.ref.fr==m.ref.fr)&&true))))=true:=e4;cases e5:refB n.to m.to with
          | false=>
            have e5':negB false ((n.to.col==m.to.col)&&((n.to.row==m.to.row)&&((n.to.fc==m.to.fc)&&((n.to.fr==m.to.fr)&&true))))=false:=e5;refine zA (AV.int IntKind.i64 n.kind) hP rfl<|zA (AV.int IntKind.i64 m.kind) zB rfl<|zp e1<|zA (AV.int IntKind.i64 n.num) hP rfl<|zA (AV.int IntKind.i64 m.num) zB rfl<|zD<|zp e2<|zA (AV.str n.text) hP rfl<|zA (AV.str m.text) zB rfl<|zD<|zp e3<|zA (AV.agg [.int .i64 n.ref.col,.int .i64 n.ref.row,AV.bool n.ref.fc,AV.bool n.ref.fr]) hP rfl<|zA (AV.agg [.int .i64 m.ref.col,.int .i64 m.ref.row,AV.bool m.ref.fc,AV.bool m.ref.fr]) zB rfl<|zy rfl<|zD<|zp e4'<|zA (AV.agg [.int .i64 n.to.col,.int .i64 n.to.row,AV.bool n.to.fc,AV.bool n.to.fr]) hP rfl ?_
            refine zA (AV.agg [.int .i64 m.to.col,.int .i64 m.to.row,AV.bool m.to.fc,AV.bool m.to.fr]) zB rfl<|zy rfl<|zD<|zk e5'<|sX ?_
            exact sRv
          | true=>
            have e5':negB false ((n.to.col==m.to.col)&&((n.to.row==m.to.row)&&((n.to.fc==m.to.fc)&&((n.to.fr==m.to.fr)&&true))))=true:=e5;refine zA (AV.int IntKind.i64 n.kind) hP rfl<|zA (AV.int IntKind.i64 m.kind) zB rfl<|zp e1<|zA (AV.int IntKind.i64 n.num) hP rfl<|zA (AV.int IntKind.i64 m.num) zB rfl<|zD<|zp e2<|zA (AV.str n.text) hP rfl<|zA (AV.str m.text) zB rfl<|zD<|zp e3<|zA (AV.agg [.int .i64 n.ref.col,.int .i64 n.ref.row,AV.bool n.ref.fc,AV.bool n.ref.fr]) hP rfl<|zA (AV.agg [.int .i64 m.ref.col,.int .i64 m.ref.row,AV.bool m.ref.fc,AV.bool m.ref.fr]) zB rfl<|zy rfl<|zD<|zp e4'<|zA (AV.agg [.int .i64 n.to.col,.int .i64 n.to.row,AV.bool n.to.fc,AV.bool n.to.fr]) hP rfl ?_
            refine zA (AV.agg [.int .i64 m.to.col,.int .i64 m.to.row,AV.bool m.to.fc,AV.bool m.to.fr]) zB rfl<|zy rfl<|zD<|zp e5'<|sX ?_
            exact sRv
set_option maxHeartbeats 4000000 in
theorem equal2_ev (xv yv:AV) (ks ls:List Nd) (hxv:zDa xv 12 (ks.map ndV)) (hyv:zDa yv 12 (ls.map ndV)) (hl:ks.length<=1000000) (hS:∀ k∈ks,∀ l H,C zAf [ndV k,ndV l] H (.bool (eqN k l)) H) (H:Heap) :
    EFun C GT zAN [xv,yv,.fn zAf [] []] H (.bool (eqNs ks ls)) H:=by
  have hlm:(ks.map ndV).length=ks.length:=zQW _;have hlm2:(ls.map ndV).length=ls.length:=zQW _;refine zI ?_;by_cases hne:ks.length=ls.length
  · refine sX ?_
    refine zk (zQo.2 tO)<|sX ?_
    refine zBB (fun i:Nat=>[(17,zK i),(2,.fn zAf [] []),(1,yv),(15,xv),(16,zK ks.length)]) (fun i H'=>Old H H'/\i<=ks.length/\eqNs (ks.drop i) (ls.drop i)=eqNs ks ls) (fun i=>ks.length-i) 0 rfl ⟨Old.refl _,by omega,rfl⟩ (fun i H1 hi=>?_);obtain ⟨hO,hi,hq⟩:=hi;dsimp only;by_cases hlt:i<ks.length
    · obtain ⟨k,hk⟩:∃ k,ks[i]?=some k:=⟨_,zQS hlt⟩
      obtain ⟨l,hl2⟩:∃ l,ls[i]?=some l:=⟨_,zQS tO⟩;have hkm:(ks.map ndV)[i]?=some (ndV k):=by rw [zQa,hk];rfl
      have hkm2:(ls.map ndV)[i]?=some (ndV l):=by rw [zQa,hl2];rfl
      have hs:=hS k (zQh hk) l;rw [eqNs_drop hk hl2] at hq;clear hS;cases e:eqN k l with
      | true=>
        rw [e] at hs hq;refine sX ?_;refine sSA (ndV k) ?_;refine sX ?_;refine sSA (ndV l) ?_;refine sX ?_;refine zS (r:=i+1) rfl tO ?_;refine zAP (i+1) rfl ⟨(((hO.push _).set hO.1 _).push _).set (by rw [zQZ,zQR];have:=hO.1;omega) _,by omega,hq⟩ tO
      | false=>
        rw [e] at hs hq;rw [<-hq];refine sX ?_;refine sSA (ndV k) ?_;refine sX ?_;refine sSA (ndV l) ?_;refine sX ?_;exact zAq rfl rfl rfl rfl ((((hO.push _).set hO.1 _).push _).set (by rw [zQZ,zQR];have:=hO.1;omega) _)
    · rw [zRD tO,zRD tO] at hq
      rw [<-hq];refine sX ?_;exact sRv
  · have e:eqNs ks ls=false:=by
      cases e:eqNs ks ls with
      |false=>rfl
      |true=>exact absurd (eqNs_len e) hne
    rw [e];refine sX ?_;refine zp (zQ8.2 tO) ?_;exact sRv
theorem same2_all (hS:∀ n m b,(∀ H,C zd [zGj n,zGj m,.fn zAf [] []] H (.bool b) H)->∀ H,C zAf [ndV n,ndV m] H (.bool (topB n m&&b)) H)
    (hE:∀ (xv yv:AV) (ks ls:List Nd),zDa xv 12 (ks.map ndV)->zDa yv 12 (ls.map ndV)->ks.length<=1000000->(∀ k∈ks,∀ l H,C zAf [ndV k,ndV l] H (.bool (eqN k l)) H)->∀ H,C zd [xv,yv,.fn zAf [] []] H (.bool (eqNs ks ls)) H)
    {x:Bool} {n:Nd} (h:Wf x n):(txt n).length<=1000->∀ m H,C zAf [ndV n,ndV m] H (.bool (eqN n m)) H:=by
  have node:∀ n:Nd,n.kids.length<=1000000->(∀ k∈n.kids,∀ l H,C zAf [ndV k,ndV l] H (.bool (eqN k l)) H)->∀ m H,C zAf [ndV n,ndV m] H (.bool (eqN n m)) H:=fun n hl hk m=>by
    rw [eqN_is];exact hS n m _ (hE _ _ n.kids m.kids (zAC n) (zAC m) hl hk)
  have leaf:∀ n:Nd,n.kids=[]->∀ m H,C zAf [ndV n,ndV m] H (.bool (eqN n m)) H:=fun n hk=>node n (by rw [hk];simp) (by rw [hk];simp);induction h with
  |num _ n h=>exact fun _=>leaf _ rfl
  |txt _ t=>exact fun _=>leaf _ rfl
  |tru _ b=>exact fun _=>leaf _ rfl
  |bad _ k h=>exact fun _=>leaf _ rfl
  |ref _ r h=>exact fun _=>leaf _ rfl
  |box r o h k=>exact fun _=>leaf _ rfl
  | neg _ n h ih=>
    intro hl;rw [zE3] at hl;simp only [zQO,zBh] at hl;refine node _ (by show [n].length<=1000000;simp) fun k hk=>?_;have hk:k∈[n]:=hk;rw [zQ1.1 hk];exact ih tO
  | two _ op a b h ha hb iha ihb=>
    intro hl;rw [zEY] at hl;simp only [zQR,zBh] at hl;refine node _ (by show [a,b].length<=1000000;simp) fun k hk=>?_;have hk:k∈[a,b]:=hk;rcases zRQ.1 hk with rfl|hk
    · exact iha tO
    · rw [zQ1.1 hk]
      exact ihb tO
  | call _ t ks h hk ih=>
    intro hl;rw [zDD] at hl;simp only [zQR,zQO] at hl;have hj:=zF2 (ks.map txt);refine node _ (by show ks.length<=1000000;have:=hj.1;rw [zQW] at this;omega) fun k hk'=>?_;have hk':k∈ks:=hk';exact ih k hk' (by have:=hj.2 (txt k) (zRf hk');omega)
end
end Go.AM
