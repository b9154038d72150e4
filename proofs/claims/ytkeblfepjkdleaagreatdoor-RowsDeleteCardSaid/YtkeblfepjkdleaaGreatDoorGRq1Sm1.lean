/- Several texts of mine in one (Rq1, On2, Rq2, Rq3, Sm1). Own work. -/
import Derived.Test.YtkeblfepjkdleaaGreatDoorGAm30Fp1
import Derived.Test.YtkeblfepjkdleaaGreatDoorGOn0Pr3
import Derived.Test.YtkeblfepjkdleaaGreatDoorAc
import Derived.Test.YtkeblfepjkdleaaGreatDoorGAm31Rf1
import Derived.Test.YtkeblfepjkdleaaGreatDoorGRt2Kd
set_option maxHeartbeats 4000000
set_option maxRecDepth 20000
set_option linter.all false
namespace Go.AM
section
variable {C:CSpec} {GT:zG_}
abbrev RcH (C:CSpec) (n:Nd):Prop:=∀ (l:Nat) H,cnt n<=l->l<=1000000->C zEp [ndV n,zK l] H (zK (cnt n)) H
theorem zcp (n:Nd) (hS:∀ k∈n.kids,RcH C k) (hkl:n.kids.length<=1000000) (l:Nat) (H:Heap) (hl:cnt n<=l) (hl2:l<=1000000):EFun C GT zJr [ndV n,zK l] H (zK (cnt n)) H:=by
  have hxv:=zAE n;have hlm:(n.kids.map ndV).length=n.kids.length:=zlM _;have e0:((0:Nat):Int)=0:=rfl;rw [zgx] at hl ⊢;have hnb:(H++[ABlk.box (ndV n).cells])[H.length]?=some (.box (ndV n).cells):=zB;refine zJ<|zCR (x:=ndV n) rfl<|zi (tF) ?_
  refine zBG (fun i:Nat=>[(6,zK i),(5,zK (1+cnts (n.kids.take i))),(1,zK l),(2,bR H.length)]) (fun i H'=>i<=n.kids.length/\H'=H++[ABlk.box (ndV n).cells]) (fun i=>n.kids.length-i) 0 rfl ⟨by omega,rfl⟩ (fun i H1 hi=>?_);obtain ⟨hi,rfl⟩:=hi;have hle:=zTP n.kids i;have c2:decide (((1+cnts (n.kids.take i):Nat):Int)<=(l:Int))=true:=tT;by_cases hlt:i<n.kids.length
  · obtain ⟨k,hk⟩:∃ k,n.kids[i]?=some k:=⟨_,zlI hlt⟩
    have hkm:(n.kids.map ndV)[i]?=some (ndV k):=by rw [zlQ,hk];rfl
    have ht:=zU6 hk;have hle2:=zTP n.kids (i+1);have hs:=hS k (zlX hk) (l-(1+cnts (n.kids.take i))) (H++[ABlk.box (ndV n).cells]) tO tO;have e3:1+cnts (n.kids.take i)+cnt k=1+cnts (n.kids.take (i+1)):=by omega
    clear hS;refine sX ?_;refine zS (r:=l-(1+cnts (n.kids.take i))) tO tO<|sX ?_
    refine zS (r:=1+cnts (n.kids.take (i+1))) tO tO<|zS (r:=i+1) rfl tO ?_
    exact zAR (i+1) rfl ⟨by omega,rfl⟩ tO
  · obtain rfl:i=n.kids.length:=by omega
    have e5:zK (1+cnts n.kids)=zK (1+cnts (n.kids.take n.kids.length)):=by rw [zmi]
    clear hS;rw [e5];refine sX ?_;exact sRv
abbrev RfH (C:CSpec) (x:Bool) (n:Nd):Prop:=∀ H,C zAO [ndV n,.bool x] H (.bool true) H
abbrev InH (C:CSpec):Prop:=∀ c r H,C zBo [zCx c r] H (.bool (okC c r)) H
theorem zcq (x:Bool) (m:Nat) (H:Heap):EFun C GT zAQ [ndV (zKP m),.bool x] H (.bool true) H:=by
  have c1:decide ((zKP m).num>=0)=true:=tT (by show (0:Int)<=(m:Int);omega);have hxv:=zAE (zKP m);refine zJ<|zCR (x:=ndV (zKP m)) rfl<|sW ?_
  refine zBH 0 hxv rfl<|sW ?_
  exact zAv rfl rfl rfl rfl ((Old.refl _).push _)
theorem zcr (x:Bool) (t:Bs) (H:Heap):EFun C GT zAQ [ndV (zHd t),.bool x] H (.bool true) H:=by
  have hxv:=zAE (zHd t);refine zJ<|zCR (x:=ndV (zHd t)) rfl ?_
  cases e:((zHd t).text==([]:Bs)) with
  | true => refine zA (.agg [.int .i64 (zHd t).ref.col,.int .i64 (zHd t).ref.row,.bool (zHd t).ref.fc,.bool (zHd t).ref.fr]) zB rfl ?_
            refine sW ?_;refine zBH 0 hxv rfl<|sW ?_
            refine zBH 0 hxv rfl<|sW ?_
            exact zAv rfl rfl rfl rfl ((Old.refl _).push _)
  | false => refine zA (.agg [.int .i64 (zHd t).ref.col,.int .i64 (zHd t).ref.row,.bool (zHd t).ref.fc,.bool (zHd t).ref.fr]) zB rfl ?_
             refine sW ?_;refine zBH 0 hxv rfl<|sW ?_
             exact zAv rfl rfl rfl rfl ((Old.refl _).push _)
theorem zRR (x:Bool) (H:Heap):EFun C GT zAQ [ndV (zFC true),.bool x] H (.bool true) H:=by
  have hxv:=zAE (zFC true);refine zJ<|zCR (x:=ndV (zFC true)) rfl<|sW ?_
  refine zBH 0 hxv rfl<|sW ?_
  exact zAv rfl rfl rfl rfl ((Old.refl _).push _)
theorem zQe (x:Bool) (H:Heap):EFun C GT zAQ [ndV (zFC false),.bool x] H (.bool true) H:=by
  have hxv:=zAE (zFC false);refine zJ<|zCR (x:=ndV (zFC false)) rfl<|sW ?_
  refine zBH 0 hxv rfl<|sW ?_
  exact zAv rfl rfl rfl rfl ((Old.refl _).push _)
theorem zcs (x:Bool) (k:Nat) (h:1<=k/\k<=6) (H:Heap):EFun C GT zAQ [ndV (zHg k),.bool x] H (.bool true) H:=by
  have c1:decide ((zHg k).num>=1)=true:=tT (by show (1:Int)<=(k:Int);omega);have c2:decide ((zHg k).num<=6)=true:=tT (by show (k:Int)<=6;omega);have hxv:=zAE (zHg k);refine zJ<|zCR (x:=ndV (zHg k)) rfl<|sW ?_
  refine zBH 0 hxv rfl<|sW ?_
  exact zHO (v0:=.bool (decide ((zHg k).num<=6))) (by rw [c2]) rfl rfl rfl rfl hO
theorem zct (hI:InH C) (x:Bool) (r:RefP) (h:okC r.col r.row=true) (H:Heap):EFun C GT zAQ [ndV (zB3 r),.bool x] H (.bool true) H:=by
  have h0:(r.col==(0:Int))=false:=by
    unfold okC at h;simp only [zlG,zlV] at h;exact tN
  have c1:zTa false ((r.col==0)&&((r.row==0)&&((r.fc==false)&&((r.fr==false)&&true))))=false:=by rw [h0];rfl
  have ha:=hI r.col r.row;rw [h] at ha;have hxv:=zAE (zB3 r);refine zJ<|zCR (x:=ndV (zB3 r)) rfl<|zA (.agg [.int .i64 (zB3 r).ref.col,.int .i64 (zB3 r).ref.row,.bool (zB3 r).ref.fc,.bool (zB3 r).ref.fr]) zB rfl<|zx (v:=zP) rfl<|zx rfl<|zi c1<|zG<|zA (.str (zB3 r).text) zB rfl<|zE<|zA (.lst (some (zB3 r).kq) (zB3 r).kk (kxs (zB3 r))) zB rfl<|zBH 0 hxv rfl<|zE<|zA (.int IntKind.i64 (zB3 r).kind) zB rfl<|zG<|zG<|zG<|zG<|zE<|zE<|zA (.int IntKind.i64 (zB3 r).num) zB rfl ?_
  refine zE<|zE<|zA (.agg [.int .i64 (zB3 r).to.col,.int .i64 (zB3 r).to.row,.bool (zB3 r).to.fc,.bool (zB3 r).to.fr]) zB rfl<|zx (v:=zP) rfl<|zx rfl<|zE<|zE<|zA (.agg [.int .i64 (zB3 r).ref.col,.int .i64 (zB3 r).ref.row]) zB rfl<|zM (ha _)<|zE ?_
  exact zAv rfl rfl rfl rfl ((Old.refl _).push _)
theorem zcu (hI:InH C) (r o:RefP) (h:okC r.col r.row=true) (h2:okC o.col o.row=true) (H:Heap):EFun C GT zAQ [ndV (zA2 r o),.bool true] H (.bool true) H:=by
  have h0:(r.col==(0:Int))=false:=by
    unfold okC at h;simp only [zlG,zlV] at h;exact tN
  have c1:zTa false ((r.col==0)&&((r.row==0)&&((r.fc==false)&&((r.fr==false)&&true))))=false:=by rw [h0];rfl
  have ha:=hI r.col r.row;rw [h] at ha;have ha2:=hI o.col o.row;rw [h2] at ha2;have hxv:=zAE (zA2 r o);refine zJ<|zCR (x:=ndV (zA2 r o)) rfl<|zA (.agg [.int .i64 (zA2 r o).ref.col,.int .i64 (zA2 r o).ref.row,.bool (zA2 r o).ref.fc,.bool (zA2 r o).ref.fr]) zB rfl<|zx (v:=zP) rfl<|zx rfl<|zi c1<|zG<|zA (.str (zA2 r o).text) zB rfl<|zE<|zA (.lst (some (zA2 r o).kq) (zA2 r o).kk (kxs (zA2 r o))) zB rfl<|zBH 0 hxv rfl<|zE<|zA (.int IntKind.i64 (zA2 r o).kind) zB rfl<|zG<|zG<|zG<|zG<|zG<|zE<|zE<|zE<|zE<|zA (.int IntKind.i64 (zA2 r o).num) zB rfl ?_
  refine zE<|zE<|zA (.agg [.int .i64 (zA2 r o).ref.col,.int .i64 (zA2 r o).ref.row]) zB rfl<|zM (ha _)<|zE<|zE<|zA (.agg [.int .i64 (zA2 r o).to.col,.int .i64 (zA2 r o).to.row]) zB rfl<|zM (ha2 _)<|zE ?_
  exact zAv rfl rfl rfl rfl ((Old.refl _).push _)
theorem zcv (x:Bool) (n:Nd) (hF:RfH C false n) (H:Heap):EFun C GT zAQ [ndV (zDO n),.bool x] H (.bool true) H:=by
  have hf:∀ H,C zAO [ndV n,.bool false] H (.bool true) H:=hF;have hk:((zDO n).kids.map ndV)[0]?=some (ndV n):=rfl;clear hF;have hxv:=zAE (zDO n);refine zJ<|zCR (x:=ndV (zDO n)) rfl<|zA (.agg [.int .i64 (zDO n).ref.col,.int .i64 (zDO n).ref.row,.bool (zDO n).ref.fc,.bool (zDO n).ref.fr]) zB rfl<|zx (v:=zP) rfl<|zx rfl<|zE<|zA (.agg [.int .i64 (zDO n).to.col,.int .i64 (zDO n).to.row,.bool (zDO n).to.fc,.bool (zDO n).to.fr]) zB rfl<|zx (v:=zP) rfl<|zx rfl<|zE<|zA (.str (zDO n).text) zB rfl ?_
  refine zE<|zA (.lst (some (zDO n).kq) (zDO n).kk (kxs (zDO n))) zB rfl<|zBH 1 hxv rfl<|zE<|zA (.int IntKind.i64 (zDO n).kind) zB rfl<|zG<|zG<|zG<|zG<|zG<|zG<|zE<|zE<|zA (.str (zDO n).text) zB rfl<|zE<|zE<|zA (.int IntKind.i64 (zDO n).num) zB rfl<|zE<|zE<|zA (.lst (some (zDO n).kq) (zDO n).kk (kxs (zDO n))) zB rfl<|zBH 1 hxv rfl<|zE<|zE<|zA (.lst (some (zDO n).kq) (zDO n).kk (kxs (zDO n))) zB rfl<|zFD 0 (ndV n) hxv rfl hk<|zA9 (ndV n) rfl<|zM (hf _)<|zE ?_
  exact zAv rfl rfl rfl rfl ((Old.refl _).push _)
theorem zcw (x:Bool) (op:Nat) (a b:Nd) (h:1<=op/\op<=11) (hFa:RfH C false a) (hFb:RfH C false b) (H:Heap):EFun C GT zAQ [ndV (zAr op a b),.bool x] H (.bool true) H:=by
  have hf:∀ H,C zAO [ndV a,.bool false] H (.bool true) H:=hFa;have hf2:∀ H,C zAO [ndV b,.bool false] H (.bool true) H:=hFb;have hk:((zAr op a b).kids.map ndV)[0]?=some (ndV a):=rfl;have hk2:((zAr op a b).kids.map ndV)[1]?=some (ndV b):=rfl;have c1:decide ((zAr op a b).num>=1)=true:=tT (by show (1:Int)<=(op:Int);omega);have c2:decide ((zAr op a b).num<=11)=true:=tT (by show (op:Int)<=11;omega);clear hFa hFb;have hxv:=zAE (zAr op a b);refine zJ<|zCR (x:=ndV (zAr op a b)) rfl<|zA (.agg [.int .i64 (zAr op a b).ref.col,.int .i64 (zAr op a b).ref.row,.bool (zAr op a b).ref.fc,.bool (zAr op a b).ref.fr]) zB rfl<|zx (v:=zP) rfl<|zx rfl<|zE<|zA (.agg [.int .i64 (zAr op a b).to.col,.int .i64 (zAr op a b).to.row,.bool (zAr op a b).to.fc,.bool (zAr op a b).to.fr]) zB rfl<|zx (v:=zP) rfl<|zx rfl ?_
  refine zE<|zA (.str (zAr op a b).text) zB rfl<|zE<|zA (.lst (some (zAr op a b).kq) (zAr op a b).kk (kxs (zAr op a b))) zB rfl<|zBH 2 hxv rfl<|zE<|zA (.int IntKind.i64 (zAr op a b).kind) zB rfl<|zG<|zG<|zG<|zG<|zG<|zG<|zG<|zE<|zE<|zA (.str (zAr op a b).text) zB rfl<|zE<|zE<|zA (.int IntKind.i64 (zAr op a b).num) zB rfl<|zE<|zn c1<|zA (.int IntKind.i64 (zAr op a b).num) zB rfl<|zE<|zn c2<|zA (.lst (some (zAr op a b).kq) (zAr op a b).kk (kxs (zAr op a b))) zB rfl<|zBH 2 hxv rfl ?_
  refine zE<|zE<|zA (.lst (some (zAr op a b).kq) (zAr op a b).kk (kxs (zAr op a b))) zB rfl<|zFD 0 (ndV a) hxv rfl hk<|zA9 (ndV a) rfl<|zM (hf _)<|zE<|zE<|zA (.lst (some (zAr op a b).kq) (zAr op a b).kk (kxs (zAr op a b))) zB rfl<|zFD 1 (ndV b) hxv rfl hk2<|zA9 (ndV b) rfl<|zM (hf2 _)<|zE ?_
  exact zAv rfl rfl rfl rfl ((Old.refl _).push _)
theorem zZU (hC:∀ t,t.length<=1000->∀ H,C zAB [.str t] H (.bool (zA8 t)) H) (x:Bool) (t:Bs) (ks:List Nd) (hc:zA8 t=true) (ht:t.length<=1000) (hkl:ks.length<=1000000) (hF:∀ k∈ks,RfH C true k) (H:Heap):EFun C GT zAQ [ndV (zA0 t ks),.bool x] H (.bool true) H:=by
  have hca:=hC t ht;rw [hc] at hca;have hxv:zDe (zGw (zA0 t ks)) 12 (ks.map ndV):=zAE (zA0 t ks);have hlm:(ks.map ndV).length=ks.length:=zlM _;have e:((zA0 t ks).text==([]:Bs))=false:=tN (fun e=>by
    have e:t=[]:=e;rw [e] at hc;exact absurd hc zD_)
  clear hC;refine zJ<|sX ?_
  refine zBG (fun i:Nat=>[(8,zK i),(2,bR H.length)]) (fun i H'=>i<=ks.length/\H'=H++[ABlk.box (ndV (zA0 t ks)).cells]) (fun i=>ks.length-i) 0 rfl ⟨by omega,rfl⟩ (fun i H1 hi=>?_);obtain ⟨hi,rfl⟩:=hi;by_cases hlt:i<ks.length
  · obtain ⟨k,hk⟩:∃ k,ks[i]?=some k:=⟨_,zlI hlt⟩
    have hkm:(ks.map ndV)[i]?=some (ndV k):=by rw [zlQ,hk];rfl
    have hs:∀ H,C zAO [ndV k,.bool true] H (.bool true) H:=hF k (zlX hk);clear hF;refine sX ?_;refine zS (r:=i+1) rfl tO ?_;exact zAR (i+1) rfl ⟨by omega,rfl⟩ tO
  · refine sX ?_
    exact sRv
end
def Holds (l:List (Nat×ABlk)) (H:Heap):Prop:=∀ p∈l,H[p.1]?=some p.2
theorem Holds.old {l:List (Nat×ABlk)} {H H':Heap} (h:Holds l H) (o:Old H H'):Holds l H':=fun p hp=>by
  have:=h p hp;rw [o.2 p.1 (zl_ this)];exact this
section
variable {C:CSpec} {GT:zG_}
def zkq (C:CSpec) (f:Nat) (cr:List AV) (l:List (Nat×ABlk)) (g:RefP->Option RefP):Prop:=∀ r,okR r->∃ r',(∀ H,Holds l H->C f (rV r::cr) H (.tup [rV r',.bool (g r).isSome]) H)/\∀ x,g r=some x->r'=x
def zkr (C:CSpec) (f:Nat) (cr:List AV) (l:List (Nat×ABlk)) (g:RefP->RefP->Option (RefP×RefP)):Prop:=∀ a b,okR a->okR b->∃ a' b',(∀ H,Holds l H->C f (rV a::rV b::cr) H (.tup [rV a',rV b',.bool (g a b).isSome]) H)/\∀ x,g a b=some x->(a',b')=x
abbrev cgV (fr fb:Nat) (cr cb:List AV):AV:=.agg [.fn fr [] cr,.fn fb [] cb]
abbrev CnH (C:CSpec):Prop:=∀ H,C zw [.lst (some true) 0 []] H (.lst (some true) 0 []) H
theorem ziq (fr fb:Nat) (cr cb:List AV) (l:List (Nat×ABlk)) (c:Chg) (hR:zkq C fr cr l c.ref) (hK:CnH C) (r:RefP) (h:okR r) (H:Heap) (hh:Holds l H):EFun C GT zBr [cgV fr fb cr cb,ndV (zB3 r)] H (ndV (onN c (zB3 r))) H:=by
  obtain ⟨r',hr,hx⟩:=hR r h;have hk:=hK;clear hR hK;rw [zck];refine zJ<|sX ?_
  cases e:c.ref r with
  | none=>
    rw [e] at hr;clear hx;refine sX ?_;refine sSA (.agg zV0) ?_;refine zA (.int IntKind.i64 (zB3 r).kind) hP rfl<|zE<|zA (.fn fr [] cr) hP rfl<|zA (.agg [.int .i64 (zB3 r).ref.col,.int .i64 (zB3 r).ref.row,.bool (zB3 r).ref.fc,.bool (zB3 r).ref.fr]) hP rfl<|zM (hr _ (hh.old hO))<|zx rfl<|zx rfl<|sSA (rV r') ?_
    refine sX ?_;refine sSA (.agg zV0) ?_;exact zAa (o:=0) rfl rfl (zI hP) rfl rfl rfl hO
  | some x=>
    rw [e] at hr;obtain rfl:=hx x e;clear hx;refine sX ?_;refine sSA (.agg zV0) ?_;refine zA (.int IntKind.i64 (zB3 r).kind) hP rfl<|zE<|zA (.fn fr [] cr) hP rfl<|zA (.agg [.int .i64 (zB3 r).ref.col,.int .i64 (zB3 r).ref.row,.bool (zB3 r).ref.fc,.bool (zB3 r).ref.fr]) hP rfl<|zM (hr _ (hh.old hO))<|zx rfl<|zx rfl<|sSA (rV r') ?_
    refine sX ?_;refine sS (rV r') [.int .i64 (zB3 r).kind,.int .i64 (zB3 r).num,.str (zB3 r).text,.int .i64 r'.col,.int .i64 r'.row,.bool r'.fc,.bool r'.fr,.int .i64 (zB3 r).to.col,.int .i64 (zB3 r).to.row,.bool (zB3 r).to.fc,.bool (zB3 r).to.fr,.lst (some (zB3 r).kq) (zB3 r).kk (kxs (zB3 r))] ?_;refine sX ?_;refine sS (.lst (some true) 0 []) [.int .i64 (zB3 r).kind,.int .i64 (zB3 r).num,.str (zB3 r).text,.int .i64 r'.col,.int .i64 r'.row,.bool r'.fc,.bool r'.fr,.int .i64 (zB3 r).to.col,.int .i64 (zB3 r).to.row,.bool (zB3 r).to.fc,.bool (zB3 r).to.fr,.lst (some true) 0 []] ?_;refine sX ?_;refine zBH 0 (zAE (zB3 r)) rfl ?_;refine zBG (fun _:Unit=>_) (fun _ H'=>H'=_) (fun _=>0) () rfl rfl (fun _ H1 hi=>?_);subst hi;dsimp only;refine sX ?_;refine sSA (.agg [.int .i64 (zB3 r).kind,.int .i64 (zB3 r).num,.str (zB3 r).text,.int .i64 r'.col,.int .i64 r'.row,.bool r'.fc,.bool r'.fr,.int .i64 (zB3 r).to.col,.int .i64 (zB3 r).to.row,.bool (zB3 r).to.fc,.bool (zB3 r).to.fr,.lst (some true) 0 []]) ?_;exact zAa (o:=0) rfl rfl (zI hP) rfl rfl rfl hO
theorem zir (fr fb:Nat) (cr cb:List AV) (l:List (Nat×ABlk)) (c:Chg) (hR:zkr C fb cb l c.box) (hK:CnH C) (r o:RefP) (h:okR r) (h2:okR o) (H:Heap) (hh:Holds l H):EFun C GT zBr [cgV fr fb cr cb,ndV (zA2 r o)] H (ndV (onN c (zA2 r o))) H:=by
  obtain ⟨r',o',hr,hx⟩:=hR r o h h2;have hk:=hK;clear hR hK;rw [zcl];refine zJ<|sX ?_
  cases e:c.box r o with
  | none=>
    rw [e] at hr;clear hx;refine sX ?_;refine sSA (.agg zV0) ?_;refine zA (.int IntKind.i64 (zA2 r o).kind) hP rfl<|zG<|zE<|zA (.fn fb [] cb) hP rfl<|zA (.agg [.int .i64 (zA2 r o).ref.col,.int .i64 (zA2 r o).ref.row,.bool (zA2 r o).ref.fc,.bool (zA2 r o).ref.fr]) hP rfl<|zA (.agg [.int .i64 (zA2 r o).to.col,.int .i64 (zA2 r o).to.row,.bool (zA2 r o).to.fc,.bool (zA2 r o).to.fr]) hP rfl<|zM (hr _ (hh.old hO))<|zx rfl<|zx rfl<|zx rfl<|sSA (rV r') ?_
    refine sSA (rV o') ?_;refine sX ?_;refine sSA (.agg zV0) ?_;exact zAa (o:=0) rfl rfl (zI hP) rfl rfl rfl hO
  | some x=>
    rw [e] at hr;have hx:=hx x e;subst hx;refine sX ?_;refine sSA (.agg zV0) ?_;refine zA (.int IntKind.i64 (zA2 r o).kind) hP rfl<|zG<|zE<|zA (.fn fb [] cb) hP rfl<|zA (.agg [.int .i64 (zA2 r o).ref.col,.int .i64 (zA2 r o).ref.row,.bool (zA2 r o).ref.fc,.bool (zA2 r o).ref.fr]) hP rfl<|zA (.agg [.int .i64 (zA2 r o).to.col,.int .i64 (zA2 r o).to.row,.bool (zA2 r o).to.fc,.bool (zA2 r o).to.fr]) hP rfl<|zM (hr _ (hh.old hO))<|zx rfl<|zx rfl<|zx rfl<|sSA (rV r') ?_
    refine sSA (rV o') ?_;refine sX ?_;refine zHN ?_ ?_
    · refine sX ?_
      refine sS (rV r') [.int .i64 (zA2 r o).kind,.int .i64 (zA2 r o).num,.str (zA2 r o).text,.int .i64 r'.col,.int .i64 r'.row,.bool r'.fc,.bool r'.fr,.int .i64 (zA2 r o).to.col,.int .i64 (zA2 r o).to.row,.bool (zA2 r o).to.fc,.bool (zA2 r o).to.fr,.lst (some (zA2 r o).kq) (zA2 r o).kk (kxs (zA2 r o))] ?_;refine sS (rV o') [.int .i64 (zA2 r o).kind,.int .i64 (zA2 r o).num,.str (zA2 r o).text,.int .i64 r'.col,.int .i64 r'.row,.bool r'.fc,.bool r'.fr,.int .i64 o'.col,.int .i64 o'.row,.bool o'.fc,.bool o'.fr,.lst (some (zA2 r o).kq) (zA2 r o).kk (kxs (zA2 r o))] ?_;refine sX ?_;refine sS (.lst (some true) 0 []) [.int .i64 (zA2 r o).kind,.int .i64 (zA2 r o).num,.str (zA2 r o).text,.int .i64 r'.col,.int .i64 r'.row,.bool r'.fc,.bool r'.fr,.int .i64 o'.col,.int .i64 o'.row,.bool o'.fc,.bool o'.fr,.lst (some true) 0 []] ?_;refine sX ?_;refine zBH 0 (zAE (zA2 r o)) rfl ?_;refine zBG (fun _:Unit=>_) (fun _ H'=>H'=_) (fun _=>0) () rfl rfl (fun _ H1 hi=>?_);subst hi;dsimp only;refine sX ?_;refine sSA (.agg [.int .i64 (zA2 r o).kind,.int .i64 (zA2 r o).num,.str (zA2 r o).text,.int .i64 r'.col,.int .i64 r'.row,.bool r'.fc,.bool r'.fr,.int .i64 o'.col,.int .i64 o'.row,.bool o'.fc,.bool o'.fr,.lst (some true) 0 []]) ?_;exact zAa (o:=0) rfl rfl (zI hP) rfl rfl rfl hO
    · refine sS (rV r') [.int .i64 (zA2 r o).kind,.int .i64 (zA2 r o).num,.str (zA2 r o).text,.int .i64 r'.col,.int .i64 r'.row,.bool r'.fc,.bool r'.fr,.int .i64 (zA2 r o).to.col,.int .i64 (zA2 r o).to.row,.bool (zA2 r o).to.fc,.bool (zA2 r o).to.fr,.lst (some (zA2 r o).kq) (zA2 r o).kk (kxs (zA2 r o))] ?_
      refine sX ?_;refine sS (rV o') [.int .i64 (zA2 r o).kind,.int .i64 (zA2 r o).num,.str (zA2 r o).text,.int .i64 r'.col,.int .i64 r'.row,.bool r'.fc,.bool r'.fr,.int .i64 o'.col,.int .i64 o'.row,.bool o'.fc,.bool o'.fr,.lst (some (zA2 r o).kq) (zA2 r o).kk (kxs (zA2 r o))] ?_;refine sX ?_;refine sS (.lst (some true) 0 []) [.int .i64 (zA2 r o).kind,.int .i64 (zA2 r o).num,.str (zA2 r o).text,.int .i64 r'.col,.int .i64 r'.row,.bool r'.fc,.bool r'.fr,.int .i64 o'.col,.int .i64 o'.row,.bool o'.fc,.bool o'.fr,.lst (some true) 0 []] ?_;refine sX ?_;refine zBH 0 (zAE (zA2 r o)) rfl ?_;refine zBG (fun _:Unit=>_) (fun _ H'=>H'=_) (fun _=>0) () rfl rfl (fun _ H1 hi=>?_);subst hi;dsimp only;refine sX ?_;refine sSA (.agg [.int .i64 (zA2 r o).kind,.int .i64 (zA2 r o).num,.str (zA2 r o).text,.int .i64 r'.col,.int .i64 r'.row,.bool r'.fc,.bool r'.fr,.int .i64 o'.col,.int .i64 o'.row,.bool o'.fc,.bool o'.fr,.lst (some true) 0 []]) ?_;exact zAa (o:=0) rfl rfl (zI hP) rfl rfl rfl hO
theorem zis (fr fb:Nat) (cr cb:List AV) (hK:CnH C) (k num:Int) (t:Bs) (r o:RefP) (h5:(k==5)=false) (h6:(k==6)=false) (H:Heap):EFun C GT zBr [cgV fr fb cr cb,ndV (.mk k num t r o [])] H (ndV (.mk k num t r o [])) H:=by
  have hk:=hK;clear hK;refine zJ<|sX ?_
  refine sSA (.agg zV0) ?_;refine sX ?_;refine sS (.lst (some true) 0 []) [.int .i64 (Nd.mk k num t r o []).kind,.int .i64 (Nd.mk k num t r o []).num,.str (Nd.mk k num t r o []).text,.int .i64 (Nd.mk k num t r o []).ref.col,.int .i64 (Nd.mk k num t r o []).ref.row,.bool (Nd.mk k num t r o []).ref.fc,.bool (Nd.mk k num t r o []).ref.fr,.int .i64 (Nd.mk k num t r o []).to.col,.int .i64 (Nd.mk k num t r o []).to.row,.bool (Nd.mk k num t r o []).to.fc,.bool (Nd.mk k num t r o []).to.fr,.lst (some true) 0 []] ?_;refine sX ?_;refine zBH 0 (zAE (.mk k num t r o [])) rfl ?_;refine zBG (fun _:Unit=>_) (fun _ H'=>H'=_) (fun _=>0) () rfl rfl (fun _ H1 hi=>?_);subst hi;dsimp only;refine sX ?_;refine sSA (.agg [.int .i64 (Nd.mk k num t r o []).kind,.int .i64 (Nd.mk k num t r o []).num,.str (Nd.mk k num t r o []).text,.int .i64 (Nd.mk k num t r o []).ref.col,.int .i64 (Nd.mk k num t r o []).ref.row,.bool (Nd.mk k num t r o []).ref.fc,.bool (Nd.mk k num t r o []).ref.fr,.int .i64 (Nd.mk k num t r o []).to.col,.int .i64 (Nd.mk k num t r o []).to.row,.bool (Nd.mk k num t r o []).to.fc,.bool (Nd.mk k num t r o []).to.fr,.lst (some true) 0 []]) ?_;exact zAa (o:=0) rfl rfl (zI hP) rfl rfl rfl hO
def CkH (C:CSpec):Prop:=∀ (n:Nd) H,n.kids≠[]->n.kids.length<=1000000->C zw [zGw n] H (.sl (some false) (H.length+1) 12 0 n.kids.length) ((H++[ABlk.row 12 []]).set H.length .dead++[.row 12 (n.kids.map ndV)])
def zg0 (c:Chg) (ks:List Nd) (i:Nat):List AV:=(ks.take i).map (fun k=>ndV (onN c k))++(ks.drop i).map ndV
theorem zf7 {c:Chg} {ks:List Nd} {i:Nat} {k:Nd} (h:ks[i]?=some k):(zg0 c ks i)[i]?=some (ndV k):=by
  have hl:=(zl_ h);unfold zg0;rw [zld (by simp;omega)];simp [zlu,zmw (znx hl),h]
theorem zf8 {c:Chg} {ks:List Nd} {i:Nat} {k:Nd} (h:ks[i]?=some k):(zg0 c ks i).set i (ndV (onN c k))=zg0 c ks (i+1):=by
  have hl:=(zl_ h);have ht:((ks.take i).map fun k=>ndV (onN c k)).length=i:=by simp;omega
  unfold zg0;rw [zml _ _ (by rw [ht];exact zlK _),ht,Nat.sub_self,zmL hl,zmv,h];rw [zlU,List.set_cons_zero,znJ,zlv,zlk];rfl
theorem zit {b j:Nat} (m:Nd) {x:Nd} {H:Heap} {xs:List AV} {K:AV->Heap->Prop} (h:H[b]?=some (.row 12 xs)) (hx:xs[j]?=some (ndV x)) (q:K .undef (H.set b (.row 12 (xs.set j (ndV m))))):actP (.store 12) [.ref b 12 j 0,ndV m] H K:=by
  refine zQp ?_ q;have hc:(ndV m).cells.length=12/\(ndV m).cells.all AV.one=true:=⟨rfl,rfl⟩;have he:(ndV m).elem 12=true:=rfl;have hu:zIQ (ndV x) 0 (ndV m)=ndV m:=rfl;simp only [astep,zlF hc,h,zjw,hx];rw [zlF ⟨trivial,by omega,by omega,he⟩,hu]
theorem sAtN {q:Option Bool} {b k n:Nat} {x:Int} {K:AV->Prop} (j:Nat) (hx:x=(j:Int)) (hj:j<n) (p:K (.ref b k j 0)):idxN k (.sl q b k 0 n) x K:=by
  subst hx;refine sAt ⟨by omega,by omega⟩ ?_;rw [zlo,zlx];assumption
def zLb (k num:Int) (t:Bs) (r o:RefP) (x:AV):List AV:=[.int .i64 k,.int .i64 num,.str t,.int .i64 r.col,.int .i64 r.row,.bool r.fc,.bool r.fr,.int .i64 o.col,.int .i64 o.row,.bool o.fc,.bool o.fr,x]
theorem ziu (fr fb:Nat) (cr cb:List AV) (l:List (Nat×ABlk)) (c:Chg) (k num:Int) (t:Bs) (r o:RefP) (ks:List Nd) (hkl:ks.length<=1000000)
    (hS:∀ n∈ks,∀ H,Holds l H->C zAS [cgV fr fb cr cb,ndV n] H (ndV (onN c n)) H) (H0:Heap) (hh:Holds l H0) (b2 b3 b4 rb:Nat) (B4:List AV) (H1:Heap) {K:Post}
    (hO:Old H0 H1) (h2:H1[b2]?=some (.box (cgV fr fb cr cb).cells)) (h3:H1[b3]?=some (.box (zLb k num t r o (.sl (some false) rb 12 0 ks.length)))) (h4:H1[b4]?=some (.box B4)) (hr:H1[rb]?=some (.row 12 (ks.map ndV))) (hrb:H0.length<=rb)
    (hK:∀ fr' H',zT fr' [4,3]=[(4,.ref b4 0 0 0),(3,.ref b3 0 0 0)]->Old H0 H'->H'[b3]?=some (.box (zLb k num t r o (.sl (some false) rb 12 0 ks.length)))->H'[b4]?=some (.box B4)->H'[rb]?=some (.row 12 (ks.map fun k=>ndV (onN c k)))->K (.exit 1) fr' H') :
    loopP C GT [58,2,3,56,4,57] zGP K [(58,.int .i64 0),(2,.ref b2 0 0 0),(3,.ref b3 0 0 0),(56,.sl (some false) rb 12 0 ks.length),(4,.ref b4 0 0 0),(57,zK ks.length)] H1:=by
  have hne:∀ {H:Heap} {b:Nat} {cs:List AV} {xs:List AV},H[b]?=some (.box cs)->H[rb]?=some (.row 12 xs)->rb≠b:=fun h1 h2 e=>by rw [e,h1] at h2;cases h2
  refine zBG (fun i:Nat=>[(58,zK i),(2,.ref b2 0 0 0),(3,.ref b3 0 0 0),(56,.sl (some false) rb 12 0 ks.length),(4,.ref b4 0 0 0),(57,zK ks.length)])
    (fun i H'=>i<=ks.length/\Old H0 H'/\H'[b2]?=some (.box (cgV fr fb cr cb).cells)/\H'[b3]?=some (.box (zLb k num t r o (.sl (some false) rb 12 0 ks.length)))/\H'[b4]?=some (.box B4)/\H'[rb]?=some (.row 12 (zg0 c ks i))) (fun i=>ks.length-i) 0 rfl ⟨by omega,hO,h2,h3,h4,by unfold zg0;simpa using hr⟩ (fun i H2 hi=>?_)
  clear hO h2 h3 h4 hr;obtain ⟨hi,ho,h2,h3,h4,hr⟩:=hi;by_cases hlt:i<ks.length
  · obtain ⟨n,hn⟩:∃ n,ks[i]?=some n:=⟨_,zlI hlt⟩
    have hs:=hS n (zlX hn);have hg:=zf7 (c:=c) hn;have hst:=zf8 (c:=c) hn;have d2:=hne h2 hr;have d3:=hne h3 hr;have d4:=hne h4 hr;clear hS hK;have hl0:=ho.1;have hrl:=(zl_ hr);have hb2:=(zl_ h2);have hb3:=(zl_ h3);have hb4:=(zl_ h4);refine sX ?_;refine sAtN i rfl hlt<|zBa i (ndV n) _ rfl hr hg rfl<|sSA (.agg (List.take 12 (List.drop 0 (ndV n).cells))) ?_
    refine zA (.sl (some false) rb 12 0 ks.length) (zC tA (zD h3)) rfl<|zA (cgV fr fb cr cb) (zC tA (zD h2)) rfl<|zA (.agg (List.take 12 (List.drop 0 (ndV n).cells))) hP rfl<|zM (hs _ (hh.old hO))<|sAtN i rfl hlt<|zit (onN c n) hP hg<|zS (r:=i+1) rfl tO ?_
    rw [hst];exact zAR (i+1) rfl ⟨by omega,((ho.push _).set hl0 _).set hrb _,zC tO (zC tO (zD h2)),zC tO (zC tO (zD h3)),zC tO (zC tO (zD h4)),zSs (by simp;omega)⟩ tO
  · obtain rfl:i=ks.length:=by omega
    have hr':H2[rb]?=some (.row 12 (ks.map fun k=>ndV (onN c k))):=by
      rw [hr];unfold zg0;simp
    have hkk:=fun fr' hf=>hK fr' H2 hf ho h3 h4 hr';clear hK hS;refine sX ?_;exact hkk _ rfl
theorem zVD {F:AF} {a s:Nat} {ag:Bool} {H H1 H2:Heap} {fr:Fr} {v0 v:AV} {cs:List AV} {o:Nat} (hF:F.results=[.cell a s ag]) (hk:F.keep=false) (hp:zAD H1 (zL0 fr a)=some (cs,o)) (hpt:part cs o s ag=some v0)
    (hf:zEM H.length v0 H1=some (v,H2)) (hb:v.bel H.length=true) (ho:Old H H2):retP F H fr H1 v H:=by
  refine zQs hk ?_ hf hb ho;rw [zFl] at hp;simp only [hF,zBh,zLj,hp,hpt,zlW];rfl
theorem zf9 {A:Heap} {x:ABlk} {b:Nat} (h:b=A.length):(A++[x])[b]?=some x:=by rw [h];exact zB
theorem zcx {n0 nb m:Nat} {k num:Int} {t:Bs} {r o:RefP} {xs:List AV} {H:Heap} (h:H[nb]?=some (.row 12 xs)) (hn:n0<=nb) (hm:xs.length=m) :
    zEM n0 (.agg (zLb k num t r o (.sl (some false) nb 12 0 m))) H=some (.agg (zLb k num t r o (.lst (some false) 12 xs)),H.set nb (.frz 12 xs)):=by
  subst hm;have:¬ nb<n0:=by omega
  simp only [zLb,zEM,zLg,this,zlj,h];simp [zWk]
theorem ziv (fr fb:Nat) (cr cb:List AV) (l:List (Nat×ABlk)) (c:Chg) (hK:CkH C) (k num:Int) (t:Bs) (r o:RefP) (ks:List Nd) (hne:ks≠[]) (hkl:ks.length<=1000000) (h5:(k==5)=false) (h6:(k==6)=false)
    (hS:∀ n∈ks,∀ H,Holds l H->C zAS [cgV fr fb cr cb,ndV n] H (ndV (onN c n)) H) (H:Heap) (hh:Holds l H):EFun C GT zBr [cgV fr fb cr cb,ndV (.mk k num t r o ks)] H (ndV (.mk k num t r o (ks.map (onN c)))) H:=by
  have hxv:zDe (zGw (.mk k num t r o ks)) 12 (ks.map ndV):=zAE (.mk k num t r o ks);have hk:=fun H=>hK (.mk k num t r o ks) H hne hkl;have ev:ndV (.mk k num t r o (ks.map (onN c)))=.agg (zLb k num t r o (.lst (some false) 12 (ks.map fun k=>ndV (onN c k)))):=by
    have e:kxs (.mk k num t r o (ks.map (onN c)))=ks.map fun k=>ndV (onN c k):=by
      show zd6 (ks.map (onN c))=_;rw [zKO,zm5];rfl
    cases ks with
    |nil=>exact absurd rfl hne
    | cons a ks=>
      rw [<-e];rfl
  rw [ev];clear hK ev;refine zJ<|sX ?_
  refine sSA (.agg zV0) ?_;refine sX ?_;refine sS (.sl (some false)   ((List.set         (H++[ABlk.box (cgV fr fb cr cb).cells]++[ABlk.box (ndV (Nd.mk k num t r o ks)).cells] ++             [ABlk.box                 zV1] ++           [ABlk.box               zV1])         (List.length           (H++[ABlk.box (cgV fr fb cr cb).cells]++[ABlk.box (ndV (Nd.mk k num t r o ks)).cells] ++             [ABlk.box                 zV1]))         (ABlk.box           (AV.agg zV0).cells)).length +     1)   12 0 (Nd.mk k num t r o ks).kids.length) [.int .i64 (Nd.mk k num t r o ks).kind,.int .i64 (Nd.mk k num t r o ks).num,.str (Nd.mk k num t r o ks).text,.int .i64 (Nd.mk k num t r o ks).ref.col,.int .i64 (Nd.mk k num t r o ks).ref.row,.bool (Nd.mk k num t r o ks).ref.fc,.bool (Nd.mk k num t r o ks).ref.fr,.int .i64 (Nd.mk k num t r o ks).to.col,.int .i64 (Nd.mk k num t r o ks).to.row,.bool (Nd.mk k num t r o ks).to.fc,.bool (Nd.mk k num t r o ks).to.fr,.sl (some false)   ((List.set         (H++[ABlk.box (cgV fr fb cr cb).cells]++[ABlk.box (ndV (Nd.mk k num t r o ks)).cells] ++             [ABlk.box                 zV1] ++           [ABlk.box               zV1])         (List.length           (H++[ABlk.box (cgV fr fb cr cb).cells]++[ABlk.box (ndV (Nd.mk k num t r o ks)).cells] ++             [ABlk.box                 zV1]))         (ABlk.box           (AV.agg zV0).cells)).length +     1)   12 0 (Nd.mk k num t r o ks).kids.length] ?_;refine sX ?_;refine zHq ?_
  refine ziu fr fb cr cb l c k num t r o ks hkl hS H hh _ _ _ _ _ _ hO hP hP hP (zC (by simp only [zlP,zlH,zlE,zlL];omega) (zf9 (by simp only [zlP,zlH,zlE,zlL]))) (by simp only [zlP,zlH,zlE,zlL];omega) (fun fr' H' hfr ho h3 h4 hrow=>sBlk hfr ?_);refine sX ?_;refine zL (zLb k num t r o (.sl (some false) _ 12 0 ks.length)) h4 rfl rfl rfl rfl ?_;have hl0:=ho.1;exact zVD (o:=0) rfl rfl (zI (zU h4)) rfl (zcx (m:=ks.length) (zC (fun e=>by rw [<-e,h4] at hrow;cases hrow) hrow) (by simp only [zlP,zlH,zlE,zlL];omega) (zlM _)) rfl ((ho.set (by simp only [zlP,zlH,zlE,zlL];omega) _).set (by simp only [zlP,zlH,zlE,zlL];omega) _)
end
section
variable {C:CSpec} {GT:zG_}
theorem zMt {H:Heap} {q:Option Bool} {n:Nat} {xs:List AV} (u:List UInt8) {K:AV->Heap->Prop} (hu:xs=u.map zo) (hn:n=xs.length) (p:K (.str u) (H++[.row 1 xs])):actP .bytesToStr [.sl q H.length 1 0 n] (H++[.row 1 xs]) K:=by
  subst hn;exact zQp (by simp only [astep,zAu,hu,zLH,zlW]) p
theorem ziw (s:Bs) (b:Bool) (hl:s.length<=1000000) (H:Heap):EFun C GT zN4 [.str s,.bool b] H (.str (brk b s)) H:=by
  refine zJ ?_;cases b with
  | true => refine zE ?_
            refine zBF (by first|(simp;done)|(simp;omega))<|zBF (by first|(simp;done)|(simp;omega)) ?_
            exact sRv
  | false => refine zG ?_
             exact sRv
theorem zZV (hT:∀ op H,op<=1000->C zAl [zK op] H (zK (tight op)) H) (n:Nd) (h:n.kind=8->1<=n.num/\n.num<=11) (H:Heap):EFun C GT zJt [ndV n] H (zK (zf n)) H:=by
  have hb:=@zB H (.box (ndV n).cells);refine zJ ?_;unfold zf;refine zCR (x:=ndV n) rfl ?_;by_cases hk:n.kind=8
  · obtain ⟨h1,h2⟩:=h hk
    obtain ⟨op,ho⟩:∃ op:Nat,n.num=op:=⟨n.num.toNat,by omega⟩;have ht:=hT op (H++[.box (ndV n).cells]) tO;have e:n.num.toNat=op:=by omega
    rw [zlF hk,e];have e8:(n.kind==8)=true:=tE hk;have hv:AV.int .i64 n.num=zK op:=by rw [ho];rfl
    clear hT;refine zA (.int IntKind.i64 n.kind) zB rfl<|zn e8<|zA (zK op) (by rw [hb]) (by rw [<-hv];rfl)<|sX ?_
    exact sRv
  · have e8:(n.kind==8)=false:=tN hk
    rw [zlD hk];refine sX ?_;exact sRv
theorem zWc (op:Nat) (h:1<=op/\op<=11) (H:Heap):EFun C GT zG2 [zK op] H (.str (opT op)) H:=by
  have hx:[AV.str [],AV.str [61],AV.str [60,62],AV.str [60],AV.str [60,61],AV.str [62],AV.str [62,61],AV.str [38],AV.str [43],AV.str [45],AV.str [42],AV.str [47]][op]?=some (.str (opT op)):=by
    have:op=1\/op=2\/op=3\/op=4\/op=5\/op=6\/op=7\/op=8\/op=9\/op=10\/op=11:=by omega
    rcases this with rfl|rfl|rfl|rfl|rfl|rfl|rfl|rfl|rfl|rfl|rfl <;> rfl
  refine zJ<|zAb (vs':=[.str [],.str [61],.str [60,62],.str [60],.str [60,61],.str [62],.str [62,61],.str [38],.str [43],.str [45],.str [42],.str [47]]) rfl rfl<|sAtN op rfl (by show op<12;omega)<|zBa op (.str (opT op)) _ rfl zB hx rfl ?_
  exact sRv
theorem zcy (b:Bool) (H:Heap):EFun C GT zHT [v3 3 (if b=true then 1 else 0)] H (.str (if b then zGA else zDc)) H:=by
  refine zJ ?_;cases b
  · refine sX ?_
    exact sRv
  · refine sX ?_
    exact sRv
theorem zcz (hR:∀ H,C zA3 [] H (.lst (some false) 1 (wrL.map AV.str)) H) (k:Nat) (h:1<=k/\k<=6) (H:Heap):EFun C GT zHT [v3 4 k] H (.str (wrongs.getD (k-1) [])) H:=by
  have hx:(wrL.map AV.str)[k]?=some (.str (wrongs.getD (k-1) [])):=by
    have:k=1\/k=2\/k=3\/k=4\/k=5\/k=6:=by omega
    rcases this with rfl|rfl|rfl|rfl|rfl|rfl <;> rfl
  refine zJ<|sX ?_
  refine zT9 (i:=k) rfl hx<|sX ?_
  exact sRv
abbrev DgH (C:CSpec):Prop:=∀ n:Nat,n<=9223372036854775807->∀ H,C zDL [zK n] H (.str (zGC n)) H
theorem zMu (hD:DgH C) (c w:Nat) (h:1<=c/\c<=26) (h2:1<=w/\w<=99) (H:Heap):EFun C GT zCo [rV ⟨c,w,true,true⟩] H (.str (zEA ⟨c,w,true,true⟩)) H:=by
  have hd:=hD w tO;have hl:=(zFu (r:=⟨c,w,true,true⟩) ⟨by simp only;omega,by simp only;omega,by simp only;omega,by simp only;omega⟩).2;have e1:IntKind.i64.wrap (64+(c:Int))=((64+c:Nat):Int):=by rw [IntKind.wrap_i64];omega
  have e2:IntKind.u8.wrap ((64+c:Nat):Int)=(((UInt8.ofNat (64+c)).toNat:Nat):Int):=by rw [IntKind.wrap_u8];first|(simp;done)|(simp;omega)
  have er:zEA ⟨c,w,true,true⟩=[36]++[UInt8.ofNat (64+c)]++[36]++zGC w:=rfl;rw [er] at hl ⊢;simp only [zlH,zlE,zlL] at hl;clear hD;refine zJ<|sX ?_
  refine zDh e1<|zDh e2<|zAb (vs':=[.int .u8 ↑(UInt8.ofNat (64+c)).toNat]) rfl rfl<|zMt [UInt8.ofNat (64+c)] rfl rfl<|zBF (by first|(simp;done)|(simp;omega))<|sX ?_
  refine zBF (by first|(simp;done)|(simp;omega))<|sX ?_
  refine zBF (by first|(simp;done)|(simp;omega)) ?_;exact sRv
theorem zLc (hD:DgH C) (c w:Nat) (h:1<=c/\c<=26) (h2:1<=w/\w<=99) (H:Heap):EFun C GT zCo [rV ⟨c,w,true,false⟩] H (.str (zEA ⟨c,w,true,false⟩)) H:=by
  have hd:=hD w tO;have hl:=(zFu (r:=⟨c,w,true,false⟩) ⟨by simp only;omega,by simp only;omega,by simp only;omega,by simp only;omega⟩).2;have e1:IntKind.i64.wrap (64+(c:Int))=((64+c:Nat):Int):=by rw [IntKind.wrap_i64];omega
  have e2:IntKind.u8.wrap ((64+c:Nat):Int)=(((UInt8.ofNat (64+c)).toNat:Nat):Int):=by rw [IntKind.wrap_u8];first|(simp;done)|(simp;omega)
  have er:zEA ⟨c,w,true,false⟩=[36]++[UInt8.ofNat (64+c)]++[]++zGC w:=rfl;rw [er] at hl ⊢;simp only [zlH,zlE,zlL] at hl;clear hD;refine zJ<|sX ?_
  refine zDh e1<|zDh e2<|zAb (vs':=[.int .u8 ↑(UInt8.ofNat (64+c)).toNat]) rfl rfl<|zMt [UInt8.ofNat (64+c)] rfl rfl<|zBF (by first|(simp;done)|(simp;omega))<|sX ?_
  refine zBF (by first|(simp;done)|(simp;omega)) ?_;exact sRv
theorem zLd (hD:DgH C) (c w:Nat) (h:1<=c/\c<=26) (h2:1<=w/\w<=99) (H:Heap):EFun C GT zCo [rV ⟨c,w,false,true⟩] H (.str (zEA ⟨c,w,false,true⟩)) H:=by
  have hd:=hD w tO;have hl:=(zFu (r:=⟨c,w,false,true⟩) ⟨by simp only;omega,by simp only;omega,by simp only;omega,by simp only;omega⟩).2;have e1:IntKind.i64.wrap (64+(c:Int))=((64+c:Nat):Int):=by rw [IntKind.wrap_i64];omega
  have e2:IntKind.u8.wrap ((64+c:Nat):Int)=(((UInt8.ofNat (64+c)).toNat:Nat):Int):=by rw [IntKind.wrap_u8];first|(simp;done)|(simp;omega)
  have er:zEA ⟨c,w,false,true⟩=[]++[UInt8.ofNat (64+c)]++[36]++zGC w:=rfl;rw [er] at hl ⊢;simp only [zlH,zlE,zlL] at hl;clear hD;refine zJ<|sX ?_
  refine zDh e1<|zDh e2<|zAb (vs':=[.int .u8 ↑(UInt8.ofNat (64+c)).toNat]) rfl rfl<|zMt [UInt8.ofNat (64+c)] rfl rfl<|zBF (by first|(simp;done)|(simp;omega))<|sX ?_
  refine zBF (by first|(simp;done)|(simp;omega))<|sX ?_
  refine zBF (by first|(simp;done)|(simp;omega)) ?_;exact sRv
theorem zKp (hD:DgH C) (c w:Nat) (h:1<=c/\c<=26) (h2:1<=w/\w<=99) (H:Heap):EFun C GT zCo [rV ⟨c,w,false,false⟩] H (.str (zEA ⟨c,w,false,false⟩)) H:=by
  have hd:=hD w tO;have hl:=(zFu (r:=⟨c,w,false,false⟩) ⟨by simp only;omega,by simp only;omega,by simp only;omega,by simp only;omega⟩).2;have e1:IntKind.i64.wrap (64+(c:Int))=((64+c:Nat):Int):=by rw [IntKind.wrap_i64];omega
  have e2:IntKind.u8.wrap ((64+c:Nat):Int)=(((UInt8.ofNat (64+c)).toNat:Nat):Int):=by rw [IntKind.wrap_u8];first|(simp;done)|(simp;omega)
  have er:zEA ⟨c,w,false,false⟩=[]++[UInt8.ofNat (64+c)]++[]++zGC w:=rfl;rw [er] at hl ⊢;simp only [zlH,zlE,zlL] at hl;clear hD;refine zJ<|sX ?_
  refine zDh e1<|zDh e2<|zAb (vs':=[.int .u8 ↑(UInt8.ofNat (64+c)).toNat]) rfl rfl<|zMt [UInt8.ofNat (64+c)] rfl rfl<|zBF (by first|(simp;done)|(simp;omega))<|sX ?_
  refine zBF (by first|(simp;done)|(simp;omega)) ?_;exact sRv
end
section
variable {C:CSpec} {GT:zG_}
abbrev RtH (C:CSpec) (n:Nd):Prop:=∀ H,C zAo [ndV n] H (.str (txt n)) H
structure RshH (C:CSpec):Prop where
  dig:DgH C
  tru:∀ (x:Bool) H,C zF6 [.bool x] H (v3 3 (if x=true then 1 else 0)) H
  stru:∀ (x:Bool) H,C zEC [v3 3 (if x=true then 1 else 0)] H (.str (if x then zGA else zDc)) H
  bad:∀ (k:Nat) H,C zDB [zK k] H (v3 4 k) H
  sbad:∀ (k:Nat),1<=k/\k<=6->∀ H,C zEC [v3 4 k] H (.str (wrongs.getD (k-1) [])) H
  ref:∀ (r:RefP),okR r->∀ H,C zCh [rV r] H (.str (zEA r)) H
  inn:∀ (s:Bs) (b:Bool),s.length<=1000000->∀ H,C zFd [.str s,.bool b] H (.str (brk b s)) H
  tightn:∀ (n:Nd),(n.kind=8->1<=n.num/\n.num<=11)->∀ H,C zEq [ndV n] H (zK (zf n)) H
  tight:∀ op H,op<=1000->C zAl [zK op] H (zK (tight op)) H
  sign:∀ (k:Nat),1<=k/\k<=11->∀ H,C zEr [zK k] H (.str (opT k)) H
theorem zWd:∀ (a b:Bs),esc (a++b)=esc a++esc b
  |[],_=>rfl
  | c::r,b=>by
    rw [zl5,esc,esc,zWd r b];split <;> simp
theorem zgA {t:Bs} {i:Nat} {c:UInt8} (h:t[i]?=some c):esc (t.take (i+1))=esc (t.take i)++(if c=34 then [34,34] else [c]):=by
  rw [zmv,h,znJ,zWd]
  congr 1
theorem zWe (t:Bs) (i:Nat):(esc (t.take i)).length<=(esc t).length:=by
  have h:=zWd (t.take i) (t.drop i);rw [znS] at h;rw [h,zlH];omega
theorem zc0 (S:RshH C) (m:Nat) (h:m<=9223372036854775807) (H:Heap):EFun C GT zAy [ndV (zKP m)] H (.str (zGC m)) H:=by
  have hd:=S.dig m h;refine zJ<|sX ?_
  exact sRv
theorem zc1 (S:RshH C) (b:Bool) (H:Heap):EFun C GT zAy [ndV (zFC b)] H (.str (if b then zGA else zDc)) H:=by
  have ht:=S.tru b;have hs:=S.stru b;refine zJ<|zCR (x:=ndV (zFC b)) rfl ?_
  cases b with
  | true => refine zA (.int IntKind.i64 (zFC true).kind) zB rfl ?_
            refine sX ?_;exact zAv rfl rfl rfl rfl hO
  | false => refine zA (.int IntKind.i64 (zFC false).kind) zB rfl ?_
             refine sX ?_;exact sRv
theorem zc2 (S:RshH C) (k:Nat) (h:1<=k/\k<=6) (H:Heap):EFun C GT zAy [ndV (zHg k)] H (.str (wrongs.getD (k-1) [])) H:=by
  have ht:=S.bad k;have hs:=S.sbad k h;refine zJ<|sX ?_
  exact sRv
theorem zc3 (S:RshH C) (r:RefP) (h:okR r) (H:Heap):EFun C GT zAy [ndV (zB3 r)] H (.str (zEA r)) H:=by
  have ht:=S.ref r h;refine zJ<|sX ?_
  exact sRv
theorem zc4 (S:RshH C) (r o:RefP) (h:okR r) (h2:okR o) (H:Heap):EFun C GT zAy [ndV (zA2 r o)] H (.str (zEA r++58::zEA o)) H:=by
  have ht:=S.ref r h;have ht2:=S.ref o h2;have l1:=(zFu h).2;have l2:=(zFu h2).2;have e:zEA r++58::zEA o=(zEA r++[58])++zEA o:=by simp
  rw [e];refine zJ<|sX ?_
  refine zBF (by first|(simp;done)|(simp;omega)|omega)<|sX ?_
  refine zBF (by first|(simp;done)|(simp;omega)|omega) ?_;exact sRv
theorem zc5 (S:RshH C) (n:Nd) (hn:n.kind=8->1<=n.num/\n.num<=11) (hT:RtH C n) (hl:(txt n).length<=1000000) (H:Heap):EFun C GT zAy [ndV (zDO n)] H (.str (txt (zDO n))) H:=by
  have ht:∀ H,C zAo [ndV n] H (.str (txt n)) H:=hT;have hi:=S.inn (txt n) (decide (zf n<9)) hl;have hxv:=zAE (zDO n);have hk:((zDO n).kids.map ndV)[0]?=some (ndV n):=rfl;have hb:(n.kind==8)=decide (zf n<9):=by
    have:=zD2 n.num.toNat;unfold zf;by_cases h:n.kind=8
    · rw [zlF h,tE h,tT]
    · rw [zlD h,tN h];rfl
  have hbl:=zBl (decide (zf n<9)) (txt n);rw [zE9];rw [<-hb] at hi hbl ⊢;have hbl2:(brk (n.kind==8) (txt n)).length<=1000002:=by rw [hbl];split <;> omega
  refine zJ<|sX ?_
  refine zBF (by first|(simp;done)|(simp;omega)|omega) ?_;exact sRv
theorem zc6 (S:RshH C) (op:Nat) (a b:Nd) (h:1<=op/\op<=11) (ha:a.kind=8->1<=a.num/\a.num<=11) (hb:b.kind=8->1<=b.num/\b.num<=11) (hTa:RtH C a) (hTb:RtH C b) (hl:(txt (zAr op a b)).length<=1000000) (H:Heap):EFun C GT zAy [ndV (zAr op a b)] H (.str (txt (zAr op a b))) H:=by
  have ht:∀ H,C zAo [ndV a] H (.str (txt a)) H:=hTa;have ht2:∀ H,C zAo [ndV b] H (.str (txt b)) H:=hTb;rw [zEg] at hl ⊢;simp only [zlH,zBl] at hl;have t1:=S.tightn a ha;have t2:=S.tightn b hb;have t3:=fun H=>S.tight op H tO;have e1:decide ((zf a:Int)<(tight op:Int))=decide (zf a<tight op):=by rw [zmh];omega
  have e2:decide ((zf b:Int)<=(tight op:Int))=decide (zf b<=tight op):=by rw [zmh];omega
  have i1:=S.inn (txt a) (decide ((zf a:Int)<(tight op:Int))) tO;have i2:=S.inn (txt b) (decide ((zf b:Int)<=(tight op:Int))) tO;rw [<-e1,<-e2];have l1:(brk (decide ((zf a:Int)<(tight op:Int))) (txt a)).length<=1000002:=by rw [zBl];split <;> omega
  have l2:(brk (decide ((zf b:Int)<=(tight op:Int))) (txt b)).length<=1000002:=by rw [zBl];split <;> omega
  have l3:(opT op).length<=1000000:=by omega
  have sg:=S.sign op h;have hxv:=zAE (zAr op a b);have hk:((zAr op a b).kids.map ndV)[0]?=some (ndV a):=rfl;have hk2:((zAr op a b).kids.map ndV)[1]?=some (ndV b):=rfl;clear hTa hTb e1 e2 S;refine zJ<|sX ?_
  refine zBF (by first|(simp;done)|(simp;omega)|omega)<|zBF (by rw [zlH] <;> omega) ?_
  exact sRv
theorem zZW (t:Bs) (ks:List Nd) (hT:∀ k∈ks,RtH C k) (hkl:ks.length<=1000000) (hl:(txt (zA0 t ks)).length<=1000000) (H:Heap):EFun C GT zAy [ndV (zA0 t ks)] H (.str (txt (zA0 t ks))) H:=by
  have hxv:zDe (zGw (zA0 t ks)) 12 (ks.map ndV):=zAE (zA0 t ks);have hlm:(ks.map ndV).length=ks.length:=zlM _;rw [zDH] at hl ⊢;simp only [zlH,zlE,zlL] at hl;have e:t++40::zA1 (ks.map txt)++[41]=((t++[40])++zA1 (ks.map txt))++[41]:=by simp
  rw [e];refine zJ<|zCR (x:=ndV (zA0 t ks)) rfl<|zA (.int IntKind.i64 (zA0 t ks).kind) zB rfl<|zG<|zG<|zG<|zG<|zG<|zG<|zG<|zG<|zA (.str t) zB rfl<|zBF (by first|(simp;done)|(simp;omega)|omega) ?_
  refine zBG (fun i:Nat=>[(12,zK i),(1,bR H.length),(11,.str ((t++[40])++zA1 ((ks.take i).map txt)))]) (fun i H'=>i<=ks.length/\H'=H++[ABlk.box (ndV (zA0 t ks)).cells]) (fun i=>ks.length-i) 0 (by show _=[(12,zK 0),(1,bR H.length),(11,.str ((t++[40])++[]))];rw [zma];rfl) ⟨by omega,rfl⟩ (fun i H1 hi=>?_);obtain ⟨hi,rfl⟩:=hi;by_cases hlt:i<ks.length
  · obtain ⟨k,hk⟩:∃ k,ks[i]?=some k:=⟨_,zlI hlt⟩
    have hkm:(ks.map ndV)[i]?=some (ndV k):=by rw [zlQ,hk];rfl
    have hs:∀ H,C zAo [ndV k] H (.str (txt k)) H:=hT k (zlX hk);have hj:=zR9 hk;have hle:=zMs (ks.map txt) i;have hle2:=zMs (ks.map txt) (i+1);rw [<-List.map_take] at hle hle2;have hjl:=zlR List.length hj;clear hT;by_cases h0:i=0
    · have c0:decide ((i:Int)>0)=false:=tF
      rw [zlF h0] at hj hjl;have en:AV.str ((t++[40])++zA1 ((ks.take i).map txt)++txt k)=.str ((t++[40])++zA1 ((ks.take (i+1)).map txt)):=by rw [hj,h0];simp [zA1]
      refine sX ?_;refine zBF (by simp only [zlH,zlE,zlL];omega)<|zS (r:=i+1) rfl tO ?_
      rw [en];exact zAR (i+1) rfl ⟨by omega,rfl⟩ tO
    · have c0:decide ((i:Int)>0)=true:=tT
      rw [zlD h0] at hj hjl;simp only [zlH,zlE] at hjl;have en:AV.str ((t++[40])++zA1 ((ks.take i).map txt)++[44]++txt k)=.str ((t++[40])++zA1 ((ks.take (i+1)).map txt)):=by rw [hj];simp
      refine sX ?_;refine zBF (by simp only [zlH,zlE,zlL];omega) ?_;refine sX ?_;refine zBF (by simp only [zlH,zlE,zlL];omega) ?_;refine zS (r:=i+1) rfl tO ?_;rw [en];exact zAR (i+1) rfl ⟨by omega,rfl⟩ tO
  · obtain rfl:i=ks.length:=by omega
    rw [zmi];refine sX ?_;refine zBF (by simp only [zlH,zlE,zlL];omega) ?_;exact sRv
theorem zc7 (t:Bs) (hl:t.length<=1000000) (H:Heap):EFun C GT zAy [ndV (zHd t)] H (.str (txt (zHd t))) H:=by
  have hel:∀ i,(esc (t.take i)).length<=2*t.length:=fun i=>by
    have h1:=zWe t i;have h2:∀ u:Bs,(esc u).length<=2*u.length:=fun u=>by
      induction u with
      |nil=>exact zlK _
      |cons c r ih=>unfold esc;split <;> simp only [zlE] <;> omega
    have:=h2 t;omega
  rw [zLZ];refine zJ<|zCR (x:=ndV (zHd t)) rfl ?_
  obtain ⟨H0,e0⟩:∃ H0,H++[ABlk.box (ndV (zHd t)).cells]=H0:=⟨_,rfl⟩;have hbn:H0[H.length]?=some (.box (ndV (zHd t)).cells):=by rw [<-e0];exact zB
  have hO0:Old H H0:=by rw [<-e0];exact (Old.refl H).push _
  rw [e0];clear e0;refine sX ?_;refine zAb (vs':=[.int .u8 34]) rfl rfl ?_;refine zBw (H0:=H0) (Owns.nil _ _ _) ((Old.refl H0).push _) zAu tO zS_ zS_ fun v1 H1 ho1 hO1 _ _=>?_;refine zBG (fun s:Nat×AV=>[(4,zK s.1),(1,bR H.length),(3,s.2)]) (fun s H'=>s.1<=t.length/\Owns H0 H' s.2 1 ((34::esc (t.take s.1)).map zo)/\Old H0 H') (fun s=>t.length-s.1) (0,v1) rfl ⟨by omega,ho1,hO1⟩ (fun s H2 hi=>?_);obtain ⟨i,v⟩:=s;obtain ⟨hi,ho,hO⟩:=hi;simp only at hi ho;have hl1:=hel i;have hb2:H2[H.length]?=some (.box (ndV (zHd t)).cells):=by rw [hO.2 _ (zl_ hbn)];exact hbn
  by_cases hlt:i<t.length
  · obtain ⟨c,hc⟩:∃ c,t[i]?=some c:=⟨_,zlI hlt⟩
    have he:=zgA hc;by_cases h34:c=34
    · have e1:((c.toNat:Int)==34)=true:=by rw [h34];rfl
      have hx:((34::esc (t.take i)).map zo++[zo 34])++[zo c]=(34::esc (t.take (i+1))).map zo:=by rw [he,zlF h34,h34];simp
      refine zA (.str t) hb2 rfl<|zn tT<|zA (.str t) hb2 rfl<|zCF (i:=i) rfl hc<|sX ?_
      refine zAb (vs':=[.int .u8 34]) rfl rfl<|zBw (H0:=H0) (ho.push _) (hO.push _) zAu tO (by simp;omega) zS_ fun v3 H3 ho3 hO3 hbk3 hf3=>?_
      have hb3:H3[H.length]?=some (.box (ndV (zHd t)).cells):=by rw [hO3.2 _ (zl_ hbn)];exact hbn
      refine zA (.str t) hb3 rfl ?_;refine zCF (i:=i) rfl hc ?_;refine zAb (vs':=[zo c]) rfl rfl ?_;refine zBw (H0:=H0) (ho3.push _) (hO3.push _) zAu tO (by simp;omega) zS_ fun v4 H4 ho4 hO4 hbk4 hf4=>?_;refine zS (r:=i+1) rfl tO ?_;exact zAR (i+1,v4) rfl ⟨by simp only;omega,by rw [<-hx];exact ho4,hO4⟩ (by simp only;omega)
    · have e1:((c.toNat:Int)==34)=false:=tN (fun e=>h34 (by
        have:c.toNat=34:=by omega
        rw [<-UInt8.toNat_inj];exact this))
      have hx:(34::esc (t.take i)).map zo++[zo c]=(34::esc (t.take (i+1))).map zo:=by rw [he,zlD h34];simp
      refine zA (.str t) hb2 rfl ?_;refine zn tT ?_;refine zA (.str t) hb2 rfl ?_;refine zCF (i:=i) rfl hc ?_;refine zi e1 ?_;refine zA (.str t) hb2 rfl ?_;refine zCF (i:=i) rfl hc ?_;refine zAb (vs':=[zo c]) rfl rfl ?_;refine zBw (H0:=H0) (ho.push _) (hO.push _) zAu tO (by simp;omega) zS_ fun v4 H4 ho4 hO4 hbk4 hf4=>?_;refine zS (r:=i+1) rfl tO ?_;exact zAR (i+1,v4) rfl ⟨by simp only;omega,by rw [<-hx];exact ho4,hO4⟩ (by simp only;omega)
  · obtain rfl:i=t.length:=by omega
    rw [zmi] at ho hl1;have hx:(34::esc t).map zo++[zo 34]=(34::esc t++[34]).map zo:=by simp
    refine zA (.str t) hb2 rfl<|sW ?_
    refine zAb (vs':=[.int .u8 34]) rfl rfl<|zBw (H0:=H0) (ho.push _) (hO.push _) zAu tO (by simp;omega) zS_ fun v4 H4 ho4 hO4 hbk4 hf4=>?_
    have ho4:Owns H0 H4 v4 1 ((34::esc t++[34]).map zo):=by rw [<-hx];exact ho4
    refine zHs ho4 ?_;exact zAv rfl rfl rfl rfl (hO0.trans hO4)
end
def zdh (r s:RefP):Bool:=(r.col==s.col)&&((r.row==s.row)&&((r.fc==s.fc)&&((r.fr==s.fr)&&true)))
def zjV (n m:Nd):Bool:=(n.kind==m.kind)&&((n.num==m.num)&&((n.text==m.text)&&(zdh n.ref m.ref&&zdh n.to m.to)))
mutual
def eqN:Nd->Nd->Bool
  |.mk k n t r o ks,m=>zjV (.mk k n t r o ks) m&&zSB ks m.kids
def zSB:List Nd->List Nd->Bool
  |[],ls=>ls.isEmpty
  | a::r,ls=>match ls with
    |[]=>false
    |b::s=>eqN a b&&zSB r s
end
theorem zg1 (n m:Nd):eqN n m=(zjV n m&&zSB n.kids m.kids):=by cases n;rw [eqN];rfl
theorem zTU:∀ {ks ls:List Nd},zSB ks ls=true->ks.length=ls.length
  |[],[],_=>rfl
  |[],_::_,h=>by simp [zSB] at h
  |_::_,[],h=>by simp [zSB] at h
  | a::r,b::s,h=>by
    rw [zSB,zlG] at h;rw [zlE,zlE,zTU h.2]
theorem zVE {ks ls:List Nd} {i:Nat} {k l:Nd} (h:ks[i]?=some k) (h2:ls[i]?=some l):zSB (ks.drop i) (ls.drop i)=(eqN k l&&zSB (ks.drop (i+1)) (ls.drop (i+1))):=by
  have a:=(zg h);have b:=(zg h2);obtain ⟨a1,a2⟩:=a;obtain ⟨b1,b2⟩:=b;rw [zmL a1,zmL b1,a2,b2,zSB]
section
variable {C:CSpec} {GT:zG_}
theorem zgB (n m:Nd) (b:Bool) (hE:∀ H,C zd [zGw n,zGw m,.fn zAk [] []] H (.bool b) H) (H:Heap):EFun C GT zPm [ndV n,ndV m] H (.bool (zjV n m&&b)) H:=by
  refine zJ<|zCR (x:=ndV n) rfl<|zCR (x:=ndV m) rfl ?_
  unfold zjV;cases e1:(n.kind==m.kind) with
  | false => refine zA (.int IntKind.i64 n.kind) hP rfl ?_
             refine sX ?_;exact zAv rfl rfl rfl rfl hO
  | true=>
    cases e2:(n.num==m.num) with
    | false => refine zA (.int IntKind.i64 n.kind) hP rfl ?_
               refine sX ?_;exact zAv rfl rfl rfl rfl hO
    | true=>
      cases e3:(n.text==m.text) with
      | false => refine zA (.int IntKind.i64 n.kind) hP rfl ?_
                 refine sX ?_;exact sRv
      | true=>
        cases e4:zdh n.ref m.ref with
        | false=>
          have e4':zTa false ((n.ref.col==m.ref.col)&&((n.ref.row==m.ref.row)&&((n.ref.fc==m.ref.fc)&&((n.ref.fr==m.ref.fr)&&true))))=false:=e4;refine zA (.int IntKind.i64 n.kind) hP rfl<|zA (.int IntKind.i64 m.kind) zB rfl<|zn e1<|zA (.int IntKind.i64 n.num) hP rfl<|zA (.int IntKind.i64 m.num) zB rfl<|zE<|zn e2<|zA (.str n.text) hP rfl<|zA (.str m.text) zB rfl<|zE<|zn e3<|zA (.agg [.int .i64 n.ref.col,.int .i64 n.ref.row,.bool n.ref.fc,.bool n.ref.fr]) hP rfl<|zA (.agg [.int .i64 m.ref.col,.int .i64 m.ref.row,.bool m.ref.fc,.bool m.ref.fr]) zB rfl<|zx rfl<|zE<|zi e4'<|sX ?_
          exact sRv
        | true=>
          have e4':zTa false ((n.ref.col==m.ref.col)&&((n.ref.row==m.ref.row)&&((n.ref.fc==m.ref.fc)&&((n.ref.fr==m.ref.fr)&&true))))=true:=e4;cases e5:zdh n.to m.to with
          | false=>
            have e5':zTa false ((n.to.col==m.to.col)&&((n.to.row==m.to.row)&&((n.to.fc==m.to.fc)&&((n.to.fr==m.to.fr)&&true))))=false:=e5;refine zA (.int IntKind.i64 n.kind) hP rfl<|zA (.int IntKind.i64 m.kind) zB rfl<|zn e1<|zA (.int IntKind.i64 n.num) hP rfl<|zA (.int IntKind.i64 m.num) zB rfl<|zE<|zn e2<|zA (.str n.text) hP rfl<|zA (.str m.text) zB rfl<|zE<|zn e3<|zA (.agg [.int .i64 n.ref.col,.int .i64 n.ref.row,.bool n.ref.fc,.bool n.ref.fr]) hP rfl<|zA (.agg [.int .i64 m.ref.col,.int .i64 m.ref.row,.bool m.ref.fc,.bool m.ref.fr]) zB rfl<|zx rfl<|zE<|zn e4'<|zA (.agg [.int .i64 n.to.col,.int .i64 n.to.row,.bool n.to.fc,.bool n.to.fr]) hP rfl ?_
            refine zA (.agg [.int .i64 m.to.col,.int .i64 m.to.row,.bool m.to.fc,.bool m.to.fr]) zB rfl<|zx rfl<|zE<|zi e5'<|sX ?_
            exact sRv
          | true=>
            have e5':zTa false ((n.to.col==m.to.col)&&((n.to.row==m.to.row)&&((n.to.fc==m.to.fc)&&((n.to.fr==m.to.fr)&&true))))=true:=e5;refine zA (.int IntKind.i64 n.kind) hP rfl<|zA (.int IntKind.i64 m.kind) zB rfl<|zn e1<|zA (.int IntKind.i64 n.num) hP rfl<|zA (.int IntKind.i64 m.num) zB rfl<|zE<|zn e2<|zA (.str n.text) hP rfl<|zA (.str m.text) zB rfl<|zE<|zn e3<|zA (.agg [.int .i64 n.ref.col,.int .i64 n.ref.row,.bool n.ref.fc,.bool n.ref.fr]) hP rfl<|zA (.agg [.int .i64 m.ref.col,.int .i64 m.ref.row,.bool m.ref.fc,.bool m.ref.fr]) zB rfl<|zx rfl<|zE<|zn e4'<|zA (.agg [.int .i64 n.to.col,.int .i64 n.to.row,.bool n.to.fc,.bool n.to.fr]) hP rfl ?_
            refine zA (.agg [.int .i64 m.to.col,.int .i64 m.to.row,.bool m.to.fc,.bool m.to.fr]) zB rfl<|zx rfl<|zE<|zn e5'<|sX ?_
            exact sRv
theorem zc8 (xv yv:AV) (ks ls:List Nd) (hxv:zDe xv 12 (ks.map ndV)) (hyv:zDe yv 12 (ls.map ndV)) (hl:ks.length<=1000000) (hS:∀ k∈ks,∀ l H,C zAk [ndV k,ndV l] H (.bool (eqN k l)) H) (H:Heap) :
    EFun C GT zAT [xv,yv,.fn zAk [] []] H (.bool (zSB ks ls)) H:=by
  have hlm:(ks.map ndV).length=ks.length:=zlM _;have hlm2:(ls.map ndV).length=ls.length:=zlM _;refine zJ ?_;by_cases hne:ks.length=ls.length
  · refine sX ?_
    refine zi (zle.2 tO)<|sX ?_
    refine zBG (fun i:Nat=>[(17,zK i),(2,.fn zAk [] []),(1,yv),(15,xv),(16,zK ks.length)]) (fun i H'=>Old H H'/\i<=ks.length/\zSB (ks.drop i) (ls.drop i)=zSB ks ls) (fun i=>ks.length-i) 0 rfl ⟨Old.refl _,by omega,rfl⟩ (fun i H1 hi=>?_);obtain ⟨hO,hi,hq⟩:=hi;dsimp only;by_cases hlt:i<ks.length
    · obtain ⟨k,hk⟩:∃ k,ks[i]?=some k:=⟨_,zlI hlt⟩
      obtain ⟨l,hl2⟩:∃ l,ls[i]?=some l:=⟨_,zlI tO⟩;have hkm:(ks.map ndV)[i]?=some (ndV k):=by rw [zlQ,hk];rfl
      have hkm2:(ls.map ndV)[i]?=some (ndV l):=by rw [zlQ,hl2];rfl
      have hs:=hS k (zlX hk) l;rw [zVE hk hl2] at hq;clear hS;cases e:eqN k l with
      | true=>
        rw [e] at hs hq;refine sX ?_;refine sSA (ndV k) ?_;refine sX ?_;refine sSA (ndV l) ?_;refine sX ?_;refine zS (r:=i+1) rfl tO ?_;refine zAR (i+1) rfl ⟨(((hO.push _).set hO.1 _).push _).set (by rw [zlP,zlH];have:=hO.1;omega) _,by omega,hq⟩ tO
      | false=>
        rw [e] at hs hq;rw [<-hq];refine sX ?_;refine sSA (ndV k) ?_;refine sX ?_;refine sSA (ndV l) ?_;refine sX ?_;exact zAv rfl rfl rfl rfl ((((hO.push _).set hO.1 _).push _).set (by rw [zlP,zlH];have:=hO.1;omega) _)
    · rw [zl3 tO,zl3 tO] at hq
      rw [<-hq];refine sX ?_;exact sRv
  · have e:zSB ks ls=false:=by
      cases e:zSB ks ls with
      |false=>rfl
      |true=>exact absurd (zTU e) hne
    rw [e];refine sX ?_;refine zn (zlz.2 tO) ?_;exact sRv
theorem zc9 (hS:∀ n m b,(∀ H,C zd [zGw n,zGw m,.fn zAk [] []] H (.bool b) H)->∀ H,C zAk [ndV n,ndV m] H (.bool (zjV n m&&b)) H)
    (hE:∀ (xv yv:AV) (ks ls:List Nd),zDe xv 12 (ks.map ndV)->zDe yv 12 (ls.map ndV)->ks.length<=1000000->(∀ k∈ks,∀ l H,C zAk [ndV k,ndV l] H (.bool (eqN k l)) H)->∀ H,C zd [xv,yv,.fn zAk [] []] H (.bool (zSB ks ls)) H)
    {x:Bool} {n:Nd} (h:Wf x n):(txt n).length<=1000->∀ m H,C zAk [ndV n,ndV m] H (.bool (eqN n m)) H:=by
  have node:∀ n:Nd,n.kids.length<=1000000->(∀ k∈n.kids,∀ l H,C zAk [ndV k,ndV l] H (.bool (eqN k l)) H)->∀ m H,C zAk [ndV n,ndV m] H (.bool (eqN n m)) H:=fun n hl hk m=>by
    rw [zg1];exact hS n m _ (hE _ _ n.kids m.kids (zAE n) (zAE m) hl hk)
  have leaf:∀ n:Nd,n.kids=[]->∀ m H,C zAk [ndV n,ndV m] H (.bool (eqN n m)) H:=fun n hk=>node n (by rw [hk];simp) (by rw [hk];simp);induction h with
  |num _ n h=>exact fun _=>leaf _ rfl
  |txt _ t=>exact fun _=>leaf _ rfl
  |tru _ b=>exact fun _=>leaf _ rfl
  |bad _ k h=>exact fun _=>leaf _ rfl
  |ref _ r h=>exact fun _=>leaf _ rfl
  |box r o h k=>exact fun _=>leaf _ rfl
  | neg _ n h ih=>
    intro hl;rw [zE9] at hl;simp only [zlE,zBl] at hl;refine node _ (by show [n].length<=1000000;simp) fun k hk=>?_;have hk:k∈[n]:=hk;rw [zls.1 hk];exact ih tO
  | two _ op a b h ha hb iha ihb=>
    intro hl;rw [zEg] at hl;simp only [zlH,zBl] at hl;refine node _ (by show [a,b].length<=1000000;simp) fun k hk=>?_;have hk:k∈[a,b]:=hk;rcases zmC.1 hk with rfl|hk
    · exact iha tO
    · rw [zls.1 hk]
      exact ihb tO
  | call _ t ks h hk ih=>
    intro hl;rw [zDH] at hl;simp only [zlH,zlE] at hl;have hj:=zGD (ks.map txt);refine node _ (by show ks.length<=1000000;have:=hj.1;rw [zlM] at this;omega) fun k hk'=>?_;have hk':k∈ks:=hk';exact ih k hk' (by have:=hj.2 (txt k) (zmV hk');omega)
end
end Go.AM
