/- Several texts of mine in one (Bu6, Bu7, Bu8, Pr1, Bu3). Own work. -/
import Derived.Test.YtkeblfepjkdleaaGreatDoorGAm30Fp1
import Derived.Test.YtkeblfepjkdleaaGreatDoorGBu2Rt1
import Derived.Test.YtkeblfepjkdleaaGreatDoorGRt2Kd
import Derived.Test.YtkeblfepjkdleaaGreatDoorAc
import Derived.Test.YtkeblfepjkdleaaGreatDoorGRffRfi
set_option maxHeartbeats 4000000
set_option maxRecDepth 20000
set_option linter.all false
namespace Go.AM
section
variable {C:CSpec} {GT:zG_}
theorem zce (hWb:WbH C) (n:Nd) (hTi:∀ H,C zAm [ndV n] H (zH (zEl n)) H) (hBr:BrH C n) (H0:Heap) (b:Nat) (u:Bs) (H:Heap) (hB:BAt H0 H b u) (hO:Old H0 H) (hl:u.length+(txt (zDO n)).length<=1000000) (hb:b<H.length) :
  zE4 C GT zGd [bR b,ndV (zDO n)] H (wrQ H0 H b (u++txt (zDO n))):=by
 have hx:decide ((zEl n:Int)<5)=decide (zf n<9):=by
  rw [zmh,<-zcH n];omega
 rw [zE9] at hl ⊢;rw [<-hx] at hl ⊢;rw [zlE] at hl;obtain ⟨H2,hw2,h2⟩:=hWb H0 b u 45 _ (hB.push (.box (ndV (zDO n)).cells)) (hO.push _) tO;have hn2:H2[H.length]?=some (.box (ndV (zDO n)).cells):=h2.2.2.2 _ _ tO (by intro xs e;cases e) zB;obtain ⟨H3,hw3,h3⟩:=hBr (decide ((zEl n:Int)<5)) H0 b _ _ h2.1 h2.2.1 h2.1.lt (by simp only [zlH,zlE,zlL];omega);have e:u++45::brk (decide ((zEl n:Int)<5)) (txt n)=u++[45]++brk (decide ((zEl n:Int)<5)) (txt n):=by simp
 rw [e];clear hWb hBr;unfold zE4;refine sX ?_;refine zFD 0 (ndV n) (zAE (zDO n)) rfl rfl<|sX ?_;refine zFD 0 (ndV n) (zAE (zDO n)) rfl rfl<|sX ?_
 exact zNc (zMn rfl rfl) ⟨rfl,h3.1,h3.2.1,((KpB.push0 b H _).trans h2.2.2).trans h3.2.2⟩
theorem zcf (hT:WtH C) (op:Nat) (n m:Nd) (hTi:∀ H,C zAm [ndV n] H (zH (zEl n)) H) (hTm:∀ H,C zAm [ndV m] H (zH (zEl m)) H) (hTt:∀ H,C zAm [ndV (zAr op n m)] H (zH (tight op)) H) (hSg:∀ H,C zER [zK op] H (.str (opT op)) H) (hBr:BrH C n) (hBm:BrH C m) (H0:Heap) (b:Nat) (u:Bs) (H:Heap) (hB:BAt H0 H b u) (hO:Old H0 H) (hl:u.length+(txt (zAr op n m)).length<=1000000) (hb:b<H.length) :
  zE4 C GT zGd [bR b,ndV (zAr op n m)] H (wrQ H0 H b (u++txt (zAr op n m))):=by
 have ht:=zD2 op;have hP:∀ k:Nd,(zEl k=zf k/\zf k<=4)\/(zEl k=5/\zf k=9):=fun k=>by
  unfold zEl zf;split
  ·have:=zD2 k.num.toNat;exact .inl ⟨rfl,this.2⟩
  ·exact .inr ⟨rfl,rfl⟩
 have hx:decide ((zEl n:Int)<(tight op:Nat))=decide (zf n<tight op):=by
  rw [zmh];have:=hP n;omega
 have hy:decide ((zEl m:Int)<=(tight op:Nat))=decide (zf m<=tight op):=by
  rw [zmh];have:=hP m;omega
 rw [zEg] at hl ⊢;rw [<-hx,<-hy] at hl ⊢;simp only [zlH] at hl;obtain ⟨H2,hw2,h2⟩:=hBr (decide ((zEl n:Int)<(tight op:Nat))) H0 b u _ (hB.push (.box (ndV (zAr op n m)).cells)) (hO.push _) (by rw [zlH];omega) tO;have hn2:H2[H.length]?=some (.box (ndV (zAr op n m)).cells):=h2.2.2.2 _ _ tO (by intro xs e;cases e) zB;obtain ⟨H3,hw3,h3⟩:=hT H0 b _ (opT op) _ h2.1 h2.2.1 (by simp only [zlH];omega);have hn3:H3[H.length]?=some (.box (ndV (zAr op n m)).cells):=h3.2.2.2 _ _ tO (by intro xs e;cases e) hn2;obtain ⟨H4,hw4,h4⟩:=hBm (decide ((zEl m:Int)<=(tight op:Nat))) H0 b _ _ h3.1 h3.2.1 h3.1.lt (by simp only [zlH];omega);rw [<-List.append_assoc,<-List.append_assoc];clear hT hBr hBm;unfold zE4;refine zCR (x:=ndV (zAr op n m)) rfl<|zA (.int IntKind.i64 (zAr op n m).kind) zB rfl<|sW ?_;refine zA (.lst (some (zAr op n m).kq) (zAr op n m).kk (kxs (zAr op n m))) zB rfl<|zFD 0 (ndV n) (zAE (zAr op n m)) rfl rfl<|sW ?_;refine zA (.lst (some (zAr op n m).kq) (zAr op n m).kk (kxs (zAr op n m))) zB rfl<|zFD 0 (ndV n) (zAE (zAr op n m)) rfl rfl<|zA9 (ndV n) rfl<|zM (hTi _)<|zA (ndV (zAr op n m)) zB rfl<|zM (hTt _)<|zCI hw2 (fun h=>nomatch h)<|zA (zK op) hn2 rfl<|zM (hSg _)<|zCI hw3 (fun h=>nomatch h)<|zA (zGw (zAr op n m)) hn3 rfl<|zFD 1 (ndV m) (zAE (zAr op n m)) rfl rfl<|sW ?_
 refine zA (zGw (zAr op n m)) hn3 rfl<|zFD 1 (ndV m) (zAE (zAr op n m)) rfl rfl<|zA9 (ndV m) rfl<|zM (hTm _)<|zA (ndV (zAr op n m)) hn3 rfl<|zM (hTt _)<|zCI hw4 (fun h=>nomatch h) ?_
 exact zNc (zMn rfl rfl) ⟨rfl,h4.1,h4.2.1,(((KpB.push0 b H _).trans h2.2.2).trans h3.2.2).trans h4.2.2⟩
end
theorem zR8:∀ (l:List Bs) (x:Bs),zA1 (l++[x])=if l=[] then x else zA1 l++44::x
 |[],x=>by simp [zA1]
 |[a],x=>by simp [zA1]
 |a::c::r,x=>by
  have:=zR8 (c::r) x;rw [zlD zS_] at this ⊢;show a++44::zA1 ((c::r)++[x])=(a++44::zA1 (c::r))++44::x;rw [this];simp
theorem zR9 {ks:List Nd} {i:Nat} {k:Nd} (h:ks[i]?=some k):zA1 ((ks.take (i+1)).map txt)=if i=0 then txt k else zA1 ((ks.take i).map txt)++44::txt k:=by
 have hl:=(zl_ h);rw [zmv,h,znJ,zlv,zlU,zln,zR8];by_cases e:i=0
 ·subst e;simp
 ·have:(ks.take i).map txt≠[]:=by
   intro h2;have:=zlR List.length h2;rw [zlM,zla,zlL,zmw tO] at this;exact e this
  rw [zlD this,zlD e]
theorem zMs:∀ (l:List Bs) (i:Nat),(zA1 (l.take i)).length<=(zA1 l).length
 |[],i=>by simp
 |[a],0=>by simp [zA1]
 |[a],i+1=>by simp
 |a::c::r,0=>by simp [zA1]
 |a::c::r,1=>by simp [zA1]
 |a::c::r,i+2=>by
  have:=zMs (c::r) (i+1);rw [zm7] at this ⊢;rw [zm7];simp only [zA1,zlH,zlE];omega
theorem zTO {H:Heap} {x y:ABlk}:(H++[x]).set H.length y=H++[y]:=by simp
section
variable {C:CSpec} {GT:zG_}
theorem zZP (hT:WtH C) (hWb:WbH C) (t:Bs) (ks:List Nd) (hW:∀ k∈ks,WrH C k) (H0:Heap) (b:Nat) (u:Bs) (H:Heap) (hB:BAt H0 H b u) (hO:Old H0 H) (hl:u.length+(txt (zA0 t ks)).length<=1000000) (hb:b<H.length) (hkl:ks.length<=1000000) :
  zE4 C GT zGd [bR b,ndV (zA0 t ks)] H (wrQ H0 H b (u++txt (zA0 t ks))):=by
 have hxv:zDe (zGw (zA0 t ks)) 12 (ks.map ndV):=zAE (zA0 t ks);have hlm:(ks.map ndV).length=ks.length:=zlM _;rw [zDH] at hl ⊢;simp only [zlH,zlE,zlL] at hl;obtain ⟨H2,hw2,h2⟩:=hT H0 b u (t++[40]) _ (hB.push (.box (ndV (zA0 t ks)).cells)) (hO.push _) (by simp;omega);have hn2:H2[H.length]?=some (.box (ndV (zA0 t ks)).cells):=h2.2.2.2 _ _ tO (by intro xs e;cases e) zB;clear hT;unfold zE4;refine sX ?_;refine zBF (show t.length+1<=9223372036854775807 by omega)<|sX ?_;refine zBG (fun i:Nat=>[(130,zK i),(0,bR b),(128,zGw (zA0 t ks)),(129,zK ks.length)]) (fun i H'=>BTo H0 H2 H' b (u++(t++[40])++zA1 ((ks.take i).map txt))/\i<=ks.length) (fun i=>ks.length-i) 0 rfl ⟨?_,by omega⟩ (fun i H1 hi=>?_)
 ·have:BTo H0 H2 H2 b (u++(t++[40])++[]):=by rw [zma];exact ⟨h2.1,h2.2.1,KpB.refl b _⟩
  exact this
 obtain ⟨hB1,hi⟩:=hi;dsimp only;have hjl:(zA1 ((ks.take i).map txt)).length<=(zA1 (ks.map txt)).length:=by rw [zn1];exact zMs _ i
 by_cases hlt:i<ks.length
 ·obtain ⟨k,hk⟩:∃ k,ks[i]?=some k:=⟨_,zlI hlt⟩;have hkm:(ks.map ndV)[i]?=some (ndV k):=by rw [zlQ,hk];rfl
  have hWk:=hW k (zlX hk);have hjk:=zR9 hk;have hjl2:(zA1 ((ks.take (i+1)).map txt)).length<=(zA1 (ks.map txt)).length:=by rw [zn1];exact zMs _ (i+1)
  have hBk:BAt H0 ((H1++[ABlk.box (ndC zZ)]).set H1.length (.box (ndV k).cells)) b (u++(t++[40])++zA1 ((ks.take i).map txt)):=by rw [zTO];exact hB1.1.push _
  have hOk:Old H0 ((H1++[ABlk.box (ndC zZ)]).set H1.length (.box (ndV k).cells)):=by rw [zTO];exact hB1.2.1.push _
  have hKk:KpB b H2 ((H1++[ABlk.box (ndC zZ)]).set H1.length (.box (ndV k).cells)):=by rw [zTO];exact hB1.2.2.push _
  have hbk:=hB1.1.lt;clear hW;by_cases h0:i=0
  ·rw [zlF h0] at hjk;have hj0:zA1 ((ks.take i).map txt)=[]:=by rw [h0];rfl
   rw [hj0] at hBk;obtain ⟨H3,hw3,h3⟩:=hWk H0 b _ _ hBk hOk hBk.lt (by rw [hjk] at hjl2;simp;omega);refine sX ?_;refine sSA (ndV k) ?_;refine zi (tF)<|sX ?_;refine zS (r:=i+1) rfl tO ?_;refine zAR (i+1) rfl ⟨?_,by omega⟩ tO
   rw [hjk];rw [zma] at h3;exact ⟨h3.1,h3.2.1,hKk.trans h3.2.2⟩
  ·rw [zlD h0] at hjk;obtain ⟨H3,hw3,h3⟩:=hWb H0 b _ 44 _ hBk hOk (by simp only [zlH,zlE,zlL];omega);have hn3:H3[H1.length]?=some (.box (ndV k).cells):=h3.2.2.2 _ _ tO (by intro xs e;cases e) hP;obtain ⟨H4,hw4,h4⟩:=hWk H0 b _ _ h3.1 h3.2.1 h3.1.lt (by rw [hjk] at hjl2;simp only [zlH,zlE,zlL] at hjl2 ⊢;omega);clear hWb hWk;refine sX ?_;refine sSA (ndV k) ?_;refine sX ?_;refine zS (r:=i+1) rfl tO ?_;refine zAR (i+1) rfl ⟨?_,by omega⟩ tO;have e:u++(t++[40])++zA1 ((ks.take (i+1)).map txt)=u++(t++[40])++zA1 ((ks.take i).map txt)++[44]++txt k:=by rw [hjk];simp
   rw [e];exact ⟨h4.1,h4.2.1,(hKk.trans h3.2.2).trans h4.2.2⟩
 ·have ei:i=ks.length:=by omega
  rw [ei,zmi] at hB1;obtain ⟨H3,hw3,h3⟩:=hWb H0 b _ 41 _ hB1.1 hB1.2.1 (by simp;omega);have e:u++(t++40::zA1 (ks.map txt)++[41])=u++(t++[40])++zA1 (ks.map txt)++[41]:=by simp
  rw [e];clear hWb hW;refine sX ?_;exact zNc (zMn rfl rfl) ⟨rfl,h3.1,h3.2.1,(((KpB.push0 b H _).trans h2.2.2).trans hB1.2.2).trans h3.2.2⟩
end
theorem zWa {x:Bool} {n:Nd} (h:Wf x n):n.kind=8->1<=n.num/\n.num<=11:=by
 cases h with
 |two _ op a b h=>intro _;have e:(zAr op a b).num=(op:Int):=rfl;rw [e];omega
 |num|txt|tru|bad|ref|box|neg|call=>intro e;cases e
theorem zZQ (op:Nat) (a b:Nd):zEl (zAr op a b)=tight op:=by show tight (op:Int).toNat=_;rw [zlo]
theorem zcg:∀ t:Bs,t.length<=(esc t).length
 |[]=>zlK _
 |c::r=>by
  have:=zcg r;unfold esc;split <;> simp only [zlE] <;> omega
section
variable {C:CSpec} {GT:zG_}
structure ShowH (C:CSpec):Prop where
 num:∀ (m:Nat) H,C zIY [zK m] H (v3 1 m) H
 snum:∀ (m:Nat),m<=9223372036854775807->∀ H,C zBp [v3 1 m] H (.str (zGC m)) H
 rep:∀ t:Bs,t.length<=1000000->∀ H,C zBO [.str t,.str [34],.str [34,34]] H (.str (esc t)) H
 is:∀ (x:Bool) H,C zCm [.bool x] H (v3 3 (if x=true then 1 else 0)) H
 stru:∀ (x:Bool) H,C zBp [v3 3 (if x=true then 1 else 0)] H (.str (if x then zGA else zDc)) H
 wrong:∀ (k:Nat) H,C zCK [zK k] H (v3 4 k) H
 sbad:∀ (k:Nat),1<=k/\k<=6->∀ H,C zBp [v3 4 k] H (.str (wrongs.getD (k-1) [])) H
 ref:∀ (r:RefP),okR r->∀ H,C zCT [rV r] H (.tup [.str (zEA r),.nili]) H
 tight:∀ (n:Nd),(n.kind=8->1<=n.num/\n.num<=11)->∀ H,C zAm [ndV n] H (zH (zEl n)) H
 sign:∀ (k:Nat),1<=k/\k<=11->∀ H,C zER [zK k] H (.str (opT k)) H
theorem zch (S:ShowH C) (hT:WtH C) (hWb:WbH C)
  (hmk:∀ n,(∀ H0 b u H,BAt H0 H b u->Old H0 H->b<H.length->u.length+(txt n).length<=1000000->zE4 C GT zGd [bR b,ndV n] H (wrQ H0 H b (u++txt n)))->WrH C n)
  (hmb:∀ n,(∀ x H0 b u H,BAt H0 H b u->Old H0 H->b<H.length->u.length+(brk x (txt n)).length<=1000000->zE4 C GT zNk [bR b,ndV n,.bool x] H (wrQ H0 H b (u++brk x (txt n))))->BrH C n)
  {x:Bool} {n:Nd} (h:Wf x n):(txt n).length<=1000000->WrH C n:=by
 have hbr:∀ m,WrH C m->BrH C m:=fun m hm=>hmb m fun x H0 b u H hB hO hb hl=>zWS hWb m hm x H0 b u H hB hO hl hb;induction h with
 |num _ m h=>exact fun _=>hmk _ fun H0 b u H hB hO hb hl=>zcO hT m (S.num m) (S.snum m h) H0 b u H hB hO (by rwa [zLY,zlo] at hl)
 |txt _ t=>
  intro h1;rw [zLZ] at h1;simp only [zlH,zlE,zlL] at h1;have:=zcg t;exact hmk _ fun H0 b u H hB hO hb hl=>zcP hT t (S.rep t tO) H0 b u H hB hO (by rw [zLZ] at hl;simp only [zlH,zlE,zlL] at hl;omega)
 |tru _ b=>
  exact fun _=>hmk _ fun H0 c u H hB hO hb hl=>by
   rw [zLa] at hl ⊢;exact zcQ hT b (S.is b) (S.stru b) H0 c u H hB hO hl
 |bad _ k h=>
  exact fun _=>hmk _ fun H0 b u H hB hO hb hl=>by
   rw [zQV] at hl ⊢;exact zcR hT k _ (S.wrong k) (S.sbad k h) H0 b u H hB hO hl
 |ref _ r h=>exact fun _=>hmk _ fun H0 b u H hB hO hb hl=>zcS hT r (S.ref r h) H0 b u H hB hO hl hb
 |box r o h k=>exact fun _=>hmk _ fun H0 b u H hB hO hb hl=>zcT hT r o (S.ref r h) (S.ref o k) H0 b u H hB hO hl hb
 |neg _ m h ih=>
  intro h1;rw [zE9] at h1;simp only [zlE,zBl] at h1;have hm:=ih tO;exact hmk _ fun H0 b u H hB hO hb hl=>zce hWb m (S.tight m (zWa h)) (hbr m hm) H0 b u H hB hO hl hb
 |two _ op a c h ha hc iha ihc=>
  intro h1;rw [zEg] at h1;simp only [zlH,zBl] at h1;have h2:=iha tO;have h3:=ihc tO;exact hmk _ fun H0 b u H hB hO hb hl=>zcf hT op a c (S.tight a (zWa ha)) (S.tight c (zWa hc)) (by have:=S.tight (zAr op a c) (zWa (Wf.two true op a c h ha hc));rwa [zZQ] at this) (S.sign op h) (hbr a h2) (hbr c h3) H0 b u H hB hO hl hb
 |call _ t ks h hk ih=>
  intro h1;have h4:=h1;rw [zDH] at h1;simp only [zlH,zlE] at h1;have hj:=zGD (ks.map txt);have hm:∀ k∈ks,WrH C k:=fun k hk=>ih k hk (by have:=hj.2 (txt k) (zmV hk);omega);exact hmk _ fun H0 b u H hB hO hb hl=>zZP hT hWb t ks hm H0 b u H hB hO hl hb (by have:=hj.1;rw [zlM] at this;omega)
end
section
variable {C:CSpec} {GT:zG_}
def zik (n:Nd) (k:Nat):Bool:=((n.kids.length:Int)==(k:Int))&&(n.text==([]:Bs))
theorem zci (n:Nd) (k c:Nat) (H:Heap) (hc:H[c]?=some (.box (ndV n).cells)):EFun C GT zH0 [zK k,bR c] H (.bool (zik n k)) H:=by
 have hxv:=zAE n;have hlm:(n.kids.map ndV).length=n.kids.length:=zlM _;unfold zik;refine zJ ?_;cases e1:((n.kids.length:Int)==(k:Int)) with
 |true=>
  refine sX ?_;exact sRv
 |false=>
  refine sX ?_;exact sRv
def FcH (C:CSpec):Prop:=∀ (n:Nd) (k c:Nat) H,H[c]?=some (.box (ndV n).cells)->C zAf [zK k,bR c] H (.bool (zik n k)) H
def FmH (C:CSpec) (x:Bool) (n:Nd):Prop:=∀ H,C zAp [ndV n,.bool x] H (.bool true) H
theorem zfu (hB:FcH C) (x:Bool) (m:Nat) (H:Heap):EFun C GT zAz [ndV (zKP m),.bool x] H (.bool true) H:=by
 have hb:∀ H',(H++[.box (ndV (zKP m)).cells])=H'->C zAf [zK 0,bR H.length] H' (.bool true) H':=fun H' e=>by rw [<-e];exact hB (zKP m) 0 _ _ zB
 clear hB;refine zJ<|zCR (x:=ndV (zKP m)) rfl<|zA (.agg [.int .i64 (zKP ↑m).ref.col,.int .i64 (zKP ↑m).ref.row,.bool (zKP ↑m).ref.fc,.bool (zKP ↑m).ref.fr]) zB rfl<|zx (v:=zP) rfl<|zx rfl<|zE<|zA (.agg [.int .i64 (zKP ↑m).to.col,.int .i64 (zKP ↑m).to.row,.bool (zKP ↑m).to.fc,.bool (zKP ↑m).to.fr]) zB rfl<|zx (v:=zP) rfl<|zx rfl<|zE<|zA (.int IntKind.i64 (zKP ↑m).kind) zB rfl ?_
 refine zE<|zM (hb _ rfl)<|zE<|zE<|zE<|zA (.int IntKind.i64 (zKP ↑m).num) zB rfl<|zE ?_
 exact sRv
theorem zfv (x:Bool) (t:Bs) (H:Heap):EFun C GT zAz [ndV (zHd t),.bool x] H (.bool true) H:=by
 refine zJ ?_;have hxv:=zAE (zHd t);refine zCR (x:=ndV (zHd t)) rfl<|sW ?_;refine zBH 0 hxv rfl<|sW ?_
 exact zAv rfl rfl rfl rfl ((Old.refl _).push _)
theorem zfw (hB:FcH C) (x b:Bool) (H:Heap):EFun C GT zAz [ndV (zFC b),.bool x] H (.bool true) H:=by
 have hb:∀ H',(H++[.box (ndV (zFC b)).cells])=H'->C zAf [zK 0,bR H.length] H' (.bool true) H':=fun H' e=>by rw [<-e];exact hB (zFC b) 0 _ _ zB
 clear hB;refine zJ<|zCR (x:=ndV (zFC b)) rfl ?_
 cases b with
 |true=>
  refine zA (.agg [.int .i64 (zFC true).ref.col,.int .i64 (zFC true).ref.row,.bool (zFC true).ref.fc,.bool (zFC true).ref.fr]) zB rfl<|zx (v:=zP) rfl<|zx rfl<|zE<|zA (.agg [.int .i64 (zFC true).to.col,.int .i64 (zFC true).to.row,.bool (zFC true).to.fc,.bool (zFC true).to.fr]) zB rfl<|zx (v:=zP) rfl<|zx rfl<|zE<|zA (.int IntKind.i64 (zFC true).kind) zB rfl ?_
  refine zG<|zG<|zE<|zM (hb _ rfl)<|zE<|zE<|zE<|zA (.int IntKind.i64 (zFC true).num) zB rfl<|zG<|zA (.int IntKind.i64 (zFC true).num) zB rfl<|zG<|zE ?_
  exact sRv
 |false=>
  refine zA (.agg [.int .i64 (zFC false).ref.col,.int .i64 (zFC false).ref.row,.bool (zFC false).ref.fc,.bool (zFC false).ref.fr]) zB rfl<|zx (v:=zP) rfl<|zx rfl<|zE<|zA (.agg [.int .i64 (zFC false).to.col,.int .i64 (zFC false).to.row,.bool (zFC false).to.fc,.bool (zFC false).to.fr]) zB rfl<|zx (v:=zP) rfl<|zx rfl<|zE<|zA (.int IntKind.i64 (zFC false).kind) zB rfl ?_
  refine zG<|zG<|zE<|zM (hb _ rfl)<|zE<|zE<|zE<|zA (.int IntKind.i64 (zFC false).num) zB rfl<|zE<|zE<|zE ?_
  exact sRv
theorem zfx (hB:FcH C) (x:Bool) (k:Nat) (h:1<=k/\k<=6) (H:Heap):EFun C GT zAz [ndV (zHg k),.bool x] H (.bool true) H:=by
 have hb:∀ H',(H++[.box (ndV (zHg k)).cells])=H'->C zAf [zK 0,bR H.length] H' (.bool true) H':=fun H' e=>by rw [<-e];exact hB (zHg k) 0 _ _ zB
 clear hB;have c1:decide ((zHg k).num>=1)=true:=tT (by show (1:Int)<=(k:Int);omega);have c2:decide ((zHg k).num<=6)=true:=tT (by show (k:Int)<=6;omega);refine zJ<|zCR (x:=ndV (zHg k)) rfl<|zA (.agg [.int .i64 (zHg k).ref.col,.int .i64 (zHg k).ref.row,.bool (zHg k).ref.fc,.bool (zHg k).ref.fr]) zB rfl<|zx (v:=zP) rfl<|zx rfl<|zE<|zA (.agg [.int .i64 (zHg k).to.col,.int .i64 (zHg k).to.row,.bool (zHg k).to.fc,.bool (zHg k).to.fr]) zB rfl<|zx (v:=zP) rfl<|zx rfl<|zE<|zA (.int IntKind.i64 (zHg k).kind) zB rfl ?_
 refine zG<|zG<|zG<|zE<|zM (hb _ rfl)<|zE<|zE<|zE<|zA (.int IntKind.i64 (zHg k).num) zB rfl<|zE<|zn c1<|zA (.int IntKind.i64 (zHg k).num) zB rfl<|zE ?_
 exact zHO (v0:=.bool (decide ((zHg k).num<=6))) (by rw [c2]) rfl rfl rfl rfl hO
theorem zfy (hB:FcH C) (hA:∀ c r,okC c r=true->∀ H,C zBd [zCx c r] H .nili H) (x:Bool) (r:RefP) (h:okC r.col r.row=true) (H:Heap):EFun C GT zAz [ndV (zB3 r),.bool x] H (.bool true) H:=by
 have hb:∀ H',(H++[.box (ndV (zB3 r)).cells])=H'->C zAf [zK 0,bR H.length] H' (.bool true) H':=fun H' e=>by rw [<-e];exact hB (zB3 r) 0 _ _ zB
 have ha:=hA r.col r.row h;have h0:(r.col==(0:Int))=false:=by
  unfold okC at h;simp only [zlG,zlV] at h;exact tN
 have c1:zTa false ((r.col==0)&&((r.row==0)&&((r.fc==false)&&((r.fr==false)&&true))))=false:=by rw [h0];rfl
 clear hB hA;refine zJ<|zCR (x:=ndV (zB3 r)) rfl<|zA (.agg [.int .i64 (zB3 r).ref.col,.int .i64 (zB3 r).ref.row,.bool (zB3 r).ref.fc,.bool (zB3 r).ref.fr]) zB rfl<|zx (v:=zP) rfl<|zx rfl<|zi c1<|zG<|zA (.int IntKind.i64 (zB3 r).kind) zB rfl<|zG<|zG<|zG<|zG<|zE<|zM (hb _ rfl)<|zE<|zA (.int IntKind.i64 (zB3 r).num) zB rfl<|zE<|zE<|zA (.agg [.int .i64 (zB3 r).to.col,.int .i64 (zB3 r).to.row,.bool (zB3 r).to.fc,.bool (zB3 r).to.fr]) zB rfl ?_
 refine zx (v:=zP) rfl<|zx rfl<|zE<|zE<|zA (.agg [.int .i64 (zB3 r).ref.col,.int .i64 (zB3 r).ref.row]) zB rfl<|zM (ha _)<|zx rfl<|zE ?_
 exact sRv
theorem zfz (hB:FcH C) (hA:∀ c r,okC c r=true->∀ H,C zBd [zCx c r] H .nili H) (r o:RefP) (h:okC r.col r.row=true) (h2:okC o.col o.row=true) (H:Heap):EFun C GT zAz [ndV (zA2 r o),.bool true] H (.bool true) H:=by
 have hb:∀ H',(H++[.box (ndV (zA2 r o)).cells])=H'->C zAf [zK 0,bR H.length] H' (.bool true) H':=fun H' e=>by rw [<-e];exact hB (zA2 r o) 0 _ _ zB
 have ha:=hA r.col r.row h;have h0:(r.col==(0:Int))=false:=by
  unfold okC at h;simp only [zlG,zlV] at h;exact tN
 have c1:zTa false ((r.col==0)&&((r.row==0)&&((r.fc==false)&&((r.fr==false)&&true))))=false:=by rw [h0];rfl
 have ha2:=hA o.col o.row h2;clear hB hA;refine zJ<|zCR (x:=ndV (zA2 r o)) rfl<|zA (.agg [.int .i64 (zA2 r o).ref.col,.int .i64 (zA2 r o).ref.row,.bool (zA2 r o).ref.fc,.bool (zA2 r o).ref.fr]) zB rfl<|zx (v:=zP) rfl<|zx rfl<|zi c1<|zG<|zA (.int IntKind.i64 (zA2 r o).kind) zB rfl<|zG<|zG<|zG<|zG<|zG<|zE<|zE<|zM (hb _ rfl)<|zE<|zE<|zA (.int IntKind.i64 (zA2 r o).num) zB rfl<|zE<|zE<|zA (.agg [.int .i64 (zA2 r o).ref.col,.int .i64 (zA2 r o).ref.row]) zB rfl ?_
 refine zM (ha _)<|zx rfl<|zE<|zE<|zA (.agg [.int .i64 (zA2 r o).to.col,.int .i64 (zA2 r o).to.row]) zB rfl<|zM (ha2 _)<|zx rfl<|zE ?_
 exact sRv
theorem zf0 (hB:FcH C) (x:Bool) (n:Nd) (hF:FmH C false n) (H:Heap):EFun C GT zAz [ndV (zDO n),.bool x] H (.bool true) H:=by
 have hb:∀ H',(H++[.box (ndV (zDO n)).cells])=H'->C zAf [zK 1,bR H.length] H' (.bool true) H':=fun H' e=>by rw [<-e];exact hB (zDO n) 1 _ _ zB
 have hf:∀ H,C zAp [ndV n,.bool false] H (.bool true) H:=hF;have hxv:=zAE (zDO n);have hk:((zDO n).kids.map ndV)[0]?=some (ndV n):=rfl;clear hB hF;refine zJ<|zCR (x:=ndV (zDO n)) rfl<|zA (.agg [.int .i64 (zDO n).ref.col,.int .i64 (zDO n).ref.row,.bool (zDO n).ref.fc,.bool (zDO n).ref.fr]) zB rfl<|zx (v:=zP) rfl<|zx rfl<|zE<|zA (.agg [.int .i64 (zDO n).to.col,.int .i64 (zDO n).to.row,.bool (zDO n).to.fc,.bool (zDO n).to.fr]) zB rfl<|zx (v:=zP) rfl<|zx rfl<|zE<|zA (.int IntKind.i64 (zDO n).kind) zB rfl ?_
 refine zG<|zG<|zG<|zG<|zG<|zG<|zE<|zM (hb _ rfl)<|zE<|zE<|zE<|zA (.int IntKind.i64 (zDO n).num) zB rfl<|zE<|zE<|zA (.lst (some (zDO n).kq) (zDO n).kk (kxs (zDO n))) zB rfl<|zFD 0 (ndV n) hxv rfl hk<|zA9 (ndV n) rfl<|zM (hf _)<|zE ?_
 exact sRv
theorem zf1 (hB:FcH C) (x:Bool) (op:Nat) (a b:Nd) (h:1<=op/\op<=11) (hFa:FmH C false a) (hFb:FmH C false b) (H:Heap):EFun C GT zAz [ndV (zAr op a b),.bool x] H (.bool true) H:=by
 have hb:∀ H',(H++[.box (ndV (zAr op a b)).cells])=H'->C zAf [zK 2,bR H.length] H' (.bool true) H':=fun H' e=>by rw [<-e];exact hB (zAr op a b) 2 _ _ zB
 have hf:∀ H,C zAp [ndV a,.bool false] H (.bool true) H:=hFa;have hf2:∀ H,C zAp [ndV b,.bool false] H (.bool true) H:=hFb;have hxv:=zAE (zAr op a b);have hk:((zAr op a b).kids.map ndV)[0]?=some (ndV a):=rfl;have hk2:((zAr op a b).kids.map ndV)[1]?=some (ndV b):=rfl;clear hB hFa hFb;have c1:decide ((zAr op a b).num>=1)=true:=tT (by show (1:Int)<=(op:Int);omega);have c2:decide ((zAr op a b).num<=11)=true:=tT (by show (op:Int)<=11;omega);refine zJ<|zCR (x:=ndV (zAr op a b)) rfl<|zA (.agg [.int .i64 (zAr op a b).ref.col,.int .i64 (zAr op a b).ref.row,.bool (zAr op a b).ref.fc,.bool (zAr op a b).ref.fr]) zB rfl<|zx (v:=zP) rfl<|zx rfl<|zE<|zA (.agg [.int .i64 (zAr op a b).to.col,.int .i64 (zAr op a b).to.row,.bool (zAr op a b).to.fc,.bool (zAr op a b).to.fr]) zB rfl<|zx (v:=zP) rfl<|zx rfl ?_
 refine zE<|zA (.int IntKind.i64 (zAr op a b).kind) zB rfl<|zG<|zG<|zG<|zG<|zG<|zG<|zG<|zE<|zM (hb _ rfl)<|zE<|zE<|zE<|zA (.int IntKind.i64 (zAr op a b).num) zB rfl<|zE<|zn c1<|zA (.int IntKind.i64 (zAr op a b).num) zB rfl<|zE<|zn c2<|zA (.lst (some (zAr op a b).kq) (zAr op a b).kk (kxs (zAr op a b))) zB rfl<|zFD 0 (ndV a) hxv rfl hk<|zA9 (ndV a) rfl<|zM (hf _)<|zE<|zE<|zA (.lst (some (zAr op a b).kq) (zAr op a b).kk (kxs (zAr op a b))) zB rfl<|zFD 1 (ndV b) hxv rfl hk2<|zA9 (ndV b) rfl<|zM (hf2 _) ?_
 refine zE ?_;exact sRv
theorem zcj (hC:∀ t,t.length<=1000->∀ H,C zA4 [.str t] H (.bool (zA8 t)) H) (x:Bool) (t:Bs) (ks:List Nd) (hc:zA8 t=true) (ht:t.length<=1000) (hkl:ks.length<=1000000) (hF:∀ k∈ks,FmH C true k) (H:Heap):EFun C GT zAz [ndV (zA0 t ks),.bool x] H (.bool true) H:=by
 have hca:=hC t ht;rw [hc] at hca;have hxv:zDe (zGw (zA0 t ks)) 12 (ks.map ndV):=zAE (zA0 t ks);have hlm:(ks.map ndV).length=ks.length:=zlM _;clear hC;refine zJ<|sX ?_;refine zBG (fun i:Nat=>[(198,zK i),(196,zGw (zA0 t ks)),(197,zK ks.length)]) (fun i H'=>Old H H'/\i<=ks.length) (fun i=>ks.length-i) 0 rfl ⟨(Old.refl _).push _,by omega⟩ (fun i H1 hi=>?_)
 obtain ⟨hO,hi⟩:=hi;dsimp only;by_cases hlt:i<ks.length
 ·obtain ⟨k,hk⟩:∃ k,ks[i]?=some k:=⟨_,zlI hlt⟩;have hkm:(ks.map ndV)[i]?=some (ndV k):=by rw [zlQ,hk];rfl
  have hs:∀ H,C zAp [ndV k,.bool true] H (.bool true) H:=hF k (zlX hk);clear hF;refine sX ?_;refine sSA (ndV k) ?_;refine sX ?_;refine zS (r:=i+1) rfl tO ?_;refine zAR (i+1) rfl ⟨(hO.push _).set hO.1 _,by omega⟩ tO
 ·refine sX ?_;exact sRv
end
mutual
def cnt:Nd->Nat
 |.mk _ _ _ _ _ ks=>1+cnts ks
def cnts:List Nd->Nat
 |[]=>0
 |n::r=>cnt n+cnts r
end
theorem zgx (n:Nd):cnt n=1+cnts n.kids:=by cases n;rw [cnt];rfl
theorem zU5:∀ (l:List Nd) (k:Nd),cnts (l++[k])=cnts l+cnt k
 |[],k=>by simp [cnts]
 |n::r,k=>by rw [zl5,cnts,zU5 r k,cnts];omega
theorem zU6 {ks:List Nd} {i:Nat} {k:Nd} (h:ks[i]?=some k):cnts (ks.take (i+1))=cnts (ks.take i)+cnt k:=by
 rw [zmv,h,znJ,zU5]
theorem zTP:∀ (ks:List Nd) (i:Nat),cnts (ks.take i)<=cnts ks
 |[],i=>by simp
 |n::r,0=>by simp [cnts]
 |n::r,i+1=>by rw [zm7,cnts,cnts];have:=zTP r i;omega
section
variable {C:CSpec} {GT:zG_}
theorem zXk (n:Nd) (hS:∀ k∈n.kids,∀ c l H,H[c]?=some (.box [zK l])->cnt k<=l->l<=1000000->C zCi [ndV k,bR c] H (.bool true) (H.set c (.box [zK (l-cnt k)])))
  (hkl:n.kids.length<=1000000) (c l:Nat) (H:Heap) (hc:H[c]?=some (.box [zK l])) (hl:cnt n<=l) (hl2:l<=1000000) :
  zCw C GT zGS [ndV n,bR c] H c [] .undef (some (.bool true,.box [zK (l-cnt n)])):=by
 have hxv:=zAE n;have hcl:=(zl_ hc);have hlm:(n.kids.map ndV).length=n.kids.length:=zlM _;rw [zgx] at hl ⊢;refine zAJ<|sX ?_
 have hc1:(H++[ABlk.box (ndV n).cells])[c]?=some (.box [zK l]):=zD hc;have w1:IntKind.i64.wrap ((l:Int)-1)=((l-1:Nat):Int):=by rw [IntKind.wrap_i64];omega
 have hc2:((H++[ABlk.box (ndV n).cells]).set c (.box [zK (l-1)]))[c]?=some (.box [zK (l-1)]):=zSs (by simp;omega);have hn2:((H++[ABlk.box (ndV n).cells]).set c (.box [zK (l-1)]))[H.length]?=some (.box (ndV n).cells):=zC tO zB;refine sX ?_;refine zDh w1<|zL [zK (l-1)] hc1 rfl rfl rfl rfl<|zA (zK (l-1)) hc2 rfl<|zi (tF)<|sX ?_;refine zBG (fun i:Nat=>[(19,zK i),(1,bR c),(17,zGw n),(18,zK n.kids.length)]) (fun i H'=>OldB H c (.box [zK (l-1-cnts (n.kids.take i))]) H'/\i<=n.kids.length) (fun i=>n.kids.length-i) 0 rfl ⟨?_,by omega⟩ (fun i H1 hi=>?_)
 ·have:OldB H c (.box [zK (l-1-cnts [])]) _:=((OldB.start hc).push [ABlk.box (ndV n).cells]).setB (.box [zK (l-1-cnts [])]);exact this
 obtain ⟨hO,hi⟩:=hi;dsimp only;have hcat:H1[c]?=some (.box [zK (l-1-cnts (n.kids.take i))]):=(hO.old.2 c (by rw [zlP];exact hcl)).trans (zli hcl);have hlen:H.length<=H1.length:=by have:=hO.old.1;rwa [zlP] at this
 by_cases hlt:i<n.kids.length
 ·obtain ⟨k,hk⟩:∃ k,n.kids[i]?=some k:=⟨_,zlI hlt⟩;have hkm:(n.kids.map ndV)[i]?=some (ndV k):=by rw [zlQ,hk];rfl
  have hs:=hS k (zlX hk);have ht:=zU6 hk;have hle:=zTP n.kids (i+1);clear hS;refine sX ?_;refine sSA (ndV k) ?_;refine zA (ndV k) hP rfl<|zCI (hs c (l-1-cnts (n.kids.take i)) _ hP tO tO) (fun h=>nomatch h)<|sX ?_;refine zS (r:=i+1) rfl tO ?_;refine zAR (i+1) rfl ⟨?_,by omega⟩ tO
  rw [ht,<-Nat.sub_sub];exact ((hO.push _).set hlen _).setB _
 ·refine sX ?_;have ei:i=n.kids.length:=by omega
  rw [ei,zmi,Nat.sub_sub] at hO;exact zSt _ rfl rfl rfl rfl rfl hO rfl
end
end Go.AM
