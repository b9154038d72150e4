/- Several texts of mine in one (Bu6, Bu7, Bu8, Pr1, Bu3). Own work. -/
import Derived.Test.YtafclpcpdmeodaaGreatDoorGAm30Fp1
import Derived.Test.YtafclpcpdmeodaaGreatDoorGBu2Rt1
import Derived.Test.YtafclpcpdmeodaaGreatDoorGRt2Kd
import Derived.Test.YtafclpcpdmeodaaGreatDoorXc
import Derived.Test.YtafclpcpdmeodaaGreatDoorGRffRfi
set_option linter.all false
set_option maxRecDepth 20000
namespace Go.AM
section
variable {C:CSpec} {GT:Nat->Option AV}
theorem write_neg (hWb:WbH C) (n:Nd) (hTi:∀ H,C zAh [ndV n] H (zJ (zEe n)) H) (hBr:BrH C n) (H0:Heap) (b:Nat) (u:Bs) (H:Heap) (hB:BAt H0 H b u) (hO:Old H0 H) (hl:u.length+(txt (zDJ n)).length<=1000000) (hb:b<H.length) :
  zEy C GT zGS [bR b,ndV (zDJ n)] H (wrQ H0 H b (u++txt (zDJ n))):=by
 have hx:decide ((zEe n:Int)<5)=decide (zf n<9):=by
  rw [zRr,<-tightP_lt n];omega
 rw [zE3] at hl ⊢;rw [<-hx] at hl ⊢;rw [zQO] at hl;obtain ⟨H2,hw2,h2⟩:=hWb H0 b u 45 _ (hB.push (.box (ndV (zDJ n)).cells)) (hO.push _) tO;have hn2:H2[H.length]?=some (.box (ndV (zDJ n)).cells):=h2.2.2.2 _ _ tO (by intro xs e;cases e) zB;obtain ⟨H3,hw3,h3⟩:=hBr (decide ((zEe n:Int)<5)) H0 b _ _ h2.1 h2.2.1 h2.1.lt (by simp only [zQR,zQO,zQV];omega);have e:u++45::brk (decide ((zEe n:Int)<5)) (txt n)=u++[45]++brk (decide ((zEe n:Int)<5)) (txt n):=by simp
 rw [e];clear hWb hBr;unfold zEy;refine sX ?_;refine zE6 0 (ndV n) (zAC (zDJ n)) rfl rfl<|sX ?_;refine zE6 0 (ndV n) (zAC (zDJ n)) rfl rfl<|sX ?_
 exact zNE (zLF rfl rfl) ⟨rfl,h3.1,h3.2.1,((KpB.push0 b H _).trans h2.2.2).trans h3.2.2⟩
theorem write_two (hT:WtH C) (op:Nat) (n m:Nd) (hTi:∀ H,C zAh [ndV n] H (zJ (zEe n)) H) (hTm:∀ H,C zAh [ndV m] H (zJ (zEe m)) H) (hTt:∀ H,C zAh [ndV (zAl op n m)] H (zJ (tight op)) H) (hSg:∀ H,C zEJ [zK op] H (.str (opT op)) H) (hBr:BrH C n) (hBm:BrH C m) (H0:Heap) (b:Nat) (u:Bs) (H:Heap) (hB:BAt H0 H b u) (hO:Old H0 H) (hl:u.length+(txt (zAl op n m)).length<=1000000) (hb:b<H.length) :
  zEy C GT zGS [bR b,ndV (zAl op n m)] H (wrQ H0 H b (u++txt (zAl op n m))):=by
 have ht:=zDv op;have hP:∀ k:Nd,(zEe k=zf k/\zf k<=4)\/(zEe k=5/\zf k=9):=fun k=>by
  unfold zEe zf;split
  ·have:=zDv k.num.toNat;exact .inl ⟨rfl,this.2⟩
  ·exact .inr ⟨rfl,rfl⟩
 have hx:decide ((zEe n:Int)<(tight op:Nat))=decide (zf n<tight op):=by
  rw [zRr];have:=hP n;omega
 have hy:decide ((zEe m:Int)<=(tight op:Nat))=decide (zf m<=tight op):=by
  rw [zRr];have:=hP m;omega
 rw [zEY] at hl ⊢;rw [<-hx,<-hy] at hl ⊢;simp only [zQR] at hl;obtain ⟨H2,hw2,h2⟩:=hBr (decide ((zEe n:Int)<(tight op:Nat))) H0 b u _ (hB.push (.box (ndV (zAl op n m)).cells)) (hO.push _) (by rw [zQR];omega) tO;have hn2:H2[H.length]?=some (.box (ndV (zAl op n m)).cells):=h2.2.2.2 _ _ tO (by intro xs e;cases e) zB;obtain ⟨H3,hw3,h3⟩:=hT H0 b _ (opT op) _ h2.1 h2.2.1 (by simp only [zQR];omega);have hn3:H3[H.length]?=some (.box (ndV (zAl op n m)).cells):=h3.2.2.2 _ _ tO (by intro xs e;cases e) hn2;obtain ⟨H4,hw4,h4⟩:=hBm (decide ((zEe m:Int)<=(tight op:Nat))) H0 b _ _ h3.1 h3.2.1 h3.1.lt (by simp only [zQR];omega);rw [<-List.append_assoc,<-List.append_assoc];clear hT hBr hBm;unfold zEy;refine zBr (x:=ndV (zAl op n m)) rfl<|zA (AV.int IntKind.i64 (zAl op n m).kind) zB rfl<|sW ?_;refine zA (AV.lst (some (zAl op n m).kq) (zAl op n m).kk (kxs (zAl op n m))) zB rfl<|zE6 0 (ndV n) (zAC (zAl op n m)) rfl rfl<|sW ?_;refine zA (AV.lst (some (zAl op n m).kq) (zAl op n m).kk (kxs (zAl op n m))) zB rfl<|zE6 0 (ndV n) (zAC (zAl op n m)) rfl rfl<|zA4 (ndV n) rfl<|zM (hTi _)<|zA (ndV (zAl op n m)) zB rfl<|zM (hTt _)<|zCM hw2 (fun h=>nomatch h)<|zA (zK op) hn2 rfl<|zM (hSg _)<|zCM hw3 (fun h=>nomatch h)<|zA (zGj (zAl op n m)) hn3 rfl<|zE6 1 (ndV m) (zAC (zAl op n m)) rfl rfl<|sW ?_
 refine zA (zGj (zAl op n m)) hn3 rfl<|zE6 1 (ndV m) (zAC (zAl op n m)) rfl rfl<|zA4 (ndV m) rfl<|zM (hTm _)<|zA (ndV (zAl op n m)) hn3 rfl<|zM (hTt _)<|zCM hw4 (fun h=>nomatch h) ?_
 exact zNE (zLF rfl rfl) ⟨rfl,h4.1,h4.2.1,(((KpB.push0 b H _).trans h2.2.2).trans h3.2.2).trans h4.2.2⟩
end
end Go.AM
set_option maxRecDepth 20000
namespace Go.AM
theorem joinC_snoc:∀ (l:List Bs) (x:Bs),zAw (l++[x])=if l=[] then x else zAw l++44::x
 |[],x=>by simp [zAw]
 |[a],x=>by simp [zAw]
 |a::c::r,x=>by
  have:=joinC_snoc (c::r) x;rw [zQN (by simp)] at this ⊢;show a++44::zAw ((c::r)++[x])=(a++44::zAw (c::r))++44::x;rw [this];simp
theorem joinC_take {ks:List Nd} {i:Nat} {k:Nd} (h:ks[i]?=some k):zAw ((ks.take (i+1)).map txt)=if i=0 then txt k else zAw ((ks.take i).map txt)++44::txt k:=by
 have hl:=(zg h).1;rw [zR5,h,zSU,zQ5,zQe,zQx,joinC_snoc];by_cases e:i=0
 ·subst e;simp
 ·have:(ks.take i).map txt≠[]:=by
   intro h2;have:=zQb List.length h2;rw [zQW,zQk,zQV,zR6 tO] at this;exact e this
  rw [zQN this,zQN e]
theorem zMb:∀ (l:List Bs) (i:Nat),(zAw (l.take i)).length<=(zAw l).length
 |[],i=>by simp
 |[a],0=>by simp [zAw]
 |[a],i+1=>by simp
 |a::c::r,0=>by simp [zAw]
 |a::c::r,1=>by simp [zAw]
 |a::c::r,i+2=>by
  have:=zMb (c::r) (i+1);rw [zSH] at this ⊢;rw [zSH];simp only [zAw,zQR,zQO];omega
theorem set_last {H:Heap} {x y:ABlk}:(H++[x]).set H.length y=H++[y]:=by simp
section
variable {C:CSpec} {GT:Nat->Option AV}
set_option maxHeartbeats 4000000 in
theorem write_call (hT:WtH C) (hWb:WbH C) (t:Bs) (ks:List Nd) (hW:∀ k∈ks,WrH C k) (H0:Heap) (b:Nat) (u:Bs) (H:Heap) (hB:BAt H0 H b u) (hO:Old H0 H) (hl:u.length+(txt (zAv t ks)).length<=1000000) (hb:b<H.length) (hkl:ks.length<=1000000) :
  zEy C GT zGS [bR b,ndV (zAv t ks)] H (wrQ H0 H b (u++txt (zAv t ks))):=by
 have hxv:zDa (zGj (zAv t ks)) 12 (ks.map ndV):=zAC (zAv t ks);have hlm:(ks.map ndV).length=ks.length:=zQW _;rw [zDD] at hl ⊢;simp only [zQR,zQO,zQV] at hl;obtain ⟨H2,hw2,h2⟩:=hT H0 b u (t++[40]) _ (hB.push (.box (ndV (zAv t ks)).cells)) (hO.push _) (by simp;omega);have hn2:H2[H.length]?=some (.box (ndV (zAv t ks)).cells):=h2.2.2.2 _ _ tO (by intro xs e;cases e) zB;clear hT;unfold zEy;refine sX ?_;refine zBA (show t.length+1<=9223372036854775807 by omega)<|sX ?_;refine zBB (fun i:Nat=>[(130,zK i),(0,bR b),(128,zGj (zAv t ks)),(129,zK ks.length)]) (fun i H'=>BTo H0 H2 H' b (u++(t++[40])++zAw ((ks.take i).map txt))/\i<=ks.length) (fun i=>ks.length-i) 0 rfl ⟨?_,by omega⟩ (fun i H1 hi=>?_)
 ·have:BTo H0 H2 H2 b (u++(t++[40])++[]):=by rw [zRk];exact ⟨h2.1,h2.2.1,KpB.refl b _⟩
  exact this
 obtain ⟨hB1,hi⟩:=hi;dsimp only;have hjl:(zAw ((ks.take i).map txt)).length<=(zAw (ks.map txt)).length:=by rw [zTA];exact zMb _ i
 by_cases hlt:i<ks.length
 ·obtain ⟨k,hk⟩:∃ k,ks[i]?=some k:=⟨_,zQS hlt⟩;have hkm:(ks.map ndV)[i]?=some (ndV k):=by rw [zQa,hk];rfl
  have hWk:=hW k (zQh hk);have hjk:=joinC_take hk;have hjl2:(zAw ((ks.take (i+1)).map txt)).length<=(zAw (ks.map txt)).length:=by rw [zTA];exact zMb _ (i+1)
  have hBk:BAt H0 ((H1++[ABlk.box (ndC zZ)]).set H1.length (.box (ndV k).cells)) b (u++(t++[40])++zAw ((ks.take i).map txt)):=by rw [set_last];exact hB1.1.push _
  have hOk:Old H0 ((H1++[ABlk.box (ndC zZ)]).set H1.length (.box (ndV k).cells)):=by rw [set_last];exact hB1.2.1.push _
  have hKk:KpB b H2 ((H1++[ABlk.box (ndC zZ)]).set H1.length (.box (ndV k).cells)):=by rw [set_last];exact hB1.2.2.push _
  have hbk:=hB1.1.lt;clear hW;by_cases h0:i=0
  ·rw [zQQ h0] at hjk;have hj0:zAw ((ks.take i).map txt)=[]:=by rw [h0];rfl
   rw [hj0] at hBk;obtain ⟨H3,hw3,h3⟩:=hWk H0 b _ _ hBk hOk hBk.lt (by rw [hjk] at hjl2;simp;omega);refine sX ?_;refine sSA (ndV k) ?_;refine zk (tF)<|sX ?_;refine zS (r:=i+1) rfl tO ?_;refine zAP (i+1) rfl ⟨?_,by omega⟩ tO
   rw [hjk];rw [zRk] at h3;exact ⟨h3.1,h3.2.1,hKk.trans h3.2.2⟩
  ·rw [zQN h0] at hjk;obtain ⟨H3,hw3,h3⟩:=hWb H0 b _ 44 _ hBk hOk (by simp only [zQR,zQO,zQV];omega);have hn3:H3[H1.length]?=some (.box (ndV k).cells):=h3.2.2.2 _ _ tO (by intro xs e;cases e) hP;obtain ⟨H4,hw4,h4⟩:=hWk H0 b _ _ h3.1 h3.2.1 h3.1.lt (by rw [hjk] at hjl2;simp only [zQR,zQO,zQV] at hjl2 ⊢;omega);clear hWb hWk;refine sX ?_;refine sSA (ndV k) ?_;refine sX ?_;refine zS (r:=i+1) rfl tO ?_;refine zAP (i+1) rfl ⟨?_,by omega⟩ tO;have e:u++(t++[40])++zAw ((ks.take (i+1)).map txt)=u++(t++[40])++zAw ((ks.take i).map txt)++[44]++txt k:=by rw [hjk];simp
   rw [e];exact ⟨h4.1,h4.2.1,(hKk.trans h3.2.2).trans h4.2.2⟩
 ·have ei:i=ks.length:=by omega
  rw [ei,zRs] at hB1;obtain ⟨H3,hw3,h3⟩:=hWb H0 b _ 41 _ hB1.1 hB1.2.1 (by simp;omega);have e:u++(t++40::zAw (ks.map txt)++[41])=u++(t++[40])++zAw (ks.map txt)++[41]:=by simp
  rw [e];clear hWb hW;refine sX ?_;exact zNE (zLF rfl rfl) ⟨rfl,h3.1,h3.2.1,(((KpB.push0 b H _).trans h2.2.2).trans hB1.2.2).trans h3.2.2⟩
end
end Go.AM
set_option maxRecDepth 20000
namespace Go.AM
theorem wf_op {x:Bool} {n:Nd} (h:Wf x n):n.kind=8->1<=n.num/\n.num<=11:=by
 cases h with
 |two _ op a b h=>intro _;have e:(zAl op a b).num=(op:Int):=rfl;rw [e];omega
 |num|txt|tru|bad|ref|box|neg|call=>intro e;cases e
theorem tightP_two (op:Nat) (a b:Nd):zEe (zAl op a b)=tight op:=by show tight (op:Int).toNat=_;rw [zQy]
theorem esc_ge:∀ t:Bs,t.length<=(esc t).length
 |[]=>zQU _
 |c::r=>by
  have:=esc_ge r;unfold esc;split <;> simp only [zQO] <;> omega
section
variable {C:CSpec} {GT:Nat->Option AV}
structure ShowH (C:CSpec):Prop where
 num:∀ (m:Nat) H,C zIH [zK m] H (v3 1 m) H
 snum:∀ (m:Nat),m<=9223372036854775807->∀ H,C zBl [v3 1 m] H (.str (zF1 m)) H
 rep:∀ t:Bs,t.length<=1000000->∀ H,C zBJ [.str t,.str [34],.str [34,34]] H (.str (esc t)) H
 is:∀ (x:Bool) H,C zCh [.bool x] H (v3 3 (if x=true then 1 else 0)) H
 stru:∀ (x:Bool) H,C zBl [v3 3 (if x=true then 1 else 0)] H (.str (if x then zFz else zDY)) H
 wrong:∀ (k:Nat) H,C zCF [zK k] H (v3 4 k) H
 sbad:∀ (k:Nat),1<=k/\k<=6->∀ H,C zBl [v3 4 k] H (.str (wrongs.getD (k-1) [])) H
 ref:∀ (r:RefP),okR r->∀ H,C zCO [rV r] H (.tup [.str (zD2 r),.nili]) H
 tight:∀ (n:Nd),(n.kind=8->1<=n.num/\n.num<=11)->∀ H,C zAh [ndV n] H (zJ (zEe n)) H
 sign:∀ (k:Nat),1<=k/\k<=11->∀ H,C zEJ [zK k] H (.str (opT k)) H
theorem write_all (S:ShowH C) (hT:WtH C) (hWb:WbH C)
  (hmk:∀ n,(∀ H0 b u H,BAt H0 H b u->Old H0 H->b<H.length->u.length+(txt n).length<=1000000->zEy C GT zGS [bR b,ndV n] H (wrQ H0 H b (u++txt n)))->WrH C n)
  (hmb:∀ n,(∀ x H0 b u H,BAt H0 H b u->Old H0 H->b<H.length->u.length+(brk x (txt n)).length<=1000000->zEy C GT zNM [bR b,ndV n,.bool x] H (wrQ H0 H b (u++brk x (txt n))))->BrH C n)
  {x:Bool} {n:Nd} (h:Wf x n):(txt n).length<=1000000->WrH C n:=by
 have hbr:∀ m,WrH C m->BrH C m:=fun m hm=>hmb m fun x H0 b u H hB hO hb hl=>brackets_ev hWb m hm x H0 b u H hB hO hl hb;induction h with
 |num _ m h=>exact fun _=>hmk _ fun H0 b u H hB hO hb hl=>write_num hT m (S.num m) (S.snum m h) H0 b u H hB hO (by rwa [zLH,zQy] at hl)
 |txt _ t=>
  intro h1;rw [zLI] at h1;simp only [zQR,zQO,zQV] at h1;have:=esc_ge t;exact hmk _ fun H0 b u H hB hO hb hl=>write_txt hT t (S.rep t tO) H0 b u H hB hO (by rw [zLI] at hl;simp only [zQR,zQO,zQV] at hl;omega)
 |tru _ b=>
  exact fun _=>hmk _ fun H0 c u H hB hO hb hl=>by
   rw [zLJ] at hl ⊢;exact write_tru hT b (S.is b) (S.stru b) H0 c u H hB hO hl
 |bad _ k h=>
  exact fun _=>hmk _ fun H0 b u H hB hO hb hl=>by
   rw [zQC] at hl ⊢;exact write_bad hT k _ (S.wrong k) (S.sbad k h) H0 b u H hB hO hl
 |ref _ r h=>exact fun _=>hmk _ fun H0 b u H hB hO hb hl=>write_ref hT r (S.ref r h) H0 b u H hB hO hl hb
 |box r o h k=>exact fun _=>hmk _ fun H0 b u H hB hO hb hl=>write_box hT r o (S.ref r h) (S.ref o k) H0 b u H hB hO hl hb
 |neg _ m h ih=>
  intro h1;rw [zE3] at h1;simp only [zQO,zBh] at h1;have hm:=ih tO;exact hmk _ fun H0 b u H hB hO hb hl=>write_neg hWb m (S.tight m (wf_op h)) (hbr m hm) H0 b u H hB hO hl hb
 |two _ op a c h ha hc iha ihc=>
  intro h1;rw [zEY] at h1;simp only [zQR,zBh] at h1;have h2:=iha tO;have h3:=ihc tO;exact hmk _ fun H0 b u H hB hO hb hl=>write_two hT op a c (S.tight a (wf_op ha)) (S.tight c (wf_op hc)) (by have:=S.tight (zAl op a c) (wf_op (Wf.two true op a c h ha hc));rwa [tightP_two] at this) (S.sign op h) (hbr a h2) (hbr c h3) H0 b u H hB hO hl hb
 |call _ t ks h hk ih=>
  intro h1;have h4:=h1;rw [zDD] at h1;simp only [zQR,zQO] at h1;have hj:=zF2 (ks.map txt);have hm:∀ k∈ks,WrH C k:=fun k hk=>ih k hk (by have:=hj.2 (txt k) (zRf hk);omega);exact hmk _ fun H0 b u H hB hO hb hl=>write_call hT hWb t ks hm H0 b u H hB hO hl hb (by have:=hj.1;rw [zQW] at this;omega)
end
end Go.AM
set_option maxRecDepth 20000
namespace Go.AM
section
variable {C:CSpec} {GT:Nat->Option AV}
def bareB (n:Nd) (k:Nat):Bool:=((n.kids.length:Int)==(k:Int))&&(n.text==([]:Bs))
set_option maxHeartbeats 4000000 in
theorem formc1_ev (n:Nd) (k c:Nat) (H:Heap) (hc:H[c]?=some (.box (ndV n).cells)):EFun C GT zHh [zK k,bR c] H (.bool (bareB n k)) H:=by
 have hxv:=zAC n;have hlm:(n.kids.map ndV).length=n.kids.length:=zQW _;unfold bareB;refine zI ?_;cases e1:((n.kids.length:Int)==(k:Int)) with
 |true=>
  refine sX ?_;exact sRv
 |false=>
  refine sX ?_;exact sRv
def FcH (C:CSpec):Prop:=∀ (n:Nd) (k c:Nat) H,H[c]?=some (.box (ndV n).cells)->C zAa [zK k,bR c] H (.bool (bareB n k)) H
def FmH (C:CSpec) (x:Bool) (n:Nd):Prop:=∀ H,C zAk [ndV n,.bool x] H (.bool true) H
set_option maxHeartbeats 4000000 in
theorem form_num (hB:FcH C) (x:Bool) (m:Nat) (H:Heap):EFun C GT zAu [ndV (zJ7 m),.bool x] H (.bool true) H:=by
 have hb:∀ H',(H++[.box (ndV (zJ7 m)).cells])=H'->C zAa [zK 0,bR H.length] H' (.bool true) H':=fun H' e=>by rw [<-e];exact hB (zJ7 m) 0 _ _ zB
 clear hB;refine zI<|zBr (x:=ndV (zJ7 m)) rfl<|zA (AV.agg [.int .i64 (zJ7 ↑m).ref.col,.int .i64 (zJ7 ↑m).ref.row,AV.bool (zJ7 ↑m).ref.fc,AV.bool (zJ7 ↑m).ref.fr]) zB rfl<|zy (v:=zP) rfl<|zy rfl<|zD<|zA (AV.agg [.int .i64 (zJ7 ↑m).to.col,.int .i64 (zJ7 ↑m).to.row,AV.bool (zJ7 ↑m).to.fc,AV.bool (zJ7 ↑m).to.fr]) zB rfl<|zy (v:=zP) rfl<|zy rfl<|zD<|zA (AV.int IntKind.i64 (zJ7 ↑m).kind) zB rfl ?_
 refine zD<|zM (hb _ rfl)<|zD<|zD<|zD<|zA (AV.int IntKind.i64 (zJ7 ↑m).num) zB rfl<|zD ?_
 exact sRv
set_option maxHeartbeats 4000000 in
theorem form_txt (x:Bool) (t:Bs) (H:Heap):EFun C GT zAu [ndV (zHP t),.bool x] H (.bool true) H:=by
 refine zI ?_;have hxv:=zAC (zHP t);refine zBr (x:=ndV (zHP t)) rfl<|sW ?_;refine zBC 0 hxv rfl<|sW ?_
 exact zAq rfl rfl rfl rfl ((Old.refl _).push _)
set_option maxHeartbeats 4000000 in
theorem form_tru (hB:FcH C) (x b:Bool) (H:Heap):EFun C GT zAu [ndV (zE5 b),.bool x] H (.bool true) H:=by
 have hb:∀ H',(H++[.box (ndV (zE5 b)).cells])=H'->C zAa [zK 0,bR H.length] H' (.bool true) H':=fun H' e=>by rw [<-e];exact hB (zE5 b) 0 _ _ zB
 clear hB;refine zI<|zBr (x:=ndV (zE5 b)) rfl ?_
 cases b with
 |true=>
  refine zA (AV.agg [.int .i64 (zE5 true).ref.col,.int .i64 (zE5 true).ref.row,AV.bool (zE5 true).ref.fc,AV.bool (zE5 true).ref.fr]) zB rfl<|zy (v:=zP) rfl<|zy rfl<|zD<|zA (AV.agg [.int .i64 (zE5 true).to.col,.int .i64 (zE5 true).to.row,AV.bool (zE5 true).to.fc,AV.bool (zE5 true).to.fr]) zB rfl<|zy (v:=zP) rfl<|zy rfl<|zD<|zA (AV.int IntKind.i64 (zE5 true).kind) zB rfl ?_
  refine zG<|zG<|zD<|zM (hb _ rfl)<|zD<|zD<|zD<|zA (AV.int IntKind.i64 (zE5 true).num) zB rfl<|zG<|zA (AV.int IntKind.i64 (zE5 true).num) zB rfl<|zG<|zD ?_
  exact sRv
 |false=>
  refine zA (AV.agg [.int .i64 (zE5 false).ref.col,.int .i64 (zE5 false).ref.row,AV.bool (zE5 false).ref.fc,AV.bool (zE5 false).ref.fr]) zB rfl<|zy (v:=zP) rfl<|zy rfl<|zD<|zA (AV.agg [.int .i64 (zE5 false).to.col,.int .i64 (zE5 false).to.row,AV.bool (zE5 false).to.fc,AV.bool (zE5 false).to.fr]) zB rfl<|zy (v:=zP) rfl<|zy rfl<|zD<|zA (AV.int IntKind.i64 (zE5 false).kind) zB rfl ?_
  refine zG<|zG<|zD<|zM (hb _ rfl)<|zD<|zD<|zD<|zA (AV.int IntKind.i64 (zE5 false).num) zB rfl<|zD<|zD<|zD ?_
  exact sRv
set_option maxHeartbeats 4000000 in
theorem form_bad (hB:FcH C) (x:Bool) (k:Nat) (h:1<=k/\k<=6) (H:Heap):EFun C GT zAu [ndV (zHR k),.bool x] H (.bool true) H:=by
 have hb:∀ H',(H++[.box (ndV (zHR k)).cells])=H'->C zAa [zK 0,bR H.length] H' (.bool true) H':=fun H' e=>by rw [<-e];exact hB (zHR k) 0 _ _ zB
 clear hB;have c1:decide ((zHR k).num>=1)=true:=tT (by show (1:Int)<=(k:Int);omega);have c2:decide ((zHR k).num<=6)=true:=tT (by show (k:Int)<=6;omega);refine zI<|zBr (x:=ndV (zHR k)) rfl<|zA (AV.agg [.int .i64 (zHR k).ref.col,.int .i64 (zHR k).ref.row,AV.bool (zHR k).ref.fc,AV.bool (zHR k).ref.fr]) zB rfl<|zy (v:=zP) rfl<|zy rfl<|zD<|zA (AV.agg [.int .i64 (zHR k).to.col,.int .i64 (zHR k).to.row,AV.bool (zHR k).to.fc,AV.bool (zHR k).to.fr]) zB rfl<|zy (v:=zP) rfl<|zy rfl<|zD<|zA (AV.int IntKind.i64 (zHR k).kind) zB rfl ?_
 refine zG<|zG<|zG<|zD<|zM (hb _ rfl)<|zD<|zD<|zD<|zA (AV.int IntKind.i64 (zHR k).num) zB rfl<|zD<|zp c1<|zA (AV.int IntKind.i64 (zHR k).num) zB rfl<|zD ?_
 exact zID (v0:=.bool (decide ((zHR k).num<=6))) (by rw [c2]) rfl rfl rfl rfl hO
set_option maxHeartbeats 4000000 in
theorem form_ref (hB:FcH C) (hA:∀ c r,okC c r=true->∀ H,C zAp [zCs c r] H .nili H) (x:Bool) (r:RefP) (h:okC r.col r.row=true) (H:Heap):EFun C GT zAu [ndV (zBz r),.bool x] H (.bool true) H:=by
 have hb:∀ H',(H++[.box (ndV (zBz r)).cells])=H'->C zAa [zK 0,bR H.length] H' (.bool true) H':=fun H' e=>by rw [<-e];exact hB (zBz r) 0 _ _ zB
 have ha:=hA r.col r.row h;have h0:(r.col==(0:Int))=false:=by
  unfold okC at h;simp only [zQP,zQf] at h;exact tN
 have c1:negB false ((r.col==0)&&((r.row==0)&&((r.fc==false)&&((r.fr==false)&&true))))=false:=by rw [h0];rfl
 clear hB hA;refine zI<|zBr (x:=ndV (zBz r)) rfl<|zA (AV.agg [.int .i64 (zBz r).ref.col,.int .i64 (zBz r).ref.row,AV.bool (zBz r).ref.fc,AV.bool (zBz r).ref.fr]) zB rfl<|zy (v:=zP) rfl<|zy rfl<|zk c1<|zG<|zA (AV.int IntKind.i64 (zBz r).kind) zB rfl<|zG<|zG<|zG<|zG<|zD<|zM (hb _ rfl)<|zD<|zA (AV.int IntKind.i64 (zBz r).num) zB rfl<|zD<|zD<|zA (AV.agg [.int .i64 (zBz r).to.col,.int .i64 (zBz r).to.row,AV.bool (zBz r).to.fc,AV.bool (zBz r).to.fr]) zB rfl ?_
 refine zy (v:=zP) rfl<|zy rfl<|zD<|zD<|zA (AV.agg [.int .i64 (zBz r).ref.col,.int .i64 (zBz r).ref.row]) zB rfl<|zM (ha _)<|zy rfl<|zD ?_
 exact sRv
set_option maxHeartbeats 4000000 in
theorem form_box (hB:FcH C) (hA:∀ c r,okC c r=true->∀ H,C zAp [zCs c r] H .nili H) (r o:RefP) (h:okC r.col r.row=true) (h2:okC o.col o.row=true) (H:Heap):EFun C GT zAu [ndV (zAx r o),.bool true] H (.bool true) H:=by
 have hb:∀ H',(H++[.box (ndV (zAx r o)).cells])=H'->C zAa [zK 0,bR H.length] H' (.bool true) H':=fun H' e=>by rw [<-e];exact hB (zAx r o) 0 _ _ zB
 have ha:=hA r.col r.row h;have h0:(r.col==(0:Int))=false:=by
  unfold okC at h;simp only [zQP,zQf] at h;exact tN
 have c1:negB false ((r.col==0)&&((r.row==0)&&((r.fc==false)&&((r.fr==false)&&true))))=false:=by rw [h0];rfl
 have ha2:=hA o.col o.row h2;clear hB hA;refine zI<|zBr (x:=ndV (zAx r o)) rfl<|zA (AV.agg [.int .i64 (zAx r o).ref.col,.int .i64 (zAx r o).ref.row,AV.bool (zAx r o).ref.fc,AV.bool (zAx r o).ref.fr]) zB rfl<|zy (v:=zP) rfl<|zy rfl<|zk c1<|zG<|zA (AV.int IntKind.i64 (zAx r o).kind) zB rfl<|zG<|zG<|zG<|zG<|zG<|zD<|zD<|zM (hb _ rfl)<|zD<|zD<|zA (AV.int IntKind.i64 (zAx r o).num) zB rfl<|zD<|zD<|zA (AV.agg [.int .i64 (zAx r o).ref.col,.int .i64 (zAx r o).ref.row]) zB rfl ?_
 refine zM (ha _)<|zy rfl<|zD<|zD<|zA (AV.agg [.int .i64 (zAx r o).to.col,.int .i64 (zAx r o).to.row]) zB rfl<|zM (ha2 _)<|zy rfl<|zD ?_
 exact sRv
set_option maxHeartbeats 4000000 in
theorem form_neg (hB:FcH C) (x:Bool) (n:Nd) (hF:FmH C false n) (H:Heap):EFun C GT zAu [ndV (zDJ n),.bool x] H (.bool true) H:=by
 have hb:∀ H',(H++[.box (ndV (zDJ n)).cells])=H'->C zAa [zK 1,bR H.length] H' (.bool true) H':=fun H' e=>by rw [<-e];exact hB (zDJ n) 1 _ _ zB
 have hf:∀ H,C zAk [ndV n,.bool false] H (.bool true) H:=hF;have hxv:=zAC (zDJ n);have hk:((zDJ n).kids.map ndV)[0]?=some (ndV n):=rfl;clear hB hF;refine zI<|zBr (x:=ndV (zDJ n)) rfl<|zA (AV.agg [.int .i64 (zDJ n).ref.col,.int .i64 (zDJ n).ref.row,AV.bool (zDJ n).ref.fc,AV.bool (zDJ n).ref.fr]) zB rfl<|zy (v:=zP) rfl<|zy rfl<|zD<|zA (AV.agg [.int .i64 (zDJ n).to.col,.int .i64 (zDJ n).to.row,AV.bool (zDJ n).to.fc,AV.bool (zDJ n).to.fr]) zB rfl<|zy (v:=zP) rfl<|zy rfl<|zD<|zA (AV.int IntKind.i64 (zDJ n).kind) zB rfl ?_
 refine zG<|zG<|zG<|zG<|zG<|zG<|zD<|zM (hb _ rfl)<|zD<|zD<|zD<|zA (AV.int IntKind.i64 (zDJ n).num) zB rfl<|zD<|zD<|zA (AV.lst (some (zDJ n).kq) (zDJ n).kk (kxs (zDJ n))) zB rfl<|zE6 0 (ndV n) hxv rfl hk<|zA4 (ndV n) rfl<|zM (hf _)<|zD ?_
 exact sRv
set_option maxHeartbeats 4000000 in
theorem form_two (hB:FcH C) (x:Bool) (op:Nat) (a b:Nd) (h:1<=op/\op<=11) (hFa:FmH C false a) (hFb:FmH C false b) (H:Heap):EFun C GT zAu [ndV (zAl op a b),.bool x] H (.bool true) H:=by
 have hb:∀ H',(H++[.box (ndV (zAl op a b)).cells])=H'->C zAa [zK 2,bR H.length] H' (.bool true) H':=fun H' e=>by rw [<-e];exact hB (zAl op a b) 2 _ _ zB
 have hf:∀ H,C zAk [ndV a,.bool false] H (.bool true) H:=hFa;have hf2:∀ H,C zAk [ndV b,.bool false] H (.bool true) H:=hFb;have hxv:=zAC (zAl op a b);have hk:((zAl op a b).kids.map ndV)[0]?=some (ndV a):=rfl;have hk2:((zAl op a b).kids.map ndV)[1]?=some (ndV b):=rfl;clear hB hFa hFb;have c1:decide ((zAl op a b).num>=1)=true:=tT (by show (1:Int)<=(op:Int);omega);have c2:decide ((zAl op a b).num<=11)=true:=tT (by show (op:Int)<=11;omega);refine zI<|zBr (x:=ndV (zAl op a b)) rfl<|zA (AV.agg [.int .i64 (zAl op a b).ref.col,.int .i64 (zAl op a b).ref.row,AV.bool (zAl op a b).ref.fc,AV.bool (zAl op a b).ref.fr]) zB rfl<|zy (v:=zP) rfl<|zy rfl<|zD<|zA (AV.agg [.int .i64 (zAl op a b).to.col,.int .i64 (zAl op a b).to.row,AV.bool (zAl op a b).to.fc,AV.bool (zAl op a b).to.fr]) zB rfl<|zy (v:=zP) rfl<|zy rfl ?_
 refine zD<|zA (AV.int IntKind.i64 (zAl op a b).kind) zB rfl<|zG<|zG<|zG<|zG<|zG<|zG<|zG<|zD<|zM (hb _ rfl)<|zD<|zD<|zD<|zA (AV.int IntKind.i64 (zAl op a b).num) zB rfl<|zD<|zp c1<|zA (AV.int IntKind.i64 (zAl op a b).num) zB rfl<|zD<|zp c2<|zA (AV.lst (some (zAl op a b).kq) (zAl op a b).kk (kxs (zAl op a b))) zB rfl<|zE6 0 (ndV a) hxv rfl hk<|zA4 (ndV a) rfl<|zM (hf _)<|zD<|zD<|zA (AV.lst (some (zAl op a b).kq) (zAl op a b).kk (kxs (zAl op a b))) zB rfl<|zE6 1 (ndV b) hxv rfl hk2<|zA4 (ndV b) rfl<|zM (hf2 _) ?_
 refine zD ?_;exact sRv
set_option maxHeartbeats 4000000 in
theorem form_call (hC:∀ t,t.length<=1000->∀ H,C zAz [.str t] H (.bool (zA3 t)) H) (x:Bool) (t:Bs) (ks:List Nd) (hc:zA3 t=true) (ht:t.length<=1000) (hkl:ks.length<=1000000) (hF:∀ k∈ks,FmH C true k) (H:Heap):EFun C GT zAu [ndV (zAv t ks),.bool x] H (.bool true) H:=by
 have hca:=hC t ht;rw [hc] at hca;have hxv:zDa (zGj (zAv t ks)) 12 (ks.map ndV):=zAC (zAv t ks);have hlm:(ks.map ndV).length=ks.length:=zQW _;clear hC;refine zI<|sX ?_;refine zBB (fun i:Nat=>[(198,zK i),(196,zGj (zAv t ks)),(197,zK ks.length)]) (fun i H'=>Old H H'/\i<=ks.length) (fun i=>ks.length-i) 0 rfl ⟨(Old.refl _).push _,by omega⟩ (fun i H1 hi=>?_)
 obtain ⟨hO,hi⟩:=hi;dsimp only;by_cases hlt:i<ks.length
 ·obtain ⟨k,hk⟩:∃ k,ks[i]?=some k:=⟨_,zQS hlt⟩;have hkm:(ks.map ndV)[i]?=some (ndV k):=by rw [zQa,hk];rfl
  have hs:∀ H,C zAk [ndV k,.bool true] H (.bool true) H:=hF k (zQh hk);clear hF;refine sX ?_;refine sSA (ndV k) ?_;refine sX ?_;refine zS (r:=i+1) rfl tO ?_;refine zAP (i+1) rfl ⟨(hO.push _).set hO.1 _,by omega⟩ tO
 ·refine sX ?_;exact sRv
end
end Go.AM
set_option maxRecDepth 20000
namespace Go.AM
mutual
def cnt:Nd->Nat
 |.mk _ _ _ _ _ ks=>1+cnts ks
def cnts:List Nd->Nat
 |[]=>0
 |n::r=>cnt n+cnts r
end
theorem cnt_is (n:Nd):cnt n=1+cnts n.kids:=by cases n;rw [cnt];rfl
theorem cnts_snoc:∀ (l:List Nd) (k:Nd),cnts (l++[k])=cnts l+cnt k
 |[],k=>by simp [cnts]
 |n::r,k=>by rw [zRF,cnts,cnts_snoc r k,cnts];omega
theorem cnts_take {ks:List Nd} {i:Nat} {k:Nd} (h:ks[i]?=some k):cnts (ks.take (i+1))=cnts (ks.take i)+cnt k:=by
 rw [zR5,h,zSU,cnts_snoc]
theorem cnts_le:∀ (ks:List Nd) (i:Nat),cnts (ks.take i)<=cnts ks
 |[],i=>by simp
 |n::r,0=>by simp [cnts]
 |n::r,i+1=>by rw [zSH,cnts,cnts];have:=cnts_le r i;omega
section
variable {C:CSpec} {GT:Nat->Option AV}
set_option maxHeartbeats 4000000 in
theorem count_ev (n:Nd) (hS:∀ k∈n.kids,∀ c l H,H[c]?=some (.box [zK l])->cnt k<=l->l<=1000000->C zCd [ndV k,bR c] H (.bool true) (H.set c (.box [zK (l-cnt k)])))
  (hkl:n.kids.length<=1000000) (c l:Nat) (H:Heap) (hc:H[c]?=some (.box [zK l])) (hl:cnt n<=l) (hl2:l<=1000000) :
  zCr C GT zGH [ndV n,bR c] H c [] .undef (some (.bool true,.box [zK (l-cnt n)])):=by
 have hxv:=zAC n;have hcl:=(zg hc).1;have hlm:(n.kids.map ndV).length=n.kids.length:=zQW _;rw [cnt_is] at hl ⊢;refine zAH<|sX ?_
 have hc1:(H++[ABlk.box (ndV n).cells])[c]?=some (.box [zK l]):=zF hc;have w1:IntKind.i64.wrap ((l:Int)-1)=((l-1:Nat):Int):=by rw [IntKind.wrap_i64];omega
 have hc2:((H++[ABlk.box (ndV n).cells]).set c (.box [zK (l-1)]))[c]?=some (.box [zK (l-1)]):=set_atL (by simp;omega);have hn2:((H++[ABlk.box (ndV n).cells]).set c (.box [zK (l-1)]))[H.length]?=some (.box (ndV n).cells):=zC tO zB;refine sX ?_;refine zFR w1<|zL [zK (l-1)] hc1 rfl rfl rfl rfl<|zA (zK (l-1)) hc2 rfl<|zk (tF)<|sX ?_;refine zBB (fun i:Nat=>[(19,zK i),(1,bR c),(17,zGj n),(18,zK n.kids.length)]) (fun i H'=>OldB H c (.box [zK (l-1-cnts (n.kids.take i))]) H'/\i<=n.kids.length) (fun i=>n.kids.length-i) 0 rfl ⟨?_,by omega⟩ (fun i H1 hi=>?_)
 ·have:OldB H c (.box [zK (l-1-cnts [])]) _:=((OldB.start hc).push [ABlk.box (ndV n).cells]).setB (.box [zK (l-1-cnts [])]);exact this
 obtain ⟨hO,hi⟩:=hi;dsimp only;have hcat:H1[c]?=some (.box [zK (l-1-cnts (n.kids.take i))]):=(hO.old.2 c (by rw [zQZ];exact hcl)).trans (zQr hcl);have hlen:H.length<=H1.length:=by have:=hO.old.1;rwa [zQZ] at this
 by_cases hlt:i<n.kids.length
 ·obtain ⟨k,hk⟩:∃ k,n.kids[i]?=some k:=⟨_,zQS hlt⟩;have hkm:(n.kids.map ndV)[i]?=some (ndV k):=by rw [zQa,hk];rfl
  have hs:=hS k (zQh hk);have ht:=cnts_take hk;have hle:=cnts_le n.kids (i+1);clear hS;refine sX ?_;refine sSA (ndV k) ?_;refine zA (ndV k) hP rfl<|zCM (hs c (l-1-cnts (n.kids.take i)) _ hP tO tO) (fun h=>nomatch h)<|sX ?_;refine zS (r:=i+1) rfl tO ?_;refine zAP (i+1) rfl ⟨?_,by omega⟩ tO
  rw [ht,<-Nat.sub_sub];exact ((hO.push _).set hlen _).setB _
 ·refine sX ?_;have ei:i=n.kids.length:=by omega
  rw [ei,zRs,Nat.sub_sub] at hO;exact sRetO _ rfl rfl rfl rfl rfl hO rfl
end
end Go.AM
