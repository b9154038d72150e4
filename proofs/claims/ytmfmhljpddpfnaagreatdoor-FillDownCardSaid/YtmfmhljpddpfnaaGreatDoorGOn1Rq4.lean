/- Texts of mine in one. Own work. -/
import Derived.Test.YtmfmhljpddpfnaaGreatDoorGBu3Itb
import Derived.Test.YtmfmhljpddpfnaaGreatDoorGRfdGq
import Derived.Test.YtmfmhljpddpfnaaGreatDoorGAm23Am35
import Derived.Test.YtmfmhljpddpfnaaGreatDoorLc
import Derived.Test.YtmfmhljpddpfnaaGreatDoorGAm31Rf1
import Derived.Test.YtmfmhljpddpfnaaGreatDoorGRt2Pr1
set_option maxHeartbeats 4000000
set_option maxRecDepth 20000
set_option linter.all false
namespace Go.AM
def okRB (r:RefP):Bool:=okC r.col r.row
theorem zLt (r:RefP):okRB r=true↔okR r:=by
  unfold okRB okC okR;simp only [zTo,zoY];exact ⟨fun h=>⟨h.1.1.1,h.1.1.2,h.1.2,h.2⟩,fun h=>⟨⟨⟨h.1,h.2.1⟩,h.2.2.1⟩,h.2.2.2⟩⟩
def inR (r:RefP):Option RefP:=if okRB r then some r else none
theorem zWM {r r':RefP} (h:inR r=some r'):okR r':=by
  unfold inR at h;split at h
  · cases h
    exact (zLt _).1 (by assumption)
  · cases h
def zJ2 (f:RefP->Option RefP) (a b:RefP):Option (RefP×RefP):=match f a with
  |none=>none
  | some x=>match f b with
    |none=>none
    |some y=>some (x,y)
theorem zWN {f:RefP->Option RefP} (hf:∀ r r',okR r->f r=some r'->okR r') (r o:RefP) (p:RefP×RefP) (hr:okR r) (ho:okR o) (h:zJ2 f r o=some p):okR p.1/\okR p.2:=by
  unfold zJ2 at h;cases e1:f r with
  |none=>rw [e1] at h;cases h
  | some x=>
    rw [e1] at h;cases e2:f o with
    |none=>simp only [e2] at h;cases h
    | some y=>
      simp only [e2,zoS] at h;subst h;exact ⟨hf _ _ hr e1,hf _ _ ho e2⟩
def zLu (cols rows:Int) (r:RefP):RefP:=⟨if r.fc then r.col else r.col+cols,if r.fr then r.row else r.row+rows,r.fc,r.fr⟩
def zL0 (cols rows:Int):Chg:=⟨fun r=>inR (zLu cols rows r),zJ2 fun r=>inR (zLu cols rows r)⟩
theorem zbj (cols rows:Int):(zL0 cols rows).ok:=⟨fun _ _ _ h=>zWM h,zWN fun _ _ _ h=>zWM h⟩
def getK (row:Bool) (r:RefP):Int:=if row then r.row else r.col
def setK (row:Bool) (r:RefP) (k:Int):RefP:=if row then ⟨r.col,k,r.fc,r.fr⟩ else ⟨k,r.row,r.fc,r.fr⟩
def insP (row:Bool) (at_ many:Int) (r:RefP):RefP:=if at_<=getK row r then setK row r (getK row r+many) else r
def insC (row:Bool) (at_ many:Int):Chg:=⟨fun r=>inR (insP row at_ many r),zJ2 fun r=>inR (insP row at_ many r)⟩
theorem ziC (row:Bool) (at_ many:Int):(insC row at_ many).ok:=⟨fun _ _ _ h=>zWM h,zWN fun _ _ _ h=>zWM h⟩
def back (at_ many k:Int):Int:=if at_+many<=k then k-many else k
structure Bx where
  c0:Int
  r0:Int
  c1:Int
  r1:Int
def Bx.has (b:Bx) (c r:Int):Bool:=decide (b.c0<=c/\c<=b.c1/\b.r0<=r/\r<=b.r1)
def bxV (b:Bx):AV:=.agg [zK b.c0,zK b.r0,zK b.c1,zK b.r1]
def Bx.ok (b:Bx):Bool:=okC b.c0 b.r0&&(okC b.c1 b.r1&&(decide (b.c0<=b.c1)&&decide (b.r0<=b.r1)))
section
variable {C:CSpec} {GT:zG_}
theorem zfJ (hmk:∀ x n,(∀ H,EFun C GT zAv [ndV n,.bool x] H (.bool true) H)->FmH C x n) (hB:FcH C) (hA:∀ c r,okC c r=true->∀ H,C zAg [ze c r] H .nili H)
    (hC:∀ t,t.length<=1000->∀ H,C zBL [.str t] H (.bool (zA3 t)) H) {x:Bool} {n:Nd} (h:Wf x n):(txt n).length<=1000->FmH C x n:=by
  have ok:∀ r,okR r->okC r.col r.row=true:=fun r h=>(zLt r).2 h;have up:∀ {x:Bool} {n:Nd},Wf false n->FmH C false n->True:=fun _ _=>trivial;induction h with
  |num x m h=>exact fun _=>hmk _ _ fun H=>ze7 hB x m H
  |txt x t=>exact fun _=>hmk _ _ fun H=>ze8 x t H
  |tru x b=>exact fun _=>hmk _ _ fun H=>ze9 hB x b H
  |bad x k h=>exact fun _=>hmk _ _ fun H=>zfA hB x k h H
  |ref x r h=>exact fun _=>hmk _ _ fun H=>zfB hB hA x r (ok r h) H
  |box r o h k=>exact fun _=>hmk _ _ fun H=>zfC hB hA r o (ok r h) (ok o k) H
  | neg x n h ih=>
    intro hl;rw [zEz] at hl;simp only [zoN,zBj] at hl;exact hmk _ _ fun H=>zfD hB x n (ih tO) H
  | two x op a b h ha hb iha ihb=>
    intro hl;rw [zEX] at hl;simp only [zoP,zBj] at hl;exact hmk _ _ fun H=>zfE hB x op a b h (iha tO) (ihb tO) H
  | call x t ks h hk ih=>
    intro hl;rw [zCz] at hl;simp only [zoP,zoN] at hl;have hj:=zF0 (ks.map txt);exact hmk _ _ fun H=>zbe hC x t ks h tO (by have:=hj.1;rw [zoU] at this;omega) (fun k hk'=>ih k hk' (by have:=hj.2 (txt k) (zmh hk');omega)) H
def CtH (C:CSpec) (n:Nd):Prop:=∀ c l H,H[c]?=some (.box [zL l])->cnt n<=l->l<=1000000->C zDY [ndV n,bR c] H (.bool true) (H.set c (.box [zL (l-cnt n)]))
theorem zbk (hmk:∀ n,(∀ c l H,H[c]?=some (.box [zL l])->cnt n<=l->l<=1000000->zCk C GT zGF [ndV n,bR c] H c [] .undef (some (.bool true,.box [zL (l-cnt n)])))->CtH C n)
    {x:Bool} {n:Nd} (h:Wf x n):(txt n).length<=1000->CtH C n:=by
  have leaf:∀ n:Nd,n.kids=[]->CtH C n:=fun n hk=>hmk n fun c l H hc hl hl2=>zWJ n (by rw [hk];simp) (by rw [hk];simp) c l H hc hl hl2;have node:∀ n:Nd,n.kids.length<=1000000->(∀ k∈n.kids,CtH C k)->CtH C n:=fun n hl hk=>hmk n fun c l H hc h1 h2=>zWJ n hk hl c l H hc h1 h2;induction h with
  |num _ n h=>exact fun _=>leaf _ rfl
  |txt _ t=>exact fun _=>leaf _ rfl
  |tru _ b=>exact fun _=>leaf _ rfl
  |bad _ k h=>exact fun _=>leaf _ rfl
  |ref _ r h=>exact fun _=>leaf _ rfl
  |box r o h k=>exact fun _=>leaf _ rfl
  | neg _ n h ih=>
    intro hl;rw [zEz] at hl;simp only [zoN,zBj] at hl;refine node _ (by show [n].length<=1000000;simp) fun k hk=>?_;have hk:k∈[n]:=hk;rw [zl5.1 hk];exact ih tO
  | two _ op a b h ha hb iha ihb=>
    intro hl;rw [zEX] at hl;simp only [zoP,zBj] at hl;refine node _ (by show [a,b].length<=1000000;simp) fun k hk=>?_;have hk:k∈[a,b]:=hk;rcases zmG.1 hk with rfl|hk
    · exact iha tO
    · rw [zl5.1 hk]
      exact ihb tO
  | call _ t ks h hk ih=>
    intro hl;rw [zCz] at hl;simp only [zoP,zoN] at hl;have hj:=zF0 (ks.map txt);refine node _ (by show ks.length<=1000000;have:=hj.1;rw [zoU] at this;omega) fun k hk'=>?_;have hk':k∈ks:=hk';exact ih k hk' (by have:=hj.2 (txt k) (zmh hk');omega)
abbrev RcH (C:CSpec) (n:Nd):Prop:=∀ (l:Nat) H,cnt n<=l->l<=1000000->C zF9 [ndV n,zL l] H (zL (cnt n)) H
theorem zbl (n:Nd) (hS:∀ k∈n.kids,RcH C k) (hkl:n.kids.length<=1000000) (l:Nat) (H:Heap) (hl:cnt n<=l) (hl2:l<=1000000):EFun C GT zJB [ndV n,zL l] H (zL (cnt n)) H:=by
  have hxv:=z7 n;have hlm:(n.kids.map ndV).length=n.kids.length:=zoU _;have e0:((0:Nat):Int)=0:=rfl;rw [zgI] at hl ⊢;have hnb:(H++[ABlk.box (ndV n).cells])[H.length]?=some (.box (ndV n).cells):=zB;refine zH<|zAV (x:=ndV n) rfl<|zc (tF) ?_
  refine zAr (fun i:Nat=>[(6,zL i),(5,zL (1+cnts (n.kids.take i))),(1,zL l),(2,bR H.length)]) (fun i H'=>i<=n.kids.length/\H'=H++[ABlk.box (ndV n).cells]) (fun i=>n.kids.length-i) 0 rfl ⟨by omega,rfl⟩ (fun i H1 hi=>?_);obtain ⟨hi,rfl⟩:=hi;have hle:=zRd n.kids i;have c2:decide (((1+cnts (n.kids.take i):Nat):Int)<=(l:Int))=true:=tT;by_cases hlt:i<n.kids.length
  · obtain ⟨k,hk⟩:∃ k,n.kids[i]?=some k:=⟨_,zoO hlt⟩
    have hkm:(n.kids.map ndV)[i]?=some (ndV k):=by rw [zoX,hk];rfl
    have ht:=zTD hk;have hle2:=zRd n.kids (i+1);have hs:=hS k (zoc hk) (l-(1+cnts (n.kids.take i))) (H++[ABlk.box (ndV n).cells]) tO tO;have e3:1+cnts (n.kids.take i)+cnt k=1+cnts (n.kids.take (i+1)):=by omega
    clear hS;refine sX ?_;refine zQ (r:=l-(1+cnts (n.kids.take i))) tO tO<|sX ?_
    refine zQ (r:=1+cnts (n.kids.take (i+1))) tO tO<|zQ (r:=i+1) rfl tO ?_
    exact zAJ (i+1) rfl ⟨by omega,rfl⟩ tO
  · obtain rfl:i=n.kids.length:=by omega
    have e5:zL (1+cnts n.kids)=zL (1+cnts (n.kids.take n.kids.length)):=by rw [zmg]
    clear hS;rw [e5];refine sX ?_;exact sRv
abbrev RfH (C:CSpec) (x:Bool) (n:Nd):Prop:=∀ H,C zBK [ndV n,.bool x] H (.bool true) H
abbrev InH (C:CSpec):Prop:=∀ c r H,C zDW [ze c r] H (.bool (okC c r)) H
theorem zbm (x:Bool) (m:Nat) (H:Heap):EFun C GT zAL [ndV (zJj m),.bool x] H (.bool true) H:=by
  have c1:decide ((zJj m).num>=0)=true:=tT (by show (0:Int)<=(m:Int);omega);have hxv:=z7 (zJj m);refine zH<|zAV (x:=ndV (zJj m)) rfl<|sW ?_
  refine zAk 0 hxv rfl<|sW ?_
  exact zAQ rfl rfl rfl rfl ((Old.refl _).push _)
theorem zbn (x:Bool) (t:Bs) (H:Heap):EFun C GT zAL [ndV (zHG t),.bool x] H (.bool true) H:=by
  have hxv:=z7 (zHG t);refine zH<|zAV (x:=ndV (zHG t)) rfl ?_
  cases e:((zHG t).text==([]:Bs)) with
  | true => refine zA (.agg [.int .i64 (zHG t).ref.col,.int .i64 (zHG t).ref.row,.bool (zHG t).ref.fc,.bool (zHG t).ref.fr]) zB rfl ?_
            refine sW ?_;refine zAk 0 hxv rfl<|sW ?_
            refine zAk 0 hxv rfl<|sW ?_
            exact zAQ rfl rfl rfl rfl ((Old.refl _).push _)
  | false => refine zA (.agg [.int .i64 (zHG t).ref.col,.int .i64 (zHG t).ref.row,.bool (zHG t).ref.fc,.bool (zHG t).ref.fr]) zB rfl ?_
             refine sW ?_;refine zAk 0 hxv rfl<|sW ?_
             exact zAQ rfl rfl rfl rfl ((Old.refl _).push _)
theorem zPf (x:Bool) (H:Heap):EFun C GT zAL [ndV (zE3 true),.bool x] H (.bool true) H:=by
  have hxv:=z7 (zE3 true);refine zH<|zAV (x:=ndV (zE3 true)) rfl<|sW ?_
  refine zAk 0 hxv rfl<|sW ?_
  exact zAQ rfl rfl rfl rfl ((Old.refl _).push _)
theorem zOx (x:Bool) (H:Heap):EFun C GT zAL [ndV (zE3 false),.bool x] H (.bool true) H:=by
  have hxv:=z7 (zE3 false);refine zH<|zAV (x:=ndV (zE3 false)) rfl<|sW ?_
  refine zAk 0 hxv rfl<|sW ?_
  exact zAQ rfl rfl rfl rfl ((Old.refl _).push _)
theorem zbo (x:Bool) (k:Nat) (h:1<=k/\k<=6) (H:Heap):EFun C GT zAL [ndV (zHJ k),.bool x] H (.bool true) H:=by
  have c1:decide ((zHJ k).num>=1)=true:=tT (by show (1:Int)<=(k:Int);omega);have c2:decide ((zHJ k).num<=6)=true:=tT (by show (k:Int)<=6;omega);have hxv:=z7 (zHJ k);refine zH<|zAV (x:=ndV (zHJ k)) rfl<|sW ?_
  refine zAk 0 hxv rfl<|sW ?_
  exact zMB (v0:=.bool (decide ((zHJ k).num<=6))) (by rw [c2]) rfl rfl rfl rfl hO
theorem zbp (hI:InH C) (x:Bool) (r:RefP) (h:okC r.col r.row=true) (H:Heap):EFun C GT zAL [ndV (zB3 r),.bool x] H (.bool true) H:=by
  have h0:(r.col==(0:Int))=false:=by
    unfold okC at h;simp only [zTo,zoY] at h;exact tN
  have c1:zL9 false ((r.col==0)&&((r.row==0)&&((r.fc==false)&&((r.fr==false)&&true))))=false:=by rw [h0];rfl
  have ha:=hI r.col r.row;rw [h] at ha;have hxv:=z7 (zB3 r);refine zH<|zAV (x:=ndV (zB3 r)) rfl<|zA (.agg [.int .i64 (zB3 r).ref.col,.int .i64 (zB3 r).ref.row,.bool (zB3 r).ref.fc,.bool (zB3 r).ref.fr]) zB rfl<|za (v:=zP) rfl<|za rfl<|zc c1<|zC<|zA (.str (zB3 r).text) zB rfl<|zD<|zA (.lst (some (zB3 r).kq) (zB3 r).kk (kxs (zB3 r))) zB rfl<|zAk 0 hxv rfl<|zD<|zA (.int IntKind.i64 (zB3 r).kind) zB rfl<|zC<|zC<|zC<|zC<|zD<|zD<|zA (.int IntKind.i64 (zB3 r).num) zB rfl ?_
  refine zD<|zD<|zA (.agg [.int .i64 (zB3 r).to.col,.int .i64 (zB3 r).to.row,.bool (zB3 r).to.fc,.bool (zB3 r).to.fr]) zB rfl<|za (v:=zP) rfl<|za rfl<|zD<|zD<|zA (.agg [.int .i64 (zB3 r).ref.col,.int .i64 (zB3 r).ref.row]) zB rfl<|zI (ha _)<|zD ?_
  exact zAQ rfl rfl rfl rfl ((Old.refl _).push _)
theorem zbq (hI:InH C) (r o:RefP) (h:okC r.col r.row=true) (h2:okC o.col o.row=true) (H:Heap):EFun C GT zAL [ndV (zAy r o),.bool true] H (.bool true) H:=by
  have h0:(r.col==(0:Int))=false:=by
    unfold okC at h;simp only [zTo,zoY] at h;exact tN
  have c1:zL9 false ((r.col==0)&&((r.row==0)&&((r.fc==false)&&((r.fr==false)&&true))))=false:=by rw [h0];rfl
  have ha:=hI r.col r.row;rw [h] at ha;have ha2:=hI o.col o.row;rw [h2] at ha2;have hxv:=z7 (zAy r o);refine zH<|zAV (x:=ndV (zAy r o)) rfl<|zA (.agg [.int .i64 (zAy r o).ref.col,.int .i64 (zAy r o).ref.row,.bool (zAy r o).ref.fc,.bool (zAy r o).ref.fr]) zB rfl<|za (v:=zP) rfl<|za rfl<|zc c1<|zC<|zA (.str (zAy r o).text) zB rfl<|zD<|zA (.lst (some (zAy r o).kq) (zAy r o).kk (kxs (zAy r o))) zB rfl<|zAk 0 hxv rfl<|zD<|zA (.int IntKind.i64 (zAy r o).kind) zB rfl<|zC<|zC<|zC<|zC<|zC<|zD<|zD<|zD<|zD<|zA (.int IntKind.i64 (zAy r o).num) zB rfl ?_
  refine zD<|zD<|zA (.agg [.int .i64 (zAy r o).ref.col,.int .i64 (zAy r o).ref.row]) zB rfl<|zI (ha _)<|zD<|zD<|zA (.agg [.int .i64 (zAy r o).to.col,.int .i64 (zAy r o).to.row]) zB rfl<|zI (ha2 _)<|zD ?_
  exact zAQ rfl rfl rfl rfl ((Old.refl _).push _)
theorem zbr (x:Bool) (n:Nd) (hF:RfH C false n) (H:Heap):EFun C GT zAL [ndV (zl1 n),.bool x] H (.bool true) H:=by
  have hf:∀ H,C zBK [ndV n,.bool false] H (.bool true) H:=hF;have hk:((zl1 n).kids.map ndV)[0]?=some (ndV n):=rfl;clear hF;have hxv:=z7 (zl1 n);refine zH<|zAV (x:=ndV (zl1 n)) rfl<|zA (.agg [.int .i64 (zl1 n).ref.col,.int .i64 (zl1 n).ref.row,.bool (zl1 n).ref.fc,.bool (zl1 n).ref.fr]) zB rfl<|za (v:=zP) rfl<|za rfl<|zD<|zA (.agg [.int .i64 (zl1 n).to.col,.int .i64 (zl1 n).to.row,.bool (zl1 n).to.fc,.bool (zl1 n).to.fr]) zB rfl<|za (v:=zP) rfl<|za rfl<|zD<|zA (.str (zl1 n).text) zB rfl ?_
  refine zD<|zA (.lst (some (zl1 n).kq) (zl1 n).kk (kxs (zl1 n))) zB rfl<|zAk 1 hxv rfl<|zD<|zA (.int IntKind.i64 (zl1 n).kind) zB rfl<|zC<|zC<|zC<|zC<|zC<|zC<|zD<|zD<|zA (.str (zl1 n).text) zB rfl<|zD<|zD<|zA (.int IntKind.i64 (zl1 n).num) zB rfl<|zD<|zD<|zA (.lst (some (zl1 n).kq) (zl1 n).kk (kxs (zl1 n))) zB rfl<|zAk 1 hxv rfl<|zD<|zD<|zA (.lst (some (zl1 n).kq) (zl1 n).kk (kxs (zl1 n))) zB rfl<|zBg 0 (ndV n) hxv rfl hk<|z8 (ndV n) rfl<|zI (hf _)<|zD ?_
  exact zAQ rfl rfl rfl rfl ((Old.refl _).push _)
theorem zbs (x:Bool) (op:Nat) (a b:Nd) (h:1<=op/\op<=11) (hFa:RfH C false a) (hFb:RfH C false b) (H:Heap):EFun C GT zAL [ndV (zAn op a b),.bool x] H (.bool true) H:=by
  have hf:∀ H,C zBK [ndV a,.bool false] H (.bool true) H:=hFa;have hf2:∀ H,C zBK [ndV b,.bool false] H (.bool true) H:=hFb;have hk:((zAn op a b).kids.map ndV)[0]?=some (ndV a):=rfl;have hk2:((zAn op a b).kids.map ndV)[1]?=some (ndV b):=rfl;have c1:decide ((zAn op a b).num>=1)=true:=tT (by show (1:Int)<=(op:Int);omega);have c2:decide ((zAn op a b).num<=11)=true:=tT (by show (op:Int)<=11;omega);clear hFa hFb;have hxv:=z7 (zAn op a b);refine zH<|zAV (x:=ndV (zAn op a b)) rfl<|zA (.agg [.int .i64 (zAn op a b).ref.col,.int .i64 (zAn op a b).ref.row,.bool (zAn op a b).ref.fc,.bool (zAn op a b).ref.fr]) zB rfl<|za (v:=zP) rfl<|za rfl<|zD<|zA (.agg [.int .i64 (zAn op a b).to.col,.int .i64 (zAn op a b).to.row,.bool (zAn op a b).to.fc,.bool (zAn op a b).to.fr]) zB rfl<|za (v:=zP) rfl<|za rfl ?_
  refine zD<|zA (.str (zAn op a b).text) zB rfl<|zD<|zA (.lst (some (zAn op a b).kq) (zAn op a b).kk (kxs (zAn op a b))) zB rfl<|zAk 2 hxv rfl<|zD<|zA (.int IntKind.i64 (zAn op a b).kind) zB rfl<|zC<|zC<|zC<|zC<|zC<|zC<|zC<|zD<|zD<|zA (.str (zAn op a b).text) zB rfl<|zD<|zD<|zA (.int IntKind.i64 (zAn op a b).num) zB rfl<|zD<|zt c1<|zA (.int IntKind.i64 (zAn op a b).num) zB rfl<|zD<|zt c2<|zA (.lst (some (zAn op a b).kq) (zAn op a b).kk (kxs (zAn op a b))) zB rfl<|zAk 2 hxv rfl ?_
  refine zD<|zD<|zA (.lst (some (zAn op a b).kq) (zAn op a b).kk (kxs (zAn op a b))) zB rfl<|zBg 0 (ndV a) hxv rfl hk<|z8 (ndV a) rfl<|zI (hf _)<|zD<|zD<|zA (.lst (some (zAn op a b).kq) (zAn op a b).kk (kxs (zAn op a b))) zB rfl<|zBg 1 (ndV b) hxv rfl hk2<|z8 (ndV b) rfl<|zI (hf2 _)<|zD ?_
  exact zAQ rfl rfl rfl rfl ((Old.refl _).push _)
theorem zYF (hC:∀ t,t.length<=1000->∀ H,C z6 [.str t] H (.bool (zA3 t)) H) (x:Bool) (t:Bs) (ks:List Nd) (hc:zA3 t=true) (ht:t.length<=1000) (hkl:ks.length<=1000000) (hF:∀ k∈ks,RfH C true k) (H:Heap):EFun C GT zAL [ndV (zAw t ks),.bool x] H (.bool true) H:=by
  have hca:=hC t ht;rw [hc] at hca;have hxv:zCS (zGZ (zAw t ks)) 12 (ks.map ndV):=z7 (zAw t ks);have hlm:(ks.map ndV).length=ks.length:=zoU _;have e:((zAw t ks).text==([]:Bs))=false:=tN (fun e=>by
    have e:t=[]:=e;rw [e] at hc;exact absurd hc zD_)
  clear hC;refine zH<|sX ?_
  refine zAr (fun i:Nat=>[(8,zL i),(2,bR H.length)]) (fun i H'=>i<=ks.length/\H'=H++[ABlk.box (ndV (zAw t ks)).cells]) (fun i=>ks.length-i) 0 rfl ⟨by omega,rfl⟩ (fun i H1 hi=>?_);obtain ⟨hi,rfl⟩:=hi;by_cases hlt:i<ks.length
  · obtain ⟨k,hk⟩:∃ k,ks[i]?=some k:=⟨_,zoO hlt⟩
    have hkm:(ks.map ndV)[i]?=some (ndV k):=by rw [zoX,hk];rfl
    have hs:∀ H,C zBK [ndV k,.bool true] H (.bool true) H:=hF k (zoc hk);clear hF;refine sX ?_;refine zQ (r:=i+1) rfl tO ?_;exact zAJ (i+1) rfl ⟨by omega,rfl⟩ tO
  · refine sX ?_
    exact sRv
end
def Holds (l:List (Nat×ABlk)) (H:Heap):Prop:=∀ p∈l,H[p.1]?=some p.2
theorem Holds.old {l:List (Nat×ABlk)} {H H':Heap} (h:Holds l H) (o:Old H H'):Holds l H':=fun p hp=>by
  have:=h p hp;rw [o.2 p.1 (zl_ this)];exact this
section
variable {C:CSpec} {GT:zG_}
def zgK (C:CSpec) (f:Nat) (cr:List AV) (l:List (Nat×ABlk)) (g:RefP->Option RefP):Prop:=∀ r,okR r->∃ r',(∀ H,Holds l H->C f (rV r::cr) H (.tup [rV r',.bool (g r).isSome]) H)/\∀ x,g r=some x->r'=x
def BoxQ (C:CSpec) (f:Nat) (cr:List AV) (l:List (Nat×ABlk)) (g:RefP->RefP->Option (RefP×RefP)):Prop:=∀ a b,okR a->okR b->∃ a' b',(∀ H,Holds l H->C f (rV a::rV b::cr) H (.tup [rV a',rV b',.bool (g a b).isSome]) H)/\∀ x,g a b=some x->(a',b')=x
abbrev cgV (fr fb:Nat) (cr cb:List AV):AV:=.agg [.fn fr [] cr,.fn fb [] cb]
abbrev CnH (C:CSpec):Prop:=∀ H,C zu [.lst (some true) 0 []] H (.lst (some true) 0 []) H
theorem ziD (fr fb:Nat) (cr cb:List AV) (l:List (Nat×ABlk)) (c:Chg) (hR:zgK C fr cr l c.ref) (hK:CnH C) (r:RefP) (h:okR r) (H:Heap) (hh:Holds l H):EFun C GT zBq [cgV fr fb cr cb,ndV (zB3 r)] H (ndV (onN c (zB3 r))) H:=by
  obtain ⟨r',hr,hx⟩:=hR r h;have hk:=hK;clear hR hK;rw [zbf];refine zH<|sX ?_
  cases e:c.ref r with
  | none=>
    rw [e] at hr;clear hx;refine sX ?_;refine sSA (.agg zV0) ?_;refine zA (.int IntKind.i64 (zB3 r).kind) hP rfl<|zD<|zA (.fn fr [] cr) hP rfl<|zA (.agg [.int .i64 (zB3 r).ref.col,.int .i64 (zB3 r).ref.row,.bool (zB3 r).ref.fc,.bool (zB3 r).ref.fr]) hP rfl<|zI (hr _ (hh.old hO))<|za rfl<|za rfl<|sSA (rV r') ?_
    refine sX ?_;refine sSA (.agg zV0) ?_;exact zAU (o:=0) rfl rfl (zJ hP) rfl rfl rfl hO
  | some x=>
    rw [e] at hr;obtain rfl:=hx x e;clear hx;refine sX ?_;refine sSA (.agg zV0) ?_;refine zA (.int IntKind.i64 (zB3 r).kind) hP rfl<|zD<|zA (.fn fr [] cr) hP rfl<|zA (.agg [.int .i64 (zB3 r).ref.col,.int .i64 (zB3 r).ref.row,.bool (zB3 r).ref.fc,.bool (zB3 r).ref.fr]) hP rfl<|zI (hr _ (hh.old hO))<|za rfl<|za rfl<|sSA (rV r') ?_
    refine sX ?_;refine sS (rV r') [.int .i64 (zB3 r).kind,.int .i64 (zB3 r).num,.str (zB3 r).text,.int .i64 r'.col,.int .i64 r'.row,.bool r'.fc,.bool r'.fr,.int .i64 (zB3 r).to.col,.int .i64 (zB3 r).to.row,.bool (zB3 r).to.fc,.bool (zB3 r).to.fr,.lst (some (zB3 r).kq) (zB3 r).kk (kxs (zB3 r))] ?_;refine sX ?_;refine sS (.lst (some true) 0 []) [.int .i64 (zB3 r).kind,.int .i64 (zB3 r).num,.str (zB3 r).text,.int .i64 r'.col,.int .i64 r'.row,.bool r'.fc,.bool r'.fr,.int .i64 (zB3 r).to.col,.int .i64 (zB3 r).to.row,.bool (zB3 r).to.fc,.bool (zB3 r).to.fr,.lst (some true) 0 []] ?_;refine sX ?_;refine zAk 0 (z7 (zB3 r)) rfl ?_;refine zAr (fun _:Unit=>_) (fun _ H'=>H'=_) (fun _=>0) () rfl rfl (fun _ H1 hi=>?_);subst hi;dsimp only;refine sX ?_;refine sSA (.agg [.int .i64 (zB3 r).kind,.int .i64 (zB3 r).num,.str (zB3 r).text,.int .i64 r'.col,.int .i64 r'.row,.bool r'.fc,.bool r'.fr,.int .i64 (zB3 r).to.col,.int .i64 (zB3 r).to.row,.bool (zB3 r).to.fc,.bool (zB3 r).to.fr,.lst (some true) 0 []]) ?_;exact zAU (o:=0) rfl rfl (zJ hP) rfl rfl rfl hO
theorem ziE (fr fb:Nat) (cr cb:List AV) (l:List (Nat×ABlk)) (c:Chg) (hR:BoxQ C fb cb l c.box) (hK:CnH C) (r o:RefP) (h:okR r) (h2:okR o) (H:Heap) (hh:Holds l H):EFun C GT zBq [cgV fr fb cr cb,ndV (zAy r o)] H (ndV (onN c (zAy r o))) H:=by
  obtain ⟨r',o',hr,hx⟩:=hR r o h h2;have hk:=hK;clear hR hK;rw [zbg];refine zH<|sX ?_
  cases e:c.box r o with
  | none=>
    rw [e] at hr;clear hx;refine sX ?_;refine sSA (.agg zV0) ?_;refine zA (.int IntKind.i64 (zAy r o).kind) hP rfl<|zC<|zD<|zA (.fn fb [] cb) hP rfl<|zA (.agg [.int .i64 (zAy r o).ref.col,.int .i64 (zAy r o).ref.row,.bool (zAy r o).ref.fc,.bool (zAy r o).ref.fr]) hP rfl<|zA (.agg [.int .i64 (zAy r o).to.col,.int .i64 (zAy r o).to.row,.bool (zAy r o).to.fc,.bool (zAy r o).to.fr]) hP rfl<|zI (hr _ (hh.old hO))<|za rfl<|za rfl<|za rfl<|sSA (rV r') ?_
    refine sSA (rV o') ?_;refine sX ?_;refine sSA (.agg zV0) ?_;exact zAU (o:=0) rfl rfl (zJ hP) rfl rfl rfl hO
  | some x=>
    rw [e] at hr;have hx:=hx x e;subst hx;refine sX ?_;refine sSA (.agg zV0) ?_;refine zA (.int IntKind.i64 (zAy r o).kind) hP rfl<|zC<|zD<|zA (.fn fb [] cb) hP rfl<|zA (.agg [.int .i64 (zAy r o).ref.col,.int .i64 (zAy r o).ref.row,.bool (zAy r o).ref.fc,.bool (zAy r o).ref.fr]) hP rfl<|zA (.agg [.int .i64 (zAy r o).to.col,.int .i64 (zAy r o).to.row,.bool (zAy r o).to.fc,.bool (zAy r o).to.fr]) hP rfl<|zI (hr _ (hh.old hO))<|za rfl<|za rfl<|za rfl<|sSA (rV r') ?_
    refine sSA (rV o') ?_;refine sX ?_;refine zG2 ?_ ?_
    · refine sX ?_
      refine sS (rV r') [.int .i64 (zAy r o).kind,.int .i64 (zAy r o).num,.str (zAy r o).text,.int .i64 r'.col,.int .i64 r'.row,.bool r'.fc,.bool r'.fr,.int .i64 (zAy r o).to.col,.int .i64 (zAy r o).to.row,.bool (zAy r o).to.fc,.bool (zAy r o).to.fr,.lst (some (zAy r o).kq) (zAy r o).kk (kxs (zAy r o))] ?_;refine sS (rV o') [.int .i64 (zAy r o).kind,.int .i64 (zAy r o).num,.str (zAy r o).text,.int .i64 r'.col,.int .i64 r'.row,.bool r'.fc,.bool r'.fr,.int .i64 o'.col,.int .i64 o'.row,.bool o'.fc,.bool o'.fr,.lst (some (zAy r o).kq) (zAy r o).kk (kxs (zAy r o))] ?_;refine sX ?_;refine sS (.lst (some true) 0 []) [.int .i64 (zAy r o).kind,.int .i64 (zAy r o).num,.str (zAy r o).text,.int .i64 r'.col,.int .i64 r'.row,.bool r'.fc,.bool r'.fr,.int .i64 o'.col,.int .i64 o'.row,.bool o'.fc,.bool o'.fr,.lst (some true) 0 []] ?_;refine sX ?_;refine zAk 0 (z7 (zAy r o)) rfl ?_;refine zAr (fun _:Unit=>_) (fun _ H'=>H'=_) (fun _=>0) () rfl rfl (fun _ H1 hi=>?_);subst hi;dsimp only;refine sX ?_;refine sSA (.agg [.int .i64 (zAy r o).kind,.int .i64 (zAy r o).num,.str (zAy r o).text,.int .i64 r'.col,.int .i64 r'.row,.bool r'.fc,.bool r'.fr,.int .i64 o'.col,.int .i64 o'.row,.bool o'.fc,.bool o'.fr,.lst (some true) 0 []]) ?_;exact zAU (o:=0) rfl rfl (zJ hP) rfl rfl rfl hO
    · refine sS (rV r') [.int .i64 (zAy r o).kind,.int .i64 (zAy r o).num,.str (zAy r o).text,.int .i64 r'.col,.int .i64 r'.row,.bool r'.fc,.bool r'.fr,.int .i64 (zAy r o).to.col,.int .i64 (zAy r o).to.row,.bool (zAy r o).to.fc,.bool (zAy r o).to.fr,.lst (some (zAy r o).kq) (zAy r o).kk (kxs (zAy r o))] ?_
      refine sX ?_;refine sS (rV o') [.int .i64 (zAy r o).kind,.int .i64 (zAy r o).num,.str (zAy r o).text,.int .i64 r'.col,.int .i64 r'.row,.bool r'.fc,.bool r'.fr,.int .i64 o'.col,.int .i64 o'.row,.bool o'.fc,.bool o'.fr,.lst (some (zAy r o).kq) (zAy r o).kk (kxs (zAy r o))] ?_;refine sX ?_;refine sS (.lst (some true) 0 []) [.int .i64 (zAy r o).kind,.int .i64 (zAy r o).num,.str (zAy r o).text,.int .i64 r'.col,.int .i64 r'.row,.bool r'.fc,.bool r'.fr,.int .i64 o'.col,.int .i64 o'.row,.bool o'.fc,.bool o'.fr,.lst (some true) 0 []] ?_;refine sX ?_;refine zAk 0 (z7 (zAy r o)) rfl ?_;refine zAr (fun _:Unit=>_) (fun _ H'=>H'=_) (fun _=>0) () rfl rfl (fun _ H1 hi=>?_);subst hi;dsimp only;refine sX ?_;refine sSA (.agg [.int .i64 (zAy r o).kind,.int .i64 (zAy r o).num,.str (zAy r o).text,.int .i64 r'.col,.int .i64 r'.row,.bool r'.fc,.bool r'.fr,.int .i64 o'.col,.int .i64 o'.row,.bool o'.fc,.bool o'.fr,.lst (some true) 0 []]) ?_;exact zAU (o:=0) rfl rfl (zJ hP) rfl rfl rfl hO
theorem ziF (fr fb:Nat) (cr cb:List AV) (hK:CnH C) (k num:Int) (t:Bs) (r o:RefP) (h5:(k==5)=false) (h6:(k==6)=false) (H:Heap):EFun C GT zBq [cgV fr fb cr cb,ndV (.mk k num t r o [])] H (ndV (.mk k num t r o [])) H:=by
  have hk:=hK;clear hK;refine zH<|sX ?_
  refine sSA (.agg zV0) ?_;refine sX ?_;refine sS (.lst (some true) 0 []) [.int .i64 (Nd.mk k num t r o []).kind,.int .i64 (Nd.mk k num t r o []).num,.str (Nd.mk k num t r o []).text,.int .i64 (Nd.mk k num t r o []).ref.col,.int .i64 (Nd.mk k num t r o []).ref.row,.bool (Nd.mk k num t r o []).ref.fc,.bool (Nd.mk k num t r o []).ref.fr,.int .i64 (Nd.mk k num t r o []).to.col,.int .i64 (Nd.mk k num t r o []).to.row,.bool (Nd.mk k num t r o []).to.fc,.bool (Nd.mk k num t r o []).to.fr,.lst (some true) 0 []] ?_;refine sX ?_;refine zAk 0 (z7 (.mk k num t r o [])) rfl ?_;refine zAr (fun _:Unit=>_) (fun _ H'=>H'=_) (fun _=>0) () rfl rfl (fun _ H1 hi=>?_);subst hi;dsimp only;refine sX ?_;refine sSA (.agg [.int .i64 (Nd.mk k num t r o []).kind,.int .i64 (Nd.mk k num t r o []).num,.str (Nd.mk k num t r o []).text,.int .i64 (Nd.mk k num t r o []).ref.col,.int .i64 (Nd.mk k num t r o []).ref.row,.bool (Nd.mk k num t r o []).ref.fc,.bool (Nd.mk k num t r o []).ref.fr,.int .i64 (Nd.mk k num t r o []).to.col,.int .i64 (Nd.mk k num t r o []).to.row,.bool (Nd.mk k num t r o []).to.fc,.bool (Nd.mk k num t r o []).to.fr,.lst (some true) 0 []]) ?_;exact zAU (o:=0) rfl rfl (zJ hP) rfl rfl rfl hO
def CkH (C:CSpec):Prop:=∀ (n:Nd) H,n.kids≠[]->n.kids.length<=1000000->C zu [zGZ n] H (.sl (some false) (H.length+1) 12 0 n.kids.length) ((H++[ABlk.row 12 []]).set H.length .dead++[.row 12 (n.kids.map ndV)])
def zgL (c:Chg) (ks:List Nd) (i:Nat):List AV:=(ks.take i).map (fun k=>ndV (onN c k))++(ks.drop i).map ndV
theorem zfK {c:Chg} {ks:List Nd} {i:Nat} {k:Nd} (h:ks[i]?=some k):(zgL c ks i)[i]?=some (ndV k):=by
  have hl:=(zl_ h);unfold zgL;rw [zoy (by simp;omega)];simp [zo1,znG (zoB hl),h]
theorem zfL {c:Chg} {ks:List Nd} {i:Nat} {k:Nd} (h:ks[i]?=some k):(zgL c ks i).set i (ndV (onN c k))=zgL c ks (i+1):=by
  have hl:=(zl_ h);have ht:((ks.take i).map fun k=>ndV (onN c k)).length=i:=by simp;omega
  unfold zgL;rw [zmq _ _ (by rw [ht];exact zoR _),ht,Nat.sub_self,zmF hl,zm9,h];rw [zoa,List.set_cons_zero,znO,zov,zou];rfl
theorem ziG {b j:Nat} (m:Nd) {x:Nd} {H:Heap} {xs:List AV} {K:AV->Heap->Prop} (h:H[b]?=some (.row 12 xs)) (hx:xs[j]?=some (ndV x)) (q:K .undef (H.set b (.row 12 (xs.set j (ndV m))))):actP (.store 12) [.ref b 12 j 0,ndV m] H K:=by
  refine zMj ?_ q;have hc:(ndV m).cells.length=12/\(ndV m).cells.all AV.one=true:=⟨rfl,rfl⟩;have he:(ndV m).elem 12=true:=rfl;have hu:zHr (ndV x) 0 (ndV m)=ndV m:=rfl;simp only [astep,zoQ hc,h,zjx,hx];rw [zoQ ⟨trivial,by omega,by omega,he⟩,hu]
theorem sAtN {q:Option Bool} {b k n:Nat} {x:Int} {K:AV->Prop} (j:Nat) (hx:x=(j:Int)) (hj:j<n) (p:K (.ref b k j 0)):idxN k (.sl q b k 0 n) x K:=by
  subst hx;refine sAt ⟨by omega,by omega⟩ ?_;rw [zoq,zl7];assumption
def zKv (k num:Int) (t:Bs) (r o:RefP) (x:AV):List AV:=[.int .i64 k,.int .i64 num,.str t,.int .i64 r.col,.int .i64 r.row,.bool r.fc,.bool r.fr,.int .i64 o.col,.int .i64 o.row,.bool o.fc,.bool o.fr,x]
theorem ziH (fr fb:Nat) (cr cb:List AV) (l:List (Nat×ABlk)) (c:Chg) (k num:Int) (t:Bs) (r o:RefP) (ks:List Nd) (hkl:ks.length<=1000000)
    (hS:∀ n∈ks,∀ H,Holds l H->C zAl [cgV fr fb cr cb,ndV n] H (ndV (onN c n)) H) (H0:Heap) (hh:Holds l H0) (b2 b3 b4 rb:Nat) (B4:List AV) (H1:Heap) {K:Post}
    (hO:Old H0 H1) (h2:H1[b2]?=some (.box (cgV fr fb cr cb).cells)) (h3:H1[b3]?=some (.box (zKv k num t r o (.sl (some false) rb 12 0 ks.length)))) (h4:H1[b4]?=some (.box B4)) (hr:H1[rb]?=some (.row 12 (ks.map ndV))) (hrb:H0.length<=rb)
    (hK:∀ fr' H',zT fr' [4,3]=[(4,.ref b4 0 0 0),(3,.ref b3 0 0 0)]->Old H0 H'->H'[b3]?=some (.box (zKv k num t r o (.sl (some false) rb 12 0 ks.length)))->H'[b4]?=some (.box B4)->H'[rb]?=some (.row 12 (ks.map fun k=>ndV (onN c k)))->K (.exit 1) fr' H') :
    loopP C GT [58,2,3,56,4,57] zKi K [(58,.int .i64 0),(2,.ref b2 0 0 0),(3,.ref b3 0 0 0),(56,.sl (some false) rb 12 0 ks.length),(4,.ref b4 0 0 0),(57,zL ks.length)] H1:=by
  have hne:∀ {H:Heap} {b:Nat} {cs:List AV} {xs:List AV},H[b]?=some (.box cs)->H[rb]?=some (.row 12 xs)->rb≠b:=fun h1 h2 e=>by rw [e,h1] at h2;cases h2
  refine zAr (fun i:Nat=>[(58,zL i),(2,.ref b2 0 0 0),(3,.ref b3 0 0 0),(56,.sl (some false) rb 12 0 ks.length),(4,.ref b4 0 0 0),(57,zL ks.length)])
    (fun i H'=>i<=ks.length/\Old H0 H'/\H'[b2]?=some (.box (cgV fr fb cr cb).cells)/\H'[b3]?=some (.box (zKv k num t r o (.sl (some false) rb 12 0 ks.length)))/\H'[b4]?=some (.box B4)/\H'[rb]?=some (.row 12 (zgL c ks i))) (fun i=>ks.length-i) 0 rfl ⟨by omega,hO,h2,h3,h4,by unfold zgL;simpa using hr⟩ (fun i H2 hi=>?_)
  clear hO h2 h3 h4 hr;obtain ⟨hi,ho,h2,h3,h4,hr⟩:=hi;by_cases hlt:i<ks.length
  · obtain ⟨n,hn⟩:∃ n,ks[i]?=some n:=⟨_,zoO hlt⟩
    have hs:=hS n (zoc hn);have hg:=zfK (c:=c) hn;have hst:=zfL (c:=c) hn;have d2:=hne h2 hr;have d3:=hne h3 hr;have d4:=hne h4 hr;clear hS hK;have hl0:=ho.1;have hrl:=(zl_ hr);have hb2:=(zl_ h2);have hb3:=(zl_ h3);have hb4:=(zl_ h4);refine sX ?_;refine sAtN i rfl hlt<|zCs i (ndV n) _ rfl hr hg rfl<|sSA (.agg (List.take 12 (List.drop 0 (ndV n).cells))) ?_
    refine zA (.sl (some false) rb 12 0 ks.length) (zE tA (zG h3)) rfl<|zA (cgV fr fb cr cb) (zE tA (zG h2)) rfl<|zA (.agg (List.take 12 (List.drop 0 (ndV n).cells))) hP rfl<|zI (hs _ (hh.old hO))<|sAtN i rfl hlt<|ziG (onN c n) hP hg<|zQ (r:=i+1) rfl tO ?_
    rw [hst];exact zAJ (i+1) rfl ⟨by omega,((ho.push _).set hl0 _).set hrb _,zE tO (zE tO (zG h2)),zE tO (zE tO (zG h3)),zE tO (zE tO (zG h4)),zOc (by simp;omega)⟩ tO
  · obtain rfl:i=ks.length:=by omega
    have hr':H2[rb]?=some (.row 12 (ks.map fun k=>ndV (onN c k))):=by
      rw [hr];unfold zgL;simp
    have hkk:=fun fr' hf=>hK fr' H2 hf ho h3 h4 hr';clear hK hS;refine sX ?_;exact hkk _ rfl
theorem zTK {F:AF} {a s:Nat} {ag:Bool} {H H1 H2:Heap} {fr:Fr} {v0 v:AV} {cs:List AV} {o:Nat} (hF:F.results=[.cell a s ag]) (hk:F.keep=false) (hp:zy H1 (zMk fr a)=some (cs,o)) (hpt:part cs o s ag=some v0)
    (hf:zDm H.length v0 H1=some (v,H2)) (hb:v.bel H.length=true) (ho:Old H H2):retP F H fr H1 v H:=by
  refine zIw hk ?_ hf hb ho;rw [zFA] at hp;simp only [hF,zBd,zKS,hp,hpt,zoe];rfl
theorem zfM {A:Heap} {x:ABlk} {b:Nat} (h:b=A.length):(A++[x])[b]?=some x:=by rw [h];exact zB
theorem zbt {n0 nb m:Nat} {k num:Int} {t:Bs} {r o:RefP} {xs:List AV} {H:Heap} (h:H[nb]?=some (.row 12 xs)) (hn:n0<=nb) (hm:xs.length=m) :
    zDm n0 (.agg (zKv k num t r o (.sl (some false) nb 12 0 m))) H=some (.agg (zKv k num t r o (.lst (some false) 12 xs)),H.set nb (.frz 12 xs)):=by
  subst hm;have:¬ nb<n0:=by omega
  simp only [zKv,zDm,zKR,this,zot,h];simp [zTb]
theorem ziI (fr fb:Nat) (cr cb:List AV) (l:List (Nat×ABlk)) (c:Chg) (hK:CkH C) (k num:Int) (t:Bs) (r o:RefP) (ks:List Nd) (hne:ks≠[]) (hkl:ks.length<=1000000) (h5:(k==5)=false) (h6:(k==6)=false)
    (hS:∀ n∈ks,∀ H,Holds l H->C zAl [cgV fr fb cr cb,ndV n] H (ndV (onN c n)) H) (H:Heap) (hh:Holds l H):EFun C GT zBq [cgV fr fb cr cb,ndV (.mk k num t r o ks)] H (ndV (.mk k num t r o (ks.map (onN c)))) H:=by
  have hxv:zCS (zGZ (.mk k num t r o ks)) 12 (ks.map ndV):=z7 (.mk k num t r o ks);have hk:=fun H=>hK (.mk k num t r o ks) H hne hkl;have ev:ndV (.mk k num t r o (ks.map (onN c)))=.agg (zKv k num t r o (.lst (some false) 12 (ks.map fun k=>ndV (onN c k)))):=by
    have e:kxs (.mk k num t r o (ks.map (onN c)))=ks.map fun k=>ndV (onN c k):=by
      show zdQ (ks.map (onN c))=_;rw [zJi,zm7];rfl
    cases ks with
    |nil=>exact absurd rfl hne
    | cons a ks=>
      rw [<-e];rfl
  rw [ev];clear hK ev;refine zH<|sX ?_
  refine sSA (.agg zV0) ?_;refine sX ?_;refine sS (.sl (some false)   ((List.set         (H++[ABlk.box (cgV fr fb cr cb).cells]++[ABlk.box (ndV (Nd.mk k num t r o ks)).cells] ++             [ABlk.box                 zV1] ++           [ABlk.box               zV1])         (List.length           (H++[ABlk.box (cgV fr fb cr cb).cells]++[ABlk.box (ndV (Nd.mk k num t r o ks)).cells] ++             [ABlk.box                 zV1]))         (ABlk.box           (AV.agg zV0).cells)).length +     1)   12 0 (Nd.mk k num t r o ks).kids.length) [.int .i64 (Nd.mk k num t r o ks).kind,.int .i64 (Nd.mk k num t r o ks).num,.str (Nd.mk k num t r o ks).text,.int .i64 (Nd.mk k num t r o ks).ref.col,.int .i64 (Nd.mk k num t r o ks).ref.row,.bool (Nd.mk k num t r o ks).ref.fc,.bool (Nd.mk k num t r o ks).ref.fr,.int .i64 (Nd.mk k num t r o ks).to.col,.int .i64 (Nd.mk k num t r o ks).to.row,.bool (Nd.mk k num t r o ks).to.fc,.bool (Nd.mk k num t r o ks).to.fr,.sl (some false)   ((List.set         (H++[ABlk.box (cgV fr fb cr cb).cells]++[ABlk.box (ndV (Nd.mk k num t r o ks)).cells] ++             [ABlk.box                 zV1] ++           [ABlk.box               zV1])         (List.length           (H++[ABlk.box (cgV fr fb cr cb).cells]++[ABlk.box (ndV (Nd.mk k num t r o ks)).cells] ++             [ABlk.box                 zV1]))         (ABlk.box           (AV.agg zV0).cells)).length +     1)   12 0 (Nd.mk k num t r o ks).kids.length] ?_;refine sX ?_;refine zIU ?_
  refine ziH fr fb cr cb l c k num t r o ks hkl hS H hh _ _ _ _ _ _ hO hP hP hP (zE (by simp only [zoW,zoP,zoN,zoT];omega) (zfM (by simp only [zoW,zoP,zoN,zoT]))) (by simp only [zoW,zoP,zoN,zoT];omega) (fun fr' H' hfr ho h3 h4 hrow=>sBlk hfr ?_);refine sX ?_;refine zM (zKv k num t r o (.sl (some false) _ 12 0 ks.length)) h4 rfl rfl rfl rfl ?_;have hl0:=ho.1;exact zTK (o:=0) rfl rfl (zJ (zS h4)) rfl (zbt (m:=ks.length) (zE (fun e=>by rw [<-e,h4] at hrow;cases hrow) hrow) (by simp only [zoW,zoP,zoN,zoT];omega) (zoU _)) rfl ((ho.set (by simp only [zoW,zoP,zoN,zoT];omega) _).set (by simp only [zoW,zoP,zoN,zoT];omega) _)
theorem zLv {H:Heap} {q:Option Bool} {n:Nat} {xs:List AV} (u:List UInt8) {K:AV->Heap->Prop} (hu:xs=u.map zq) (hn:n=xs.length) (p:K (.str u) (H++[.row 1 xs])):actP .bytesToStr [.sl q H.length 1 0 n] (H++[.row 1 xs]) K:=by
  subst hn;exact zMj (by simp only [astep,zAR,hu,zKe,zoe]) p
theorem ziJ (s:Bs) (b:Bool) (hl:s.length<=1000000) (H:Heap):EFun C GT zMr [.str s,.bool b] H (.str (brk b s)) H:=by
  refine zH ?_;cases b with
  | true => refine zD ?_
            refine zBA (by first|(simp;done)|(simp;omega))<|zBA (by first|(simp;done)|(simp;omega)) ?_
            exact sRv
  | false => refine zC ?_
             exact sRv
theorem zYG (hT:∀ op H,op<=1000->C zBa [zL op] H (zL (tight op)) H) (n:Nd) (h:n.kind=8->1<=n.num/\n.num<=11) (H:Heap):EFun C GT zJE [ndV n] H (zL (zb n)) H:=by
  have hb:=@zB H (.box (ndV n).cells);refine zH ?_;unfold zb;refine zAV (x:=ndV n) rfl ?_;by_cases hk:n.kind=8
  · obtain ⟨h1,h2⟩:=h hk
    obtain ⟨op,ho⟩:∃ op:Nat,n.num=op:=⟨n.num.toNat,by omega⟩;have ht:=hT op (H++[.box (ndV n).cells]) tO;have e:n.num.toNat=op:=by omega
    rw [zoQ hk,e];have e8:(n.kind==8)=true:=tE hk;have hv:AV.int .i64 n.num=zL op:=by rw [ho];rfl
    clear hT;refine zA (.int IntKind.i64 n.kind) zB rfl<|zt e8<|zA (zL op) (by rw [hb]) (by rw [<-hv];rfl)<|sX ?_
    exact sRv
  · have e8:(n.kind==8)=false:=tN hk
    rw [zWl hk];refine sX ?_;exact sRv
theorem zUw (op:Nat) (h:1<=op/\op<=11) (H:Heap):EFun C GT zGi [zL op] H (.str (opT op)) H:=by
  have hx:[AV.str [],AV.str [61],AV.str [60,62],AV.str [60],AV.str [60,61],AV.str [62],AV.str [62,61],AV.str [38],AV.str [43],AV.str [45],AV.str [42],AV.str [47]][op]?=some (.str (opT op)):=by
    have:op=1\/op=2\/op=3\/op=4\/op=5\/op=6\/op=7\/op=8\/op=9\/op=10\/op=11:=by omega
    rcases this with rfl|rfl|rfl|rfl|rfl|rfl|rfl|rfl|rfl|rfl|rfl <;> rfl
  refine zH<|zAA (vs':=[.str [],.str [61],.str [60,62],.str [60],.str [60,61],.str [62],.str [62,61],.str [38],.str [43],.str [45],.str [42],.str [47]]) rfl rfl<|sAtN op rfl (by show op<12;omega)<|zCs op (.str (opT op)) _ rfl zB hx rfl ?_
  exact sRv
theorem zbu (b:Bool) (H:Heap):EFun C GT zHA [v3 3 (if b=true then 1 else 0)] H (.str (if b then zFx else zDS)) H:=by
  refine zH ?_;cases b
  · refine sX ?_
    exact sRv
  · refine sX ?_
    exact sRv
theorem zbv (hR:∀ H,C zBf [] H (.lst (some false) 1 (wrL.map AV.str)) H) (k:Nat) (h:1<=k/\k<=6) (H:Heap):EFun C GT zHA [v3 4 k] H (.str (wrongs.getD (k-1) [])) H:=by
  have hx:(wrL.map AV.str)[k]?=some (.str (wrongs.getD (k-1) [])):=by
    have:k=1\/k=2\/k=3\/k=4\/k=5\/k=6:=by omega
    rcases this with rfl|rfl|rfl|rfl|rfl|rfl <;> rfl
  refine zH<|sX ?_
  refine zSO (i:=k) rfl hx<|sX ?_
  exact sRv
abbrev DgH (C:CSpec):Prop:=∀ n:Nat,n<=9223372036854775807->∀ H,C zFc [zL n] H (.str (zFz n)) H
theorem zLw (hD:DgH C) (c w:Nat) (h:1<=c/\c<=26) (h2:1<=w/\w<=99) (H:Heap):EFun C GT zCd [rV ⟨c,w,true,true⟩] H (.str (zD3 ⟨c,w,true,true⟩)) H:=by
  have hd:=hD w tO;have hl:=(zFh (r:=⟨c,w,true,true⟩) ⟨by simp only;omega,by simp only;omega,by simp only;omega,by simp only;omega⟩).2;have e1:IntKind.i64.wrap (64+(c:Int))=((64+c:Nat):Int):=by rw [IntKind.wrap_i64];omega
  have e2:IntKind.u8.wrap ((64+c:Nat):Int)=(((UInt8.ofNat (64+c)).toNat:Nat):Int):=by rw [IntKind.wrap_u8];first|(simp;done)|(simp;omega)
  have er:zD3 ⟨c,w,true,true⟩=[36]++[UInt8.ofNat (64+c)]++[36]++zFz w:=rfl;rw [er] at hl ⊢;simp only [zoP,zoN,zoT] at hl;clear hD;refine zH<|sX ?_
  refine zCl e1<|zCl e2<|zAA (vs':=[.int .u8 ↑(UInt8.ofNat (64+c)).toNat]) rfl rfl<|zLv [UInt8.ofNat (64+c)] rfl rfl<|zBA (by first|(simp;done)|(simp;omega))<|sX ?_
  refine zBA (by first|(simp;done)|(simp;omega))<|sX ?_
  refine zBA (by first|(simp;done)|(simp;omega)) ?_;exact sRv
theorem zKw (hD:DgH C) (c w:Nat) (h:1<=c/\c<=26) (h2:1<=w/\w<=99) (H:Heap):EFun C GT zCd [rV ⟨c,w,true,false⟩] H (.str (zD3 ⟨c,w,true,false⟩)) H:=by
  have hd:=hD w tO;have hl:=(zFh (r:=⟨c,w,true,false⟩) ⟨by simp only;omega,by simp only;omega,by simp only;omega,by simp only;omega⟩).2;have e1:IntKind.i64.wrap (64+(c:Int))=((64+c:Nat):Int):=by rw [IntKind.wrap_i64];omega
  have e2:IntKind.u8.wrap ((64+c:Nat):Int)=(((UInt8.ofNat (64+c)).toNat:Nat):Int):=by rw [IntKind.wrap_u8];first|(simp;done)|(simp;omega)
  have er:zD3 ⟨c,w,true,false⟩=[36]++[UInt8.ofNat (64+c)]++[]++zFz w:=rfl;rw [er] at hl ⊢;simp only [zoP,zoN,zoT] at hl;clear hD;refine zH<|sX ?_
  refine zCl e1<|zCl e2<|zAA (vs':=[.int .u8 ↑(UInt8.ofNat (64+c)).toNat]) rfl rfl<|zLv [UInt8.ofNat (64+c)] rfl rfl<|zBA (by first|(simp;done)|(simp;omega))<|sX ?_
  refine zBA (by first|(simp;done)|(simp;omega)) ?_;exact sRv
theorem zKx (hD:DgH C) (c w:Nat) (h:1<=c/\c<=26) (h2:1<=w/\w<=99) (H:Heap):EFun C GT zCd [rV ⟨c,w,false,true⟩] H (.str (zD3 ⟨c,w,false,true⟩)) H:=by
  have hd:=hD w tO;have hl:=(zFh (r:=⟨c,w,false,true⟩) ⟨by simp only;omega,by simp only;omega,by simp only;omega,by simp only;omega⟩).2;have e1:IntKind.i64.wrap (64+(c:Int))=((64+c:Nat):Int):=by rw [IntKind.wrap_i64];omega
  have e2:IntKind.u8.wrap ((64+c:Nat):Int)=(((UInt8.ofNat (64+c)).toNat:Nat):Int):=by rw [IntKind.wrap_u8];first|(simp;done)|(simp;omega)
  have er:zD3 ⟨c,w,false,true⟩=[]++[UInt8.ofNat (64+c)]++[36]++zFz w:=rfl;rw [er] at hl ⊢;simp only [zoP,zoN,zoT] at hl;clear hD;refine zH<|sX ?_
  refine zCl e1<|zCl e2<|zAA (vs':=[.int .u8 ↑(UInt8.ofNat (64+c)).toNat]) rfl rfl<|zLv [UInt8.ofNat (64+c)] rfl rfl<|zBA (by first|(simp;done)|(simp;omega))<|sX ?_
  refine zBA (by first|(simp;done)|(simp;omega))<|sX ?_
  refine zBA (by first|(simp;done)|(simp;omega)) ?_;exact sRv
theorem zJ3 (hD:DgH C) (c w:Nat) (h:1<=c/\c<=26) (h2:1<=w/\w<=99) (H:Heap):EFun C GT zCd [rV ⟨c,w,false,false⟩] H (.str (zD3 ⟨c,w,false,false⟩)) H:=by
  have hd:=hD w tO;have hl:=(zFh (r:=⟨c,w,false,false⟩) ⟨by simp only;omega,by simp only;omega,by simp only;omega,by simp only;omega⟩).2;have e1:IntKind.i64.wrap (64+(c:Int))=((64+c:Nat):Int):=by rw [IntKind.wrap_i64];omega
  have e2:IntKind.u8.wrap ((64+c:Nat):Int)=(((UInt8.ofNat (64+c)).toNat:Nat):Int):=by rw [IntKind.wrap_u8];first|(simp;done)|(simp;omega)
  have er:zD3 ⟨c,w,false,false⟩=[]++[UInt8.ofNat (64+c)]++[]++zFz w:=rfl;rw [er] at hl ⊢;simp only [zoP,zoN,zoT] at hl;clear hD;refine zH<|sX ?_
  refine zCl e1<|zCl e2<|zAA (vs':=[.int .u8 ↑(UInt8.ofNat (64+c)).toNat]) rfl rfl<|zLv [UInt8.ofNat (64+c)] rfl rfl<|zBA (by first|(simp;done)|(simp;omega))<|sX ?_
  refine zBA (by first|(simp;done)|(simp;omega)) ?_;exact sRv
abbrev RtH (C:CSpec) (n:Nd):Prop:=∀ H,C zBm [ndV n] H (.str (txt n)) H
structure RshH (C:CSpec):Prop where
  dig:DgH C
  tru:∀ (x:Bool) H,C zH3 [.bool x] H (v3 3 (if x=true then 1 else 0)) H
  stru:∀ (x:Bool) H,C zFJ [v3 3 (if x=true then 1 else 0)] H (.str (if x then zFx else zDS)) H
  bad:∀ (k:Nat) H,C zDr [zL k] H (v3 4 k) H
  sbad:∀ (k:Nat),1<=k/\k<=6->∀ H,C zFJ [v3 4 k] H (.str (wrongs.getD (k-1) [])) H
  ref:∀ (r:RefP),okR r->∀ H,C zFC [rV r] H (.str (zD3 r)) H
  inn:∀ (s:Bs) (b:Bool),s.length<=1000000->∀ H,C zIy [.str s,.bool b] H (.str (brk b s)) H
  tightn:∀ (n:Nd),(n.kind=8->1<=n.num/\n.num<=11)->∀ H,C zGB [ndV n] H (zL (zb n)) H
  tight:∀ op H,op<=1000->C zBa [zL op] H (zL (tight op)) H
  sign:∀ (k:Nat),1<=k/\k<=11->∀ H,C zEk [zL k] H (.str (opT k)) H
theorem zUx:∀ (a b:Bs),esc (a++b)=esc a++esc b
  |[],_=>rfl
  | c::r,b=>by
    rw [zl9,esc,esc,zUx r b];split <;> simp
theorem zfN {t:Bs} {i:Nat} {c:UInt8} (h:t[i]?=some c):esc (t.take (i+1))=esc (t.take i)++(if c=34 then [34,34] else [c]):=by
  rw [zm9,h,znO,zUx]
  congr 1
theorem zUy (t:Bs) (i:Nat):(esc (t.take i)).length<=(esc t).length:=by
  have h:=zUx (t.take i) (t.drop i);rw [zmr] at h;rw [h,zoP];omega
theorem zbw (S:RshH C) (m:Nat) (h:m<=9223372036854775807) (H:Heap):EFun C GT zAu [ndV (zJj m)] H (.str (zFz m)) H:=by
  have hd:=S.dig m h;refine zH<|sX ?_
  exact sRv
theorem zbx (S:RshH C) (b:Bool) (H:Heap):EFun C GT zAu [ndV (zE3 b)] H (.str (if b then zFx else zDS)) H:=by
  have ht:=S.tru b;have hs:=S.stru b;refine zH<|zAV (x:=ndV (zE3 b)) rfl ?_
  cases b with
  | true => refine zA (.int IntKind.i64 (zE3 true).kind) zB rfl ?_
            refine sX ?_;exact zAQ rfl rfl rfl rfl hO
  | false => refine zA (.int IntKind.i64 (zE3 false).kind) zB rfl ?_
             refine sX ?_;exact sRv
theorem zby (S:RshH C) (k:Nat) (h:1<=k/\k<=6) (H:Heap):EFun C GT zAu [ndV (zHJ k)] H (.str (wrongs.getD (k-1) [])) H:=by
  have ht:=S.bad k;have hs:=S.sbad k h;refine zH<|sX ?_
  exact sRv
theorem zbz (S:RshH C) (r:RefP) (h:okR r) (H:Heap):EFun C GT zAu [ndV (zB3 r)] H (.str (zD3 r)) H:=by
  have ht:=S.ref r h;refine zH<|sX ?_
  exact sRv
theorem zb0 (S:RshH C) (r o:RefP) (h:okR r) (h2:okR o) (H:Heap):EFun C GT zAu [ndV (zAy r o)] H (.str (zD3 r++58::zD3 o)) H:=by
  have ht:=S.ref r h;have ht2:=S.ref o h2;have l1:=(zFh h).2;have l2:=(zFh h2).2;have e:zD3 r++58::zD3 o=(zD3 r++[58])++zD3 o:=by simp
  rw [e];refine zH<|sX ?_
  refine zBA (by first|(simp;done)|(simp;omega)|omega)<|sX ?_
  refine zBA (by first|(simp;done)|(simp;omega)|omega) ?_;exact sRv
theorem zb1 (S:RshH C) (n:Nd) (hn:n.kind=8->1<=n.num/\n.num<=11) (hT:RtH C n) (hl:(txt n).length<=1000000) (H:Heap):EFun C GT zAu [ndV (zl1 n)] H (.str (txt (zl1 n))) H:=by
  have ht:∀ H,C zBm [ndV n] H (.str (txt n)) H:=hT;have hi:=S.inn (txt n) (decide (zb n<9)) hl;have hxv:=z7 (zl1 n);have hk:((zl1 n).kids.map ndV)[0]?=some (ndV n):=rfl;have hb:(n.kind==8)=decide (zb n<9):=by
    have:=zDx n.num.toNat;unfold zb;by_cases h:n.kind=8
    · grind
    · rw [zWl h,tN h];rfl
  have hbl:=zBj (decide (zb n<9)) (txt n);rw [zEz];rw [<-hb] at hi hbl ⊢;have hbl2:(brk (n.kind==8) (txt n)).length<=1000002:=by rw [hbl];split <;> omega
  refine zH<|sX ?_
  refine zBA (by first|(simp;done)|(simp;omega)|omega) ?_;exact sRv
theorem zb2 (S:RshH C) (op:Nat) (a b:Nd) (h:1<=op/\op<=11) (ha:a.kind=8->1<=a.num/\a.num<=11) (hb:b.kind=8->1<=b.num/\b.num<=11) (hTa:RtH C a) (hTb:RtH C b) (hl:(txt (zAn op a b)).length<=1000000) (H:Heap):EFun C GT zAu [ndV (zAn op a b)] H (.str (txt (zAn op a b))) H:=by
  have ht:∀ H,C zBm [ndV a] H (.str (txt a)) H:=hTa;have ht2:∀ H,C zBm [ndV b] H (.str (txt b)) H:=hTb;rw [zEX] at hl ⊢;simp only [zoP,zBj] at hl;have t1:=S.tightn a ha;have t2:=S.tightn b hb;have t3:=fun H=>S.tight op H tO;have e1:decide ((zb a:Int)<(tight op:Int))=decide (zb a<tight op):=by rw [znD];omega
  have e2:decide ((zb b:Int)<=(tight op:Int))=decide (zb b<=tight op):=by rw [znD];omega
  have i1:=S.inn (txt a) (decide ((zb a:Int)<(tight op:Int))) tO;have i2:=S.inn (txt b) (decide ((zb b:Int)<=(tight op:Int))) tO;rw [<-e1,<-e2];have l1:(brk (decide ((zb a:Int)<(tight op:Int))) (txt a)).length<=1000002:=by rw [zBj];split <;> omega
  have l2:(brk (decide ((zb b:Int)<=(tight op:Int))) (txt b)).length<=1000002:=by rw [zBj];split <;> omega
  have l3:(opT op).length<=1000000:=by omega
  have sg:=S.sign op h;have hxv:=z7 (zAn op a b);have hk:((zAn op a b).kids.map ndV)[0]?=some (ndV a):=rfl;have hk2:((zAn op a b).kids.map ndV)[1]?=some (ndV b):=rfl;clear hTa hTb e1 e2 S;refine zH<|sX ?_
  refine zBA (by first|(simp;done)|(simp;omega)|omega)<|zBA (by rw [zoP] <;> omega) ?_
  exact sRv
theorem zYH (t:Bs) (ks:List Nd) (hT:∀ k∈ks,RtH C k) (hkl:ks.length<=1000000) (hl:(txt (zAw t ks)).length<=1000000) (H:Heap):EFun C GT zAu [ndV (zAw t ks)] H (.str (txt (zAw t ks))) H:=by
  have hxv:zCS (zGZ (zAw t ks)) 12 (ks.map ndV):=z7 (zAw t ks);have hlm:(ks.map ndV).length=ks.length:=zoU _;rw [zCz] at hl ⊢;simp only [zoP,zoN,zoT] at hl;have e:t++40::zAx (ks.map txt)++[41]=((t++[40])++zAx (ks.map txt))++[41]:=by simp
  rw [e];refine zH<|zAV (x:=ndV (zAw t ks)) rfl<|zA (.int IntKind.i64 (zAw t ks).kind) zB rfl<|zC<|zC<|zC<|zC<|zC<|zC<|zC<|zC<|zA (.str t) zB rfl<|zBA (by first|(simp;done)|(simp;omega)|omega) ?_
  refine zAr (fun i:Nat=>[(12,zL i),(1,bR H.length),(11,.str ((t++[40])++zAx ((ks.take i).map txt)))]) (fun i H'=>i<=ks.length/\H'=H++[ABlk.box (ndV (zAw t ks)).cells]) (fun i=>ks.length-i) 0 (by show _=[(12,zL 0),(1,bR H.length),(11,.str ((t++[40])++[]))];rw [zmR];rfl) ⟨by omega,rfl⟩ (fun i H1 hi=>?_);obtain ⟨hi,rfl⟩:=hi;by_cases hlt:i<ks.length
  · obtain ⟨k,hk⟩:∃ k,ks[i]?=some k:=⟨_,zoO hlt⟩
    have hkm:(ks.map ndV)[i]?=some (ndV k):=by rw [zoX,hk];rfl
    have hs:∀ H,C zBm [ndV k] H (.str (txt k)) H:=hT k (zoc hk);have hj:=zQS hk;have hle:=zLr (ks.map txt) i;have hle2:=zLr (ks.map txt) (i+1);rw [<-List.map_take] at hle hle2;have hjl:=zod List.length hj;clear hT;by_cases h0:i=0
    · have c0:decide ((i:Int)>0)=false:=tF
      rw [zoQ h0] at hj hjl;have en:AV.str ((t++[40])++zAx ((ks.take i).map txt)++txt k)=.str ((t++[40])++zAx ((ks.take (i+1)).map txt)):=by rw [hj,h0];simp [zAx]
      refine sX ?_;refine zBA (by simp only [zoP,zoN,zoT];omega)<|zQ (r:=i+1) rfl tO ?_
      rw [en];exact zAJ (i+1) rfl ⟨by omega,rfl⟩ tO
    · have c0:decide ((i:Int)>0)=true:=tT
      rw [zWl h0] at hj hjl;simp only [zoP,zoN] at hjl;have en:AV.str ((t++[40])++zAx ((ks.take i).map txt)++[44]++txt k)=.str ((t++[40])++zAx ((ks.take (i+1)).map txt)):=by rw [hj];simp
      refine sX ?_;refine zBA (by simp only [zoP,zoN,zoT];omega) ?_;refine sX ?_;refine zBA (by simp only [zoP,zoN,zoT];omega) ?_;refine zQ (r:=i+1) rfl tO ?_;rw [en];exact zAJ (i+1) rfl ⟨by omega,rfl⟩ tO
  · obtain rfl:i=ks.length:=by omega
    rw [zmg];refine sX ?_;refine zBA (by simp only [zoP,zoN,zoT];omega) ?_;exact sRv
theorem zb3 (t:Bs) (hl:t.length<=1000000) (H:Heap):EFun C GT zAu [ndV (zHG t)] H (.str (txt (zHG t))) H:=by
  have hel:∀ i,(esc (t.take i)).length<=2*t.length:=fun i=>by
    have h1:=zUy t i;have h2:∀ u:Bs,(esc u).length<=2*u.length:=fun u=>by
      induction u with
      |nil=>exact zoR _
      |cons c r ih=>unfold esc;split <;> simp only [zoN] <;> omega
    have:=h2 t;omega
  rw [zKt];refine zH<|zAV (x:=ndV (zHG t)) rfl ?_
  obtain ⟨H0,e0⟩:∃ H0,H++[ABlk.box (ndV (zHG t)).cells]=H0:=⟨_,rfl⟩;have hbn:H0[H.length]?=some (.box (ndV (zHG t)).cells):=by rw [<-e0];exact zB
  have hO0:Old H H0:=by rw [<-e0];exact (Old.refl H).push _
  rw [e0];clear e0;refine sX ?_;refine zAA (vs':=[.int .u8 34]) rfl rfl ?_;refine zA0 (H0:=H0) (Owns.nil _ _ _) ((Old.refl H0).push _) zAR tO zS_ zS_ fun v1 H1 ho1 hO1 _ _=>?_;refine zAr (fun s:Nat×AV=>[(4,zL s.1),(1,bR H.length),(3,s.2)]) (fun s H'=>s.1<=t.length/\Owns H0 H' s.2 1 ((34::esc (t.take s.1)).map zq)/\Old H0 H') (fun s=>t.length-s.1) (0,v1) rfl ⟨by omega,ho1,hO1⟩ (fun s H2 hi=>?_);obtain ⟨i,v⟩:=s;obtain ⟨hi,ho,hO⟩:=hi;simp only at hi ho;have hl1:=hel i;have hb2:H2[H.length]?=some (.box (ndV (zHG t)).cells):=by rw [hO.2 _ (zl_ hbn)];exact hbn
  by_cases hlt:i<t.length
  · obtain ⟨c,hc⟩:∃ c,t[i]?=some c:=⟨_,zoO hlt⟩
    have he:=zfN hc;by_cases h34:c=34
    · have e1:((c.toNat:Int)==34)=true:=by rw [h34];rfl
      have hx:((34::esc (t.take i)).map zq++[zq 34])++[zq c]=(34::esc (t.take (i+1))).map zq:=by rw [he,zoQ h34,h34];simp
      refine zA (.str t) hb2 rfl<|zt tT<|zA (.str t) hb2 rfl<|zCF (i:=i) rfl hc<|sX ?_
      refine zAA (vs':=[.int .u8 34]) rfl rfl<|zA0 (H0:=H0) (ho.push _) (hO.push _) zAR tO (by simp;omega) zS_ fun v3 H3 ho3 hO3 hbk3 hf3=>?_
      have hb3:H3[H.length]?=some (.box (ndV (zHG t)).cells):=by rw [hO3.2 _ (zl_ hbn)];exact hbn
      refine zA (.str t) hb3 rfl ?_;refine zCF (i:=i) rfl hc ?_;refine zAA (vs':=[zq c]) rfl rfl ?_;refine zA0 (H0:=H0) (ho3.push _) (hO3.push _) zAR tO (by simp;omega) zS_ fun v4 H4 ho4 hO4 hbk4 hf4=>?_;refine zQ (r:=i+1) rfl tO ?_;exact zAJ (i+1,v4) rfl ⟨by simp only;omega,by rw [<-hx];exact ho4,hO4⟩ (by simp only;omega)
    · have e1:((c.toNat:Int)==34)=false:=tN (fun e=>h34 (by
        have:c.toNat=34:=by omega
        rw [<-UInt8.toNat_inj];exact this))
      have hx:(34::esc (t.take i)).map zq++[zq c]=(34::esc (t.take (i+1))).map zq:=by rw [he,zWl h34];simp
      refine zA (.str t) hb2 rfl ?_;refine zt tT ?_;refine zA (.str t) hb2 rfl ?_;refine zCF (i:=i) rfl hc ?_;refine zc e1 ?_;refine zA (.str t) hb2 rfl ?_;refine zCF (i:=i) rfl hc ?_;refine zAA (vs':=[zq c]) rfl rfl ?_;refine zA0 (H0:=H0) (ho.push _) (hO.push _) zAR tO (by simp;omega) zS_ fun v4 H4 ho4 hO4 hbk4 hf4=>?_;refine zQ (r:=i+1) rfl tO ?_;exact zAJ (i+1,v4) rfl ⟨by simp only;omega,by rw [<-hx];exact ho4,hO4⟩ (by simp only;omega)
  · obtain rfl:i=t.length:=by omega
    rw [zmg] at ho hl1;have hx:(34::esc t).map zq++[zq 34]=(34::esc t++[34]).map zq:=by simp
    refine zA (.str t) hb2 rfl<|sW ?_
    refine zAA (vs':=[.int .u8 34]) rfl rfl<|zA0 (H0:=H0) (ho.push _) (hO.push _) zAR tO (by simp;omega) zS_ fun v4 H4 ho4 hO4 hbk4 hf4=>?_
    have ho4:Owns H0 H4 v4 1 ((34::esc t++[34]).map zq):=by rw [<-hx];exact ho4
    refine zHW ho4 ?_;exact zAQ rfl rfl rfl rfl (hO0.trans hO4)
end
def zcu (r s:RefP):Bool:=(r.col==s.col)&&((r.row==s.row)&&((r.fc==s.fc)&&((r.fr==s.fr)&&true)))
def ziz (n m:Nd):Bool:=(n.kind==m.kind)&&((n.num==m.num)&&((n.text==m.text)&&(zcu n.ref m.ref&&zcu n.to m.to)))
mutual
def eqN:Nd->Nd->Bool
  |.mk k n t r o ks,m=>ziz (.mk k n t r o ks) m&&zQW ks m.kids
def zQW:List Nd->List Nd->Bool
  |[],ls=>ls.isEmpty
  | a::r,ls=>match ls with
    |[]=>false
    |b::s=>eqN a b&&zQW r s
end
theorem zgM (n m:Nd):eqN n m=(ziz n m&&zQW n.kids m.kids):=by cases n;rw [eqN];rfl
theorem zRh:∀ {ks ls:List Nd},zQW ks ls=true->ks.length=ls.length
  |[],[],_=>rfl
  |[],_::_,h=>by simp [zQW] at h
  |_::_,[],h=>by simp [zQW] at h
  | a::r,b::s,h=>by
    rw [zQW,zTo] at h;rw [zoN,zoN,zRh h.2]
theorem zTL {ks ls:List Nd} {i:Nat} {k l:Nd} (h:ks[i]?=some k) (h2:ls[i]?=some l):zQW (ks.drop i) (ls.drop i)=(eqN k l&&zQW (ks.drop (i+1)) (ls.drop (i+1))):=by
  have a:=(zg h);have b:=(zg h2);obtain ⟨a1,a2⟩:=a;obtain ⟨b1,b2⟩:=b;rw [zmF a1,zmF b1,a2,b2,zQW]
section
variable {C:CSpec} {GT:zG_}
theorem zfO (n m:Nd) (b:Bool) (hE:∀ H,C zV [zGZ n,zGZ m,.fn zAh [] []] H (.bool b) H) (H:Heap):EFun C GT zOK [ndV n,ndV m] H (.bool (ziz n m&&b)) H:=by
  refine zH<|zAV (x:=ndV n) rfl<|zAV (x:=ndV m) rfl ?_
  unfold ziz;cases e1:(n.kind==m.kind) with
  | false => refine zA (.int IntKind.i64 n.kind) hP rfl ?_
             refine sX ?_;exact zAQ rfl rfl rfl rfl hO
  | true=>
    cases e2:(n.num==m.num) with
    | false => refine zA (.int IntKind.i64 n.kind) hP rfl ?_
               refine sX ?_;exact zAQ rfl rfl rfl rfl hO
    | true=>
      cases e3:(n.text==m.text) with
      | false => refine zA (.int IntKind.i64 n.kind) hP rfl ?_
                 refine sX ?_;exact sRv
      | true=>
        cases e4:zcu n.ref m.ref with
        | false=>
          have e4':zL9 false ((n.ref.col==m.ref.col)&&((n.ref.row==m.ref.row)&&((n.ref.fc==m.ref.fc)&&((n.ref.fr==m.ref.fr)&&true))))=false:=e4;refine zA (.int IntKind.i64 n.kind) hP rfl<|zA (.int IntKind.i64 m.kind) zB rfl<|zt e1<|zA (.int IntKind.i64 n.num) hP rfl<|zA (.int IntKind.i64 m.num) zB rfl<|zD<|zt e2<|zA (.str n.text) hP rfl<|zA (.str m.text) zB rfl<|zD<|zt e3<|zA (.agg [.int .i64 n.ref.col,.int .i64 n.ref.row,.bool n.ref.fc,.bool n.ref.fr]) hP rfl<|zA (.agg [.int .i64 m.ref.col,.int .i64 m.ref.row,.bool m.ref.fc,.bool m.ref.fr]) zB rfl<|za rfl<|zD<|zc e4'<|sX ?_
          exact sRv
        | true=>
          have e4':zL9 false ((n.ref.col==m.ref.col)&&((n.ref.row==m.ref.row)&&((n.ref.fc==m.ref.fc)&&((n.ref.fr==m.ref.fr)&&true))))=true:=e4;cases e5:zcu n.to m.to with
          | false=>
            have e5':zL9 false ((n.to.col==m.to.col)&&((n.to.row==m.to.row)&&((n.to.fc==m.to.fc)&&((n.to.fr==m.to.fr)&&true))))=false:=e5;refine zA (.int IntKind.i64 n.kind) hP rfl<|zA (.int IntKind.i64 m.kind) zB rfl<|zt e1<|zA (.int IntKind.i64 n.num) hP rfl<|zA (.int IntKind.i64 m.num) zB rfl<|zD<|zt e2<|zA (.str n.text) hP rfl<|zA (.str m.text) zB rfl<|zD<|zt e3<|zA (.agg [.int .i64 n.ref.col,.int .i64 n.ref.row,.bool n.ref.fc,.bool n.ref.fr]) hP rfl<|zA (.agg [.int .i64 m.ref.col,.int .i64 m.ref.row,.bool m.ref.fc,.bool m.ref.fr]) zB rfl<|za rfl<|zD<|zt e4'<|zA (.agg [.int .i64 n.to.col,.int .i64 n.to.row,.bool n.to.fc,.bool n.to.fr]) hP rfl ?_
            refine zA (.agg [.int .i64 m.to.col,.int .i64 m.to.row,.bool m.to.fc,.bool m.to.fr]) zB rfl<|za rfl<|zD<|zc e5'<|sX ?_
            exact sRv
          | true=>
            have e5':zL9 false ((n.to.col==m.to.col)&&((n.to.row==m.to.row)&&((n.to.fc==m.to.fc)&&((n.to.fr==m.to.fr)&&true))))=true:=e5;refine zA (.int IntKind.i64 n.kind) hP rfl<|zA (.int IntKind.i64 m.kind) zB rfl<|zt e1<|zA (.int IntKind.i64 n.num) hP rfl<|zA (.int IntKind.i64 m.num) zB rfl<|zD<|zt e2<|zA (.str n.text) hP rfl<|zA (.str m.text) zB rfl<|zD<|zt e3<|zA (.agg [.int .i64 n.ref.col,.int .i64 n.ref.row,.bool n.ref.fc,.bool n.ref.fr]) hP rfl<|zA (.agg [.int .i64 m.ref.col,.int .i64 m.ref.row,.bool m.ref.fc,.bool m.ref.fr]) zB rfl<|za rfl<|zD<|zt e4'<|zA (.agg [.int .i64 n.to.col,.int .i64 n.to.row,.bool n.to.fc,.bool n.to.fr]) hP rfl ?_
            refine zA (.agg [.int .i64 m.to.col,.int .i64 m.to.row,.bool m.to.fc,.bool m.to.fr]) zB rfl<|za rfl<|zD<|zt e5'<|sX ?_
            exact sRv
theorem zb4 (xv yv:AV) (ks ls:List Nd) (hxv:zCS xv 12 (ks.map ndV)) (hyv:zCS yv 12 (ls.map ndV)) (hl:ks.length<=1000000) (hS:∀ k∈ks,∀ l H,C zAh [ndV k,ndV l] H (.bool (eqN k l)) H) (H:Heap) :
    EFun C GT zAP [xv,yv,.fn zAh [] []] H (.bool (zQW ks ls)) H:=by
  have hlm:(ks.map ndV).length=ks.length:=zoU _;have hlm2:(ls.map ndV).length=ls.length:=zoU _;refine zH ?_;by_cases hne:ks.length=ls.length
  · refine sX ?_
    refine zc (zog.2 tO)<|sX ?_
    refine zAr (fun i:Nat=>[(17,zL i),(2,.fn zAh [] []),(1,yv),(15,xv),(16,zL ks.length)]) (fun i H'=>Old H H'/\i<=ks.length/\zQW (ks.drop i) (ls.drop i)=zQW ks ls) (fun i=>ks.length-i) 0 rfl ⟨Old.refl _,by omega,rfl⟩ (fun i H1 hi=>?_);obtain ⟨hO,hi,hq⟩:=hi;dsimp only;by_cases hlt:i<ks.length
    · obtain ⟨k,hk⟩:∃ k,ks[i]?=some k:=⟨_,zoO hlt⟩
      obtain ⟨l,hl2⟩:∃ l,ls[i]?=some l:=⟨_,zoO tO⟩;have hkm:(ks.map ndV)[i]?=some (ndV k):=by rw [zoX,hk];rfl
      have hkm2:(ls.map ndV)[i]?=some (ndV l):=by rw [zoX,hl2];rfl
      have hs:=hS k (zoc hk) l;rw [zTL hk hl2] at hq;clear hS;cases e:eqN k l with
      | true=>
        rw [e] at hs hq;refine sX ?_;refine sSA (ndV k) ?_;refine sX ?_;refine sSA (ndV l) ?_;refine sX ?_;refine zQ (r:=i+1) rfl tO ?_;refine zAJ (i+1) rfl ⟨(((hO.push _).set hO.1 _).push _).set (by rw [zoW,zoP];have:=hO.1;omega) _,by omega,hq⟩ tO
      | false=>
        rw [e] at hs hq;rw [<-hq];refine sX ?_;refine sSA (ndV k) ?_;refine sX ?_;refine sSA (ndV l) ?_;refine sX ?_;exact zAQ rfl rfl rfl rfl ((((hO.push _).set hO.1 _).push _).set (by rw [zoW,zoP];have:=hO.1;omega) _)
    · rw [zmM tO,zmM tO] at hq
      rw [<-hq];refine sX ?_;exact sRv
  · have e:zQW ks ls=false:=by
      cases e:zQW ks ls with
      |false=>rfl
      |true=>exact absurd (zRh e) hne
    rw [e];refine sX ?_;refine zt (zo0.2 tO) ?_;exact sRv
theorem zb5 (hS:∀ n m b,(∀ H,C zV [zGZ n,zGZ m,.fn zAh [] []] H (.bool b) H)->∀ H,C zAh [ndV n,ndV m] H (.bool (ziz n m&&b)) H)
    (hE:∀ (xv yv:AV) (ks ls:List Nd),zCS xv 12 (ks.map ndV)->zCS yv 12 (ls.map ndV)->ks.length<=1000000->(∀ k∈ks,∀ l H,C zAh [ndV k,ndV l] H (.bool (eqN k l)) H)->∀ H,C zV [xv,yv,.fn zAh [] []] H (.bool (zQW ks ls)) H)
    {x:Bool} {n:Nd} (h:Wf x n):(txt n).length<=1000->∀ m H,C zAh [ndV n,ndV m] H (.bool (eqN n m)) H:=by
  have node:∀ n:Nd,n.kids.length<=1000000->(∀ k∈n.kids,∀ l H,C zAh [ndV k,ndV l] H (.bool (eqN k l)) H)->∀ m H,C zAh [ndV n,ndV m] H (.bool (eqN n m)) H:=fun n hl hk m=>by
    rw [zgM];exact hS n m _ (hE _ _ n.kids m.kids (z7 n) (z7 m) hl hk)
  have leaf:∀ n:Nd,n.kids=[]->∀ m H,C zAh [ndV n,ndV m] H (.bool (eqN n m)) H:=fun n hk=>node n (by rw [hk];simp) (by rw [hk];simp);induction h with
  |num _ n h=>exact fun _=>leaf _ rfl
  |txt _ t=>exact fun _=>leaf _ rfl
  |tru _ b=>exact fun _=>leaf _ rfl
  |bad _ k h=>exact fun _=>leaf _ rfl
  |ref _ r h=>exact fun _=>leaf _ rfl
  |box r o h k=>exact fun _=>leaf _ rfl
  | neg _ n h ih=>
    intro hl;rw [zEz] at hl;simp only [zoN,zBj] at hl;refine node _ (by show [n].length<=1000000;simp) fun k hk=>?_;have hk:k∈[n]:=hk;rw [zl5.1 hk];exact ih tO
  | two _ op a b h ha hb iha ihb=>
    intro hl;rw [zEX] at hl;simp only [zoP,zBj] at hl;refine node _ (by show [a,b].length<=1000000;simp) fun k hk=>?_;have hk:k∈[a,b]:=hk;rcases zmG.1 hk with rfl|hk
    · exact iha tO
    · grind
  | call _ t ks h hk ih=>
    intro hl;rw [zCz] at hl;simp only [zoP,zoN] at hl;have hj:=zF0 (ks.map txt);refine node _ (by show ks.length<=1000000;have:=hj.1;rw [zoU] at this;omega) fun k hk'=>?_;have hk':k∈ks:=hk';exact ih k hk' (by have:=hj.2 (txt k) (zmh hk');omega)
theorem zb6 (S:RshH C) (hmk:∀ n,(∀ H,EFun C GT zAu [ndV n] H (.str (txt n)) H)->RtH C n) {x:Bool} {n:Nd} (h:Wf x n):(txt n).length<=1000000->RtH C n:=by
  induction h with
  |num x m h=>exact fun _=>hmk _ fun H=>by
                   have e:txt (zJj m)=zFz m:=by rw [zKs,zoq]
                   rw [e];exact zbw S m h H
  | txt x t=>
    intro hl;rw [zKt] at hl;simp only [zoP,zoN,zoT] at hl;have:=zbb t;exact hmk _ fun H=>zb3 t tO H
  | tru x b=>
    intro _;refine hmk _ fun H=>?_;rw [zKu];exact zbx S b H
  | bad x k h=>
    intro _;refine hmk _ fun H=>?_;rw [zOo];exact zby S k h H
  |ref x r h=>exact fun _=>hmk _ fun H=>zbz S r h H
  |box r o h k=>exact fun _=>hmk _ fun H=>zb0 S r o h k H
  | neg x n h ih=>
    intro hl;rw [zEz] at hl;simp only [zoN,zBj] at hl;exact hmk _ fun H=>zb1 S n (zUt h) (ih tO) tO H
  | two x op a b h ha hb iha ihb=>
    intro hl;have hl0:=hl;rw [zEX] at hl;simp only [zoP,zBj] at hl;exact hmk _ fun H=>zb2 S op a b h (zUt ha) (zUt hb) (iha tO) (ihb tO) hl0 H
  | call x t ks h hk ih=>
    intro hl;have hl0:=hl;rw [zCz] at hl;simp only [zoP,zoN] at hl;have hj:=zF0 (ks.map txt);exact hmk _ fun H=>zYH t ks (fun k hk'=>ih k hk' (by have:=hj.2 (txt k) (zmh hk');omega)) (by have:=hj.1;rw [zoU] at this;omega) hl0 H
theorem zb7 (hmk:∀ x n,(∀ H,EFun C GT zAL [ndV n,.bool x] H (.bool true) H)->RfH C x n) (hI:InH C)
    (hC:∀ t,t.length<=1000->∀ H,C z6 [.str t] H (.bool (zA3 t)) H) {x:Bool} {n:Nd} (h:Wf x n):(txt n).length<=1000->RfH C x n:=by
  have ok:∀ r,okR r->okC r.col r.row=true:=fun r h=>(zLt r).2 h;induction h with
  |num x m h=>exact fun _=>hmk _ _ fun H=>zbm x m H
  |txt x t=>exact fun _=>hmk _ _ fun H=>zbn x t H
  |tru x b=>exact fun _=>hmk _ _ fun H=>by cases b with
      |true=>exact zPf x H
      |false=>exact zOx x H
  |bad x k h=>exact fun _=>hmk _ _ fun H=>zbo x k h H
  |ref x r h=>exact fun _=>hmk _ _ fun H=>zbp hI x r (ok r h) H
  |box r o h k=>exact fun _=>hmk _ _ fun H=>zbq hI r o (ok r h) (ok o k) H
  | neg x n h ih=>
    intro hl;rw [zEz] at hl;simp only [zoN,zBj] at hl;exact hmk _ _ fun H=>zbr x n (ih tO) H
  | two x op a b h ha hb iha ihb=>
    intro hl;rw [zEX] at hl;simp only [zoP,zBj] at hl;exact hmk _ _ fun H=>zbs x op a b h (iha tO) (ihb tO) H
  | call x t ks h hk ih=>
    intro hl;rw [zCz] at hl;simp only [zoP,zoN] at hl;have hj:=zF0 (ks.map txt);exact hmk _ _ fun H=>zYF hC x t ks h tO (by have:=hj.1;rw [zoU] at this;omega) (fun k hk'=>ih k hk' (by have:=hj.2 (txt k) (zmh hk');omega)) H
theorem zWO {P:Nd->Prop} (node:∀ n:Nd,n.kids.length<=1000000->(∀ k∈n.kids,P k)->P n) {x:Bool} {n:Nd} (h:Wf x n):(txt n).length<=1000->P n:=by
  have leaf:∀ n:Nd,n.kids=[]->P n:=fun n hk=>node n (by rw [hk];simp) (by rw [hk];simp);induction h with
  |num _ n h=>exact fun _=>leaf _ rfl
  |txt _ t=>exact fun _=>leaf _ rfl
  |tru _ b=>exact fun _=>leaf _ rfl
  |bad _ k h=>exact fun _=>leaf _ rfl
  |ref _ r h=>exact fun _=>leaf _ rfl
  |box r o h k=>exact fun _=>leaf _ rfl
  | neg _ n h ih=>
    intro hl;rw [zEz] at hl;simp only [zoN,zBj] at hl;refine node _ (by show [n].length<=1000000;simp) fun k hk=>?_;have hk:k∈[n]:=hk;rw [zl5.1 hk];exact ih tO
  | two _ op a b h ha hb iha ihb=>
    intro hl;rw [zEX] at hl;simp only [zoP,zBj] at hl;refine node _ (by show [a,b].length<=1000000;simp) fun k hk=>?_;have hk:k∈[a,b]:=hk;rcases zmG.1 hk with rfl|hk
    · exact iha tO
    · grind
  | call _ t ks h hk ih=>
    intro hl;rw [zCz] at hl;simp only [zoP,zoN] at hl;have hj:=zF0 (ks.map txt);refine node _ (by show ks.length<=1000000;have:=hj.1;rw [zoU] at this;omega) fun k hk'=>?_;have hk':k∈ks:=hk';exact ih k hk' (by have:=hj.2 (txt k) (zmh hk');omega)
theorem zfP (n m:Nd) (hkl:n.kids.length<=1000000) (hS:∀ k∈n.kids,∀ l H,C zDA [ndV k,ndV l] H (.bool (eqN k l)) H) (H:Heap):EFun C GT zKE [ndV n,ndV m] H (.bool (eqN n m)) H:=by
  have hxv:=z7 n;have hyv:=z7 m;have hlm:(n.kids.map ndV).length=n.kids.length:=zoU _;have hlm2:(m.kids.map ndV).length=m.kids.length:=zoU _;rw [zgM];refine zH<|zAV (x:=ndV n) rfl<|zAV (x:=ndV m) rfl ?_
  have hb1:(H++[ABlk.box (ndV n).cells]++[ABlk.box (ndV m).cells])[H.length]?=some (.box (ndV n).cells):=zG zB;have hb2:(H++[ABlk.box (ndV n).cells]++[ABlk.box (ndV m).cells])[(H++[ABlk.box (ndV n).cells]).length]?=some (.box (ndV m).cells):=zB;have nt:∀ {α:Type} [BEq α] {a b:α},(a==b)=true->(a != b)=false:=fun h=>by unfold bne;rw [h];rfl
  have nf:∀ {α:Type} [BEq α] {a b:α},(a==b)=false->(a != b)=true:=fun h=>by unfold bne;rw [h];rfl
  unfold ziz;cases e1:(n.kind==m.kind) with
  | false => refine zA (.int IntKind.i64 n.kind) hP rfl ?_
             refine sX ?_;refine zt (nf e1)<|sX ?_
             exact zAQ rfl rfl rfl rfl hO
  | true=>
    cases e2:(n.num==m.num) with
    | false => refine zA (.int IntKind.i64 n.kind) hP rfl ?_
               refine sX ?_;refine zc (nt e1)<|sX ?_
               refine zt (nf e2)<|sX ?_
               exact zAQ rfl rfl rfl rfl hO
    | true=>
      cases e3:(n.text==m.text) with
      | false => refine zA (.int IntKind.i64 n.kind) hP rfl ?_
                 refine sX ?_;refine zc (nt e1)<|sX ?_
                 refine zc (nt e2)<|sX ?_
                 refine zt (nf e3)<|sX ?_
                 exact sRv
      | true=>
        cases e4:zcu n.ref m.ref with
        | false=>
          have e4':zL9 true ((n.ref.col==m.ref.col)&&((n.ref.row==m.ref.row)&&((n.ref.fc==m.ref.fc)&&((n.ref.fr==m.ref.fr)&&true))))=true:=by show (!(zcu n.ref m.ref))=true;rw [e4];rfl
          refine sX ?_;refine zc (nt e1)<|sX ?_
          refine zc (nt e2)<|sX ?_
          refine zc (nt e3)<|zA (.agg [.int .i64 n.ref.col,.int .i64 n.ref.row,.bool n.ref.fc,.bool n.ref.fr]) hP rfl<|zA (.agg [.int .i64 m.ref.col,.int .i64 m.ref.row,.bool m.ref.fc,.bool m.ref.fr]) zB rfl<|za rfl<|zC<|zt e4'<|sX ?_
          exact sRv
        | true=>
          have e4':zL9 true ((n.ref.col==m.ref.col)&&((n.ref.row==m.ref.row)&&((n.ref.fc==m.ref.fc)&&((n.ref.fr==m.ref.fr)&&true))))=false:=by show (!(zcu n.ref m.ref))=false;rw [e4];rfl
          cases e5:zcu n.to m.to with
          | false=>
            have e5':zL9 true ((n.to.col==m.to.col)&&((n.to.row==m.to.row)&&((n.to.fc==m.to.fc)&&((n.to.fr==m.to.fr)&&true))))=true:=by show (!(zcu n.to m.to))=true;rw [e5];rfl
            refine sX ?_;refine zc (nt e1)<|sX ?_
            refine zc (nt e2)<|sX ?_
            refine zc (nt e3)<|zA (.agg [.int .i64 n.ref.col,.int .i64 n.ref.row,.bool n.ref.fc,.bool n.ref.fr]) hP rfl<|zA (.agg [.int .i64 m.ref.col,.int .i64 m.ref.row,.bool m.ref.fc,.bool m.ref.fr]) zB rfl<|za rfl<|zC<|zc e4'<|zA (.agg [.int .i64 n.to.col,.int .i64 n.to.row,.bool n.to.fc,.bool n.to.fr]) hP rfl<|zA (.agg [.int .i64 m.to.col,.int .i64 m.to.row,.bool m.to.fc,.bool m.to.fr]) zB rfl<|za rfl<|zC<|zt e5'<|sX ?_
            exact sRv
          | true=>
            have e5':zL9 true ((n.to.col==m.to.col)&&((n.to.row==m.to.row)&&((n.to.fc==m.to.fc)&&((n.to.fr==m.to.fr)&&true))))=false:=by show (!(zcu n.to m.to))=false;rw [e5];rfl
            by_cases hne:n.kids.length=m.kids.length
            · refine sX ?_
              refine zc (nt e1)<|sX ?_
              refine zc (nt e2)<|sX ?_
              refine zc (nt e3)<|zA (.agg [.int .i64 n.ref.col,.int .i64 n.ref.row,.bool n.ref.fc,.bool n.ref.fr]) hP rfl<|zA (.agg [.int .i64 m.ref.col,.int .i64 m.ref.row,.bool m.ref.fc,.bool m.ref.fr]) zB rfl<|za rfl<|zC<|zc e4'<|zA (.agg [.int .i64 n.to.col,.int .i64 n.to.row,.bool n.to.fc,.bool n.to.fr]) hP rfl<|zA (.agg [.int .i64 m.to.col,.int .i64 m.to.row,.bool m.to.fc,.bool m.to.fr]) zB rfl<|za rfl<|zC<|zc e5'<|sX ?_
              refine zc (zog.2 tO) ?_;refine zAr (fun i:Nat=>[(5,zL i),(3,bR (H++[ABlk.box (ndV n).cells]).length),(2,bR H.length)]) (fun i H'=>i<=n.kids.length/\zQW (n.kids.drop i) (m.kids.drop i)=zQW n.kids m.kids/\H'=H++[ABlk.box (ndV n).cells]++[ABlk.box (ndV m).cells]) (fun i=>n.kids.length-i) 0 rfl ⟨by omega,rfl,rfl⟩ (fun i H1 hi=>?_);obtain ⟨hi,hq,rfl⟩:=hi;by_cases hlt:i<n.kids.length
              · obtain ⟨k,hk⟩:∃ k,n.kids[i]?=some k:=⟨_,zoO hlt⟩
                obtain ⟨l,hl2⟩:∃ l,m.kids[i]?=some l:=⟨_,zoO tO⟩;have hkm:(n.kids.map ndV)[i]?=some (ndV k):=by rw [zoX,hk];rfl
                have hkm2:(m.kids.map ndV)[i]?=some (ndV l):=by rw [zoX,hl2];rfl
                have hs:=hS k (zoc hk) l;rw [zTL hk hl2] at hq;clear hS;cases e:eqN k l with
                | true=>
                  rw [e] at hs hq;refine sX ?_;refine zQ (r:=i+1) rfl tO ?_;exact zAJ (i+1) rfl ⟨by omega,hq,rfl⟩ tO
                | false=>
                  rw [e] at hs hq;rw [<-hq];refine sX ?_;exact sRv
              · rw [zmM tO,zmM tO] at hq
                rw [<-hq];refine sX ?_;exact sRv
            · have e:zQW n.kids m.kids=false:=by
                cases e:zQW n.kids m.kids with
                |false=>rfl
                |true=>exact absurd (zRh e) hne
              rw [e];refine sX ?_;refine zc (nt e1)<|sX ?_
              refine zc (nt e2)<|sX ?_
              refine zc (nt e3)<|zA (.agg [.int .i64 n.ref.col,.int .i64 n.ref.row,.bool n.ref.fc,.bool n.ref.fr]) hP rfl<|zA (.agg [.int .i64 m.ref.col,.int .i64 m.ref.row,.bool m.ref.fc,.bool m.ref.fr]) zB rfl<|za rfl<|zC<|zc e4'<|zA (.agg [.int .i64 n.to.col,.int .i64 n.to.row,.bool n.to.fc,.bool n.to.fr]) hP rfl<|zA (.agg [.int .i64 m.to.col,.int .i64 m.to.row,.bool m.to.fc,.bool m.to.fr]) zB rfl<|za rfl<|zC<|zc e5'<|sX ?_
              refine zt (zo0.2 tO) ?_;exact sRv
end
end Go.AM
