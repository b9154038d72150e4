/- Several texts of mine in one (Rq4, Rq5, Alg, Ro1, On6). Own work. -/
import Derived.Test.YtkeblfepjkdleaaGreatDoorGAm30Fp1
import Derived.Test.YtkeblfepjkdleaaGreatDoorGRq1Sm1
import Derived.Test.YtkeblfepjkdleaaGreatDoorAc
set_option maxHeartbeats 4000000
set_option maxRecDepth 20000
set_option linter.all false
namespace Go.AM
section
variable {C:CSpec} {GT:zG_}
theorem zdA (S:RshH C) (hmk:∀ n,(∀ H,EFun C GT zAy [ndV n] H (.str (txt n)) H)->RtH C n) {x:Bool} {n:Nd} (h:Wf x n):(txt n).length<=1000000->RtH C n:=by
  induction h with
  |num x m h=>exact fun _=>hmk _ fun H=>by
                   have e:txt (zKP m)=zGC m:=by rw [zLY,zlo]
                   rw [e];exact zc0 S m h H
  | txt x t=>
    intro hl;rw [zLZ] at hl;simp only [zlH,zlE,zlL] at hl;have:=zcg t;exact hmk _ fun H=>zc7 t tO H
  | tru x b=>
    intro _;refine hmk _ fun H=>?_;rw [zLa];exact zc1 S b H
  | bad x k h=>
    intro _;refine hmk _ fun H=>?_;rw [zQV];exact zc2 S k h H
  |ref x r h=>exact fun _=>hmk _ fun H=>zc3 S r h H
  |box r o h k=>exact fun _=>hmk _ fun H=>zc4 S r o h k H
  | neg x n h ih=>
    intro hl;rw [zE9] at hl;simp only [zlE,zBl] at hl;exact hmk _ fun H=>zc5 S n (zWa h) (ih tO) tO H
  | two x op a b h ha hb iha ihb=>
    intro hl;have hl0:=hl;rw [zEg] at hl;simp only [zlH,zBl] at hl;exact hmk _ fun H=>zc6 S op a b h (zWa ha) (zWa hb) (iha tO) (ihb tO) hl0 H
  | call x t ks h hk ih=>
    intro hl;have hl0:=hl;rw [zDH] at hl;simp only [zlH,zlE] at hl;have hj:=zGD (ks.map txt);exact hmk _ fun H=>zZW t ks (fun k hk'=>ih k hk' (by have:=hj.2 (txt k) (zmV hk');omega)) (by have:=hj.1;rw [zlM] at this;omega) hl0 H
theorem zdB (hmk:∀ x n,(∀ H,EFun C GT zAQ [ndV n,.bool x] H (.bool true) H)->RfH C x n) (hI:InH C)
    (hC:∀ t,t.length<=1000->∀ H,C zAB [.str t] H (.bool (zA8 t)) H) {x:Bool} {n:Nd} (h:Wf x n):(txt n).length<=1000->RfH C x n:=by
  have ok:∀ r,okR r->okC r.col r.row=true:=fun r h=>(zTS r).2 h;induction h with
  |num x m h=>exact fun _=>hmk _ _ fun H=>zcq x m H
  |txt x t=>exact fun _=>hmk _ _ fun H=>zcr x t H
  |tru x b=>exact fun _=>hmk _ _ fun H=>by cases b with
      |true=>exact zRR x H
      |false=>exact zQe x H
  |bad x k h=>exact fun _=>hmk _ _ fun H=>zcs x k h H
  |ref x r h=>exact fun _=>hmk _ _ fun H=>zct hI x r (ok r h) H
  |box r o h k=>exact fun _=>hmk _ _ fun H=>zcu hI r o (ok r h) (ok o k) H
  | neg x n h ih=>
    intro hl;rw [zE9] at hl;simp only [zlE,zBl] at hl;exact hmk _ _ fun H=>zcv x n (ih tO) H
  | two x op a b h ha hb iha ihb=>
    intro hl;rw [zEg] at hl;simp only [zlH,zBl] at hl;exact hmk _ _ fun H=>zcw x op a b h (iha tO) (ihb tO) H
  | call x t ks h hk ih=>
    intro hl;rw [zDH] at hl;simp only [zlH,zlE] at hl;have hj:=zGD (ks.map txt);exact hmk _ _ fun H=>zZU hC x t ks h tO (by have:=hj.1;rw [zlM] at this;omega) (fun k hk'=>ih k hk' (by have:=hj.2 (txt k) (zmV hk');omega)) H
theorem zXn {P:Nd->Prop} (node:∀ n:Nd,n.kids.length<=1000000->(∀ k∈n.kids,P k)->P n) {x:Bool} {n:Nd} (h:Wf x n):(txt n).length<=1000->P n:=by
  have leaf:∀ n:Nd,n.kids=[]->P n:=fun n hk=>node n (by rw [hk];simp) (by rw [hk];simp);induction h with
  |num _ n h=>exact fun _=>leaf _ rfl
  |txt _ t=>exact fun _=>leaf _ rfl
  |tru _ b=>exact fun _=>leaf _ rfl
  |bad _ k h=>exact fun _=>leaf _ rfl
  |ref _ r h=>exact fun _=>leaf _ rfl
  |box r o h k=>exact fun _=>leaf _ rfl
  | neg _ n h ih=>
    intro hl;rw [zE9] at hl;simp only [zlE,zBl] at hl;refine node _ (by show [n].length<=1000000;simp) fun k hk=>?_;have hk:k∈[n]:=hk;rw [zls.1 hk];exact ih tO
  | two _ op a b h ha hb iha ihb=>
    intro hl;rw [zEg] at hl;simp only [zlH,zBl] at hl;refine node _ (by show [a,b].length<=1000000;simp) fun k hk=>?_;have hk:k∈[a,b]:=hk;rcases zmC.1 hk with rfl|hk
    · exact iha tO
    · rw [zls.1 hk]
      exact ihb tO
  | call _ t ks h hk ih=>
    intro hl;rw [zDH] at hl;simp only [zlH,zlE] at hl;have hj:=zGD (ks.map txt);refine node _ (by show ks.length<=1000000;have:=hj.1;rw [zlM] at this;omega) fun k hk'=>?_;have hk':k∈ks:=hk';exact ih k hk' (by have:=hj.2 (txt k) (zmV hk');omega)
theorem zgC (n m:Nd) (hkl:n.kids.length<=1000000) (hS:∀ k∈n.kids,∀ l H,C zCS [ndV k,ndV l] H (.bool (eqN k l)) H) (H:Heap):EFun C GT zKw [ndV n,ndV m] H (.bool (eqN n m)) H:=by
  have hxv:=zAE n;have hyv:=zAE m;have hlm:(n.kids.map ndV).length=n.kids.length:=zlM _;have hlm2:(m.kids.map ndV).length=m.kids.length:=zlM _;rw [zg1];refine zJ<|zCR (x:=ndV n) rfl<|zCR (x:=ndV m) rfl ?_
  have hb1:(H++[ABlk.box (ndV n).cells]++[ABlk.box (ndV m).cells])[H.length]?=some (.box (ndV n).cells):=zD zB;have hb2:(H++[ABlk.box (ndV n).cells]++[ABlk.box (ndV m).cells])[(H++[ABlk.box (ndV n).cells]).length]?=some (.box (ndV m).cells):=zB;have nt:∀ {α:Type} [BEq α] {a b:α},(a==b)=true->(a != b)=false:=fun h=>by unfold bne;rw [h];rfl
  have nf:∀ {α:Type} [BEq α] {a b:α},(a==b)=false->(a != b)=true:=fun h=>by unfold bne;rw [h];rfl
  unfold zjV;cases e1:(n.kind==m.kind) with
  | false => refine zA (.int IntKind.i64 n.kind) hP rfl ?_
             refine sX ?_;refine zn (nf e1)<|sX ?_
             exact zAv rfl rfl rfl rfl hO
  | true=>
    cases e2:(n.num==m.num) with
    | false => refine zA (.int IntKind.i64 n.kind) hP rfl ?_
               refine sX ?_;refine zi (nt e1)<|sX ?_
               refine zn (nf e2)<|sX ?_
               exact zAv rfl rfl rfl rfl hO
    | true=>
      cases e3:(n.text==m.text) with
      | false => refine zA (.int IntKind.i64 n.kind) hP rfl ?_
                 refine sX ?_;refine zi (nt e1)<|sX ?_
                 refine zi (nt e2)<|sX ?_
                 refine zn (nf e3)<|sX ?_
                 exact sRv
      | true=>
        cases e4:zdh n.ref m.ref with
        | false=>
          have e4':zTa true ((n.ref.col==m.ref.col)&&((n.ref.row==m.ref.row)&&((n.ref.fc==m.ref.fc)&&((n.ref.fr==m.ref.fr)&&true))))=true:=by show (!(zdh n.ref m.ref))=true;rw [e4];rfl
          refine sX ?_;refine zi (nt e1)<|sX ?_
          refine zi (nt e2)<|sX ?_
          refine zi (nt e3)<|zA (.agg [.int .i64 n.ref.col,.int .i64 n.ref.row,.bool n.ref.fc,.bool n.ref.fr]) hP rfl<|zA (.agg [.int .i64 m.ref.col,.int .i64 m.ref.row,.bool m.ref.fc,.bool m.ref.fr]) zB rfl<|zx rfl<|zG<|zn e4'<|sX ?_
          exact sRv
        | true=>
          have e4':zTa true ((n.ref.col==m.ref.col)&&((n.ref.row==m.ref.row)&&((n.ref.fc==m.ref.fc)&&((n.ref.fr==m.ref.fr)&&true))))=false:=by show (!(zdh n.ref m.ref))=false;rw [e4];rfl
          cases e5:zdh n.to m.to with
          | false=>
            have e5':zTa true ((n.to.col==m.to.col)&&((n.to.row==m.to.row)&&((n.to.fc==m.to.fc)&&((n.to.fr==m.to.fr)&&true))))=true:=by show (!(zdh n.to m.to))=true;rw [e5];rfl
            refine sX ?_;refine zi (nt e1)<|sX ?_
            refine zi (nt e2)<|sX ?_
            refine zi (nt e3)<|zA (.agg [.int .i64 n.ref.col,.int .i64 n.ref.row,.bool n.ref.fc,.bool n.ref.fr]) hP rfl<|zA (.agg [.int .i64 m.ref.col,.int .i64 m.ref.row,.bool m.ref.fc,.bool m.ref.fr]) zB rfl<|zx rfl<|zG<|zi e4'<|zA (.agg [.int .i64 n.to.col,.int .i64 n.to.row,.bool n.to.fc,.bool n.to.fr]) hP rfl<|zA (.agg [.int .i64 m.to.col,.int .i64 m.to.row,.bool m.to.fc,.bool m.to.fr]) zB rfl<|zx rfl<|zG<|zn e5'<|sX ?_
            exact sRv
          | true=>
            have e5':zTa true ((n.to.col==m.to.col)&&((n.to.row==m.to.row)&&((n.to.fc==m.to.fc)&&((n.to.fr==m.to.fr)&&true))))=false:=by show (!(zdh n.to m.to))=false;rw [e5];rfl
            by_cases hne:n.kids.length=m.kids.length
            · refine sX ?_
              refine zi (nt e1)<|sX ?_
              refine zi (nt e2)<|sX ?_
              refine zi (nt e3)<|zA (.agg [.int .i64 n.ref.col,.int .i64 n.ref.row,.bool n.ref.fc,.bool n.ref.fr]) hP rfl<|zA (.agg [.int .i64 m.ref.col,.int .i64 m.ref.row,.bool m.ref.fc,.bool m.ref.fr]) zB rfl<|zx rfl<|zG<|zi e4'<|zA (.agg [.int .i64 n.to.col,.int .i64 n.to.row,.bool n.to.fc,.bool n.to.fr]) hP rfl<|zA (.agg [.int .i64 m.to.col,.int .i64 m.to.row,.bool m.to.fc,.bool m.to.fr]) zB rfl<|zx rfl<|zG<|zi e5'<|sX ?_
              refine zi (zle.2 tO) ?_;refine zBG (fun i:Nat=>[(5,zK i),(3,bR (H++[ABlk.box (ndV n).cells]).length),(2,bR H.length)]) (fun i H'=>i<=n.kids.length/\zSB (n.kids.drop i) (m.kids.drop i)=zSB n.kids m.kids/\H'=H++[ABlk.box (ndV n).cells]++[ABlk.box (ndV m).cells]) (fun i=>n.kids.length-i) 0 rfl ⟨by omega,rfl,rfl⟩ (fun i H1 hi=>?_);obtain ⟨hi,hq,rfl⟩:=hi;by_cases hlt:i<n.kids.length
              · obtain ⟨k,hk⟩:∃ k,n.kids[i]?=some k:=⟨_,zlI hlt⟩
                obtain ⟨l,hl2⟩:∃ l,m.kids[i]?=some l:=⟨_,zlI tO⟩;have hkm:(n.kids.map ndV)[i]?=some (ndV k):=by rw [zlQ,hk];rfl
                have hkm2:(m.kids.map ndV)[i]?=some (ndV l):=by rw [zlQ,hl2];rfl
                have hs:=hS k (zlX hk) l;rw [zVE hk hl2] at hq;clear hS;cases e:eqN k l with
                | true=>
                  rw [e] at hs hq;refine sX ?_;refine zS (r:=i+1) rfl tO ?_;exact zAR (i+1) rfl ⟨by omega,hq,rfl⟩ tO
                | false=>
                  rw [e] at hs hq;rw [<-hq];refine sX ?_;exact sRv
              · rw [zl3 tO,zl3 tO] at hq
                rw [<-hq];refine sX ?_;exact sRv
            · have e:zSB n.kids m.kids=false:=by
                cases e:zSB n.kids m.kids with
                |false=>rfl
                |true=>exact absurd (zTU e) hne
              rw [e];refine sX ?_;refine zi (nt e1)<|sX ?_
              refine zi (nt e2)<|sX ?_
              refine zi (nt e3)<|zA (.agg [.int .i64 n.ref.col,.int .i64 n.ref.row,.bool n.ref.fc,.bool n.ref.fr]) hP rfl<|zA (.agg [.int .i64 m.ref.col,.int .i64 m.ref.row,.bool m.ref.fc,.bool m.ref.fr]) zB rfl<|zx rfl<|zG<|zi e4'<|zA (.agg [.int .i64 n.to.col,.int .i64 n.to.row,.bool n.to.fc,.bool n.to.fr]) hP rfl<|zA (.agg [.int .i64 m.to.col,.int .i64 m.to.row,.bool m.to.fc,.bool m.to.fr]) zB rfl<|zx rfl<|zG<|zi e5'<|sX ?_
              refine zn (zlz.2 tO) ?_;exact sRv
end
section
variable {C:CSpec} {GT:zG_}
theorem zdC (n:Nd) (hn:Wf false n) (hd:need n<=30) (hcn:cnt n<=200) (hln:(txt n).length<=5000) (hCt:RcH C n) (hF:RfH C false n) (hT:RtH C n)
    (hP:zAn (61::txt n)=some n->∀ H,C zBI [.str (61::txt n)] H (.tup [ndV n,zH 0,zH 0]) H) (H:Heap):EFun C GT zJo [ndV n] H (.tup [.str (zDd n),zK (zCB n)]) H:=by
  have hc:=fun H=>hCt 200 H hcn tO;have hf:∀ H,C zAO [ndV n,.bool false] H (.bool true) H:=hF;have ht:∀ H,C zAo [ndV n] H (.str (txt n)) H:=hT;have c0:decide ((cnt n:Int)>200)=false:=tF;clear hCt hF hT;refine zJ<|sX ?_
  by_cases hl:(txt n).length<=199
  · have hp:=hP (zU1 hn hd hl)
    have et:zDd n=61::txt n:=by unfold zDd;rw [zlF hl]
    have en:zCB n=0:=by unfold zCB;rw [zlF hl]
    have c1:decide ((([61]++txt n).length:Int)>200)=false:=tF (by simp only [zlH,zlE,zlL];omega);rw [et,en];clear hP;refine sX ?_;refine zBF (by simp only [zlH,zlE,zlL];omega)<|sX ?_
    refine sSA (ndV n) ?_;refine sX ?_;exact sRv
  · have et:zDd n=[]:=by unfold zDd;rw [zlD hl]
    have en:zCB n=4:=by unfold zCB;rw [zlD hl]
    have c1:decide ((([61]++txt n).length:Int)>200)=true:=tT (by simp only [zlH,zlE,zlL];omega);rw [et,en];clear hP;refine sX ?_;refine zBF (by simp only [zlH,zlE,zlL];omega)<|sX ?_
    exact sRv
end
section
variable {C:CSpec} {GT:zG_}
theorem zK7 {F:AF} {a s b s' t:Nat} {ag ag':Bool} {H H1:Heap} {fr:Fr} {v v1 v2:AV} {cs cs':List AV} {o o':Nat} (hF:F.results=[.cell a s ag,.cell b s' ag',.tmp t]) (hk:F.keep=false) (hp:zAD H1 (zL0 fr a)=some (cs,o)) (hpt:part cs o s ag=some v)
    (hp2:zAD H1 (zL0 fr b)=some (cs',o')) (hpt2:part cs' o' s' ag'=some v1) (ht:zL0 fr t=v2)
    (hf:zEM H.length (.tup [v,v1,v2]) H1=some (.tup [v,v1,v2],H1)) (hb:(AV.tup [v,v1,v2]).bel H.length=true) (ho:Old H H1):retP F H fr H1 (.tup [v,v1,v2]) H:=by
  refine zAv hk ?_ hf hb ho;rw [zFl] at hp ht hp2;simp only [hF,zBh,zLj,hp,hpt,hp2,hpt2,ht,zlW];rfl
abbrev NkH (C:CSpec) (n:Nd):Prop:=∀ H,C zGL [ndV n] H .nili H
abbrev OnH (C:CSpec) (c:Chg) (n:Nd):Prop:=∀ (fr fb:Nat) (cr cb:List AV) (l:List (Nat×ABlk)) H,zkq C fr cr l c.ref->zkr C fb cb l c.box->Holds l H->C zAS [cgV fr fb cr cb,ndV n] H (ndV (onN c n)) H
theorem zks {H:Heap} {a b:Nat} {x y:ABlk} (h1:H[a]?=some x) (h2:H[b]?=some y):Holds [(a,x),(b,y)] H:=fun p hp=>by
  rcases zmC.1 hp with rfl|hp
  · exact h1
  · rw [zls.1 hp];exact h2
theorem zg2 {H:Heap} {a b c:Nat} {x y z:ABlk} (h1:H[a]?=some x) (h2:H[b]?=some y) (h3:H[c]?=some z):Holds [(a,x),(b,y),(c,z)] H:=fun p hp=>by
  rcases zmC.1 hp with rfl|hp
  · exact h1
  · exact zks h2 h3 p hp
abbrev AlH (C:CSpec):Prop:=∀ (b:Nat) (row:Bool) (cs:List AV) H,H[b]?=some (.box cs)->C zFc [.ref b 0 0 0,.bool row] H (.ref b 0 0 (zWZ row)) H
theorem zdD (b:Nat) (row:Bool) (cs:List AV) (H:Heap) (hb:H[b]?=some (.box cs)):EFun C GT zN3 [.ref b 0 0 0,.bool row] H (.ref b 0 0 (zWZ row)) H:=by
  have hbl:=(zl_ hb);refine zJ ?_;cases row with
  | true=>
    refine sX ?_;exact zAv rfl rfl rfl (by simp [AV.bel,hbl]) hO
  | false=>
    refine sX ?_;exact zAv rfl rfl rfl (by simp [AV.bel,hbl]) hO
end
section
variable {C:CSpec} {GT:zG_}
def RRef (C:CSpec) (cv:AV) (g:RefP->Option RefP):Prop:=∀ r,okR r->∃ r',(∀ H,C zAL [cv,rV r] H (.tup [rV r',.bool (g r).isSome]) H)/\∀ x,g r=some x->r'=x
def RBox (C:CSpec) (cv:AV) (g:RefP->RefP->Option (RefP×RefP)):Prop:=∀ a b,okR a->okR b->∃ a' b',(∀ H,C zFm [cv,rV a,rV b] H (.tup [rV a',rV b',.bool (g a b).isSome]) H)/\∀ x,g a b=some x->(a',b')=x
def ccV (k:Int) (row:Bool) (at_ many cols rows:Int) (b:Bx):AV:=.agg [.int .i64 k,.bool row,.int .i64 at_,.int .i64 many,.int .i64 cols,.int .i64 rows,.int .i64 b.c0,.int .i64 b.r0,.int .i64 b.c1,.int .i64 b.r1]
variable {k0:Int} {row:Bool} {at_ many cols rows:Int} {bx:Bx}
theorem zgD (c:Chg) (hR:RRef C (ccV k0 row at_ many cols rows bx) c.ref) (r:RefP) (h:okR r) (H:Heap):EFun C GT zCn [(ccV k0 row at_ many cols rows bx),ndV (zB3 r)] H (ndV (onN c (zB3 r))) H:=by
  obtain ⟨r',hr,hx⟩:=hR r h;clear hR;rw [zck];refine zJ<|sX ?_
  cases e:c.ref r with
  | none=>
    rw [e] at hr;clear hx;refine sX ?_;refine sSA (rV r') ?_;refine sX ?_;refine sSA (.agg zV0) ?_;exact zAa (o:=0) rfl rfl (zI hP) rfl rfl rfl hO
  | some x=>
    rw [e] at hr;obtain rfl:=hx x e;clear hx;refine sX ?_;refine sSA (rV r') ?_;refine sX ?_;refine sSA (.agg [.int .i64 5,.int .i64 0,.str [],.int .i64 r'.col,.int .i64 r'.row,.bool r'.fc,.bool r'.fr,.int .i64 0,.int .i64 0,.bool false,.bool false,.lst (some true) 0 []]) ?_;exact zAa (o:=0) rfl rfl (zI hP) rfl rfl rfl hO
theorem zgE (c:Chg) (hR:RBox C (ccV k0 row at_ many cols rows bx) c.box) (r o:RefP) (h:okR r) (h2:okR o) (H:Heap):EFun C GT zCn [(ccV k0 row at_ many cols rows bx),ndV (zA2 r o)] H (ndV (onN c (zA2 r o))) H:=by
  obtain ⟨r',o',hr,hx⟩:=hR r o h h2;clear hR;rw [zcl];refine zJ<|sX ?_
  cases e:c.box r o with
  | none=>
    rw [e] at hr;clear hx;refine sX ?_;refine sSA (rV r') ?_;refine sSA (rV o') ?_;refine sX ?_;refine sSA (.agg zV0) ?_;exact zAa (o:=0) rfl rfl (zI hP) rfl rfl rfl hO
  | some x=>
    rw [e] at hr;have hx:=hx x e;subst hx;refine sX ?_;refine sSA (rV r') ?_;refine sSA (rV o') ?_;refine sX ?_;refine sSA (.agg [.int .i64 6,.int .i64 0,.str [],.int .i64 r'.col,.int .i64 r'.row,.bool r'.fc,.bool r'.fr,.int .i64 o'.col,.int .i64 o'.row,.bool o'.fc,.bool o'.fr,.lst (some true) 0 []]) ?_;exact zAa (o:=0) rfl rfl (zI hP) rfl rfl rfl hO
theorem zgF (k num:Int) (t:Bs) (r o:RefP) (h5:(k==5)=false) (h6:(k==6)=false) (H:Heap):EFun C GT zCn [(ccV k0 row at_ many cols rows bx),ndV (.mk k num t r o [])] H (ndV (.mk k num t r o [])) H:=by
  refine zJ ?_;refine sX ?_;refine zBG (fun _:Unit=>_) (fun _ H'=>H'=_) (fun _=>0) () rfl rfl (fun _ H1 hi=>?_);subst hi;dsimp only;refine sX ?_;refine zBH 0 (zAE (.mk k num t r o [])) rfl ?_;refine sX ?_;refine sS (.lst (some true) 0 []) [.int .i64 (Nd.mk k num t r o []).kind,.int .i64 (Nd.mk k num t r o []).num,.str (Nd.mk k num t r o []).text,.int .i64 (Nd.mk k num t r o []).ref.col,.int .i64 (Nd.mk k num t r o []).ref.row,.bool (Nd.mk k num t r o []).ref.fc,.bool (Nd.mk k num t r o []).ref.fr,.int .i64 (Nd.mk k num t r o []).to.col,.int .i64 (Nd.mk k num t r o []).to.row,.bool (Nd.mk k num t r o []).to.fc,.bool (Nd.mk k num t r o []).to.fr,.lst (some true) 0 []] ?_;refine sX ?_;refine sSA (.agg [.int .i64 (Nd.mk k num t r o []).kind,.int .i64 (Nd.mk k num t r o []).num,.str (Nd.mk k num t r o []).text,.int .i64 (Nd.mk k num t r o []).ref.col,.int .i64 (Nd.mk k num t r o []).ref.row,.bool (Nd.mk k num t r o []).ref.fc,.bool (Nd.mk k num t r o []).ref.fr,.int .i64 (Nd.mk k num t r o []).to.col,.int .i64 (Nd.mk k num t r o []).to.row,.bool (Nd.mk k num t r o []).to.fc,.bool (Nd.mk k num t r o []).to.fr,.lst (some true) 0 []]) ?_;exact zAa (o:=0) rfl rfl (zI hP) rfl rfl rfl hO
theorem zdE {n0 nb m:Nat} {k num:Int} {t:Bs} {r o:RefP} {xs:List AV} {H:Heap} (h:H[nb]?=some (.row 12 xs)) (hn:n0<=nb) (hm:xs.length=m) (hne:xs≠[]) :
    zEM n0 (.agg (zLb k num t r o (.sl (some true) nb 12 0 m))) H=some (.agg (zLb k num t r o (.lst (some false) 12 xs)),H.set nb (.frz 12 xs)):=by
  subst hm;have:¬ nb<n0:=by omega
  simp only [zLb,zEM,zLg,this,zlj,h];cases xs with
  |nil=>exact absurd rfl hne
  |cons x xs=>simp [zWk]
theorem zgG (c:Chg) (k num:Int) (t:Bs) (r o:RefP) (ks:List Nd) (hne:ks≠[]) (hkl:ks.length<=1000000) (h5:(k==5)=false) (h6:(k==6)=false)
    (hS:∀ n∈ks,∀ H,C zBc [(ccV k0 row at_ many cols rows bx),ndV n] H (ndV (onN c n)) H) (H:Heap):EFun C GT zCn [(ccV k0 row at_ many cols rows bx),ndV (.mk k num t r o ks)] H (ndV (.mk k num t r o (ks.map (onN c)))) H:=by
  have hxv:zDe (zGw (.mk k num t r o ks)) 12 (ks.map ndV):=zAE (.mk k num t r o ks);have hlm:(ks.map ndV).length=ks.length:=zlM _;have ev:ndV (.mk k num t r o (ks.map (onN c)))=.agg (zLb k num t r o (.lst (some false) 12 (ks.map fun k=>ndV (onN c k)))):=by
    have e:kxs (.mk k num t r o (ks.map (onN c)))=ks.map fun k=>ndV (onN c k):=by
      show zd6 (ks.map (onN c))=_;rw [zKO,zm5];rfl
    cases ks with
    |nil=>exact absurd rfl hne
    | cons a ks=>
      rw [<-e];rfl
  rw [ev];clear ev;refine zJ ?_;refine zCR (x:=(ccV k0 row at_ many cols rows bx)) rfl ?_;refine zCR (x:=ndV (.mk k num t r o ks)) rfl ?_;refine sW ?_;have hO0:Old H (((H++[ABlk.box (ccV k0 row at_ many cols rows bx).cells])++[ABlk.box (ndV (.mk k num t r o ks)).cells])++[ABlk.box (ndV zZ).cells]):=(((Old.refl H).push _).push _).push _;have g2:(((H++[ABlk.box (ccV k0 row at_ many cols rows bx).cells])++[ABlk.box (ndV (.mk k num t r o ks)).cells])++[ABlk.box (ndV zZ).cells])[H.length]?=some (.box (ccV k0 row at_ many cols rows bx).cells):=zD hP;have g3:(((H++[ABlk.box (ccV k0 row at_ many cols rows bx).cells])++[ABlk.box (ndV (.mk k num t r o ks)).cells])++[ABlk.box (ndV zZ).cells])[(H++[ABlk.box (ccV k0 row at_ many cols rows bx).cells]).length]?=some (.box (ndV (.mk k num t r o ks)).cells):=zD zB;have g4:(((H++[ABlk.box (ccV k0 row at_ many cols rows bx).cells])++[ABlk.box (ndV (.mk k num t r o ks)).cells])++[ABlk.box (ndV zZ).cells])[((H++[ABlk.box (ccV k0 row at_ many cols rows bx).cells])++[ABlk.box (ndV (.mk k num t r o ks)).cells]).length]?=some (.box (ndV zZ).cells):=zB;have hle:H.length<=(H++[ABlk.box (ccV k0 row at_ many cols rows bx).cells]).length/\H.length<=((H++[ABlk.box (ccV k0 row at_ many cols rows bx).cells])++[ABlk.box (ndV (.mk k num t r o ks)).cells]).length/\(H++[ABlk.box (ccV k0 row at_ many cols rows bx).cells]).length≠((H++[ABlk.box (ccV k0 row at_ many cols rows bx).cells])++[ABlk.box (ndV (.mk k num t r o ks)).cells]).length:=by simp
  have hT:∀ (b2 b3 b4:Nat) (H0:Heap) {K:Post},Old H H0->H0[b2]?=some (.box (ccV k0 row at_ many cols rows bx).cells)->H0[b3]?=some (.box (ndV (.mk k num t r o ks)).cells)->H0[b4]?=some (.box (ndV zZ).cells) ->
      (∀ d fr' H',zT fr' [4,3,10]=[(4,.ref b4 0 0 0),(3,.ref b3 0 0 0),(10,.sl (some true) d 12 0 ks.length)]->Old H0 H'->H0.length<=d->H'[d]?=some (.row 12 (ks.map fun k=>ndV (onN c k)))->K (.exit 1) fr' H') ->
      loopP C GT [11,10,3,2,4] zHt K [(11,.int .i64 0),(10,.lst (some true) 0 []),(3,.ref b3 0 0 0),(2,.ref b2 0 0 0),(4,.ref b4 0 0 0)] H0:=by
    intro b2 b3 b4 H0 K hOH g2 g3 g4 hK;clear hle hO0;refine zBG (fun s:Nat×AV=>[(11,zK s.1),(10,s.2),(3,.ref b3 0 0 0),(2,.ref b2 0 0 0),(4,.ref b4 0 0 0)]) (fun s H'=>s.1<=ks.length/\Owns H0 H' s.2 12 ((ks.take s.1).map fun k=>ndV (onN c k))/\Old H0 H') (fun s=>ks.length-s.1) (0,.lst (some true) 0 []) rfl ⟨by omega,Owns.nil _ _ _,Old.refl _⟩ (fun s H2 hi=>?_);obtain ⟨i,v⟩:=s;obtain ⟨hi,ho,hO⟩:=hi;simp only at hi ho;have l2:=(zl_ g2);have l3:=(zl_ g3);have k2:H2[b2]?=some (.box (ccV k0 row at_ many cols rows bx).cells):=by rw [hO.2 _ l2];exact g2
    have k3:H2[b3]?=some (.box (ndV (.mk k num t r o ks)).cells):=by rw [hO.2 _ l3];exact g3
    by_cases hlt:i<ks.length
    · obtain ⟨n,hn⟩:∃ n,ks[i]?=some n:=⟨_,zlI hlt⟩
      have hkm:(ks.map ndV)[i]?=some (ndV n):=by rw [zlQ,hn];rfl
      have hs:=hS n (zlX hn);have ht:(ks.take (i+1)).map (fun k=>ndV (onN c k))=(ks.take i).map (fun k=>ndV (onN c k))++[ndV (onN c n)]:=by rw [zmv,hn];simp
      have hl0:=hO.1;clear hS hK;refine zA (zGw (.mk k num t r o ks)) k3 rfl<|zBH ks.length hxv hlm<|zn tT<|zA (ccV k0 row at_ many cols rows bx) k2 rfl<|zA (zGw (.mk k num t r o ks)) k3 rfl<|zFD i (ndV n) hxv rfl hkm<|zA9 (ndV n) rfl ?_
      refine zHN ?_ ?_
      · refine zM (hs _) ?_
        refine zL (v:=ndV (onN c n)) (AV.cells (ndV (onN c n))) hP rfl rfl rfl rfl ?_;refine zA (ndV (onN c n)) hP rfl ?_;refine zAb (vs':=[ndV (onN c n)]) rfl rfl ?_;refine zBw (H0:=H0) ((ho.pushSet _ _).push _) (((hO.push _).set hl0 _).push _) zAu tO (by simp;omega) zS_ fun v4 H4 ho4 hO4 hbk4 hf4=>?_;refine zS (r:=i+1) rfl tO ?_;exact zAR (i+1,v4) rfl ⟨by simp only;omega,by rw [ht];exact ho4,hO4⟩ (by simp only;omega)
      · refine zM (hs _) ?_
        refine zL (v:=ndV (onN c n)) (AV.cells (ndV (onN c n))) hP rfl rfl rfl rfl ?_;refine zA (ndV (onN c n)) hP rfl ?_;refine zAb (vs':=[ndV (onN c n)]) rfl rfl ?_;refine zBw (H0:=H0) ((ho.pushSet _ _).push _) (((hO.push _).set hl0 _).push _) zAu tO (by simp;omega) zS_ fun v4 H4 ho4 hO4 hbk4 hf4=>?_;refine zS (r:=i+1) rfl tO ?_;exact zAR (i+1,v4) rfl ⟨by simp only;omega,by rw [ht];exact ho4,hO4⟩ (by simp only;omega)
    · obtain rfl:i=ks.length:=by omega
      rw [zmi] at ho;rcases ho with ⟨_,e⟩|⟨d,rfl,d1,d2,_⟩
      · exact absurd (znG.1 e) hne
      have hkk:=fun fr' hf=>hK d fr' H2 hf hO d1 d2;clear hK hS;rw [zlM];refine zA (zGw (.mk k num t r o ks)) k3 rfl<|zBH ks.length hxv hlm<|zi tF ?_
      exact hkk _ rfl
  clear hS;refine hT _ _ _ _ hO0 g2 g3 g4 (fun d fr' H' hfr hO hd hrow=>sBlk hfr ?_);have l3:=(zl_ g3);have l4:=(zl_ g4);have k3:=(hO.2 _ l3).trans g3;have k4:=(hO.2 _ l4).trans g4;have hl0:=hO.1;clear hT hO0;have hn0:H.length<=(((H++[ABlk.box (ccV k0 row at_ many cols rows bx).cells])++[ABlk.box (ndV (.mk k num t r o ks)).cells])++[ABlk.box (ndV zZ).cells]).length:=by simp
  have hOH:Old H H':=Old.trans ((((Old.refl H).push _).push _).push _) hO;have q1:(H++[ABlk.box (ccV k0 row at_ many cols rows bx).cells]).length=H.length+1:=by simp
  have q2:((H++[ABlk.box (ccV k0 row at_ many cols rows bx).cells])++[ABlk.box (ndV (.mk k num t r o ks)).cells]).length=H.length+2:=by simp
  have q3:(((H++[ABlk.box (ccV k0 row at_ many cols rows bx).cells])++[ABlk.box (ndV (.mk k num t r o ks)).cells])++[ABlk.box (ndV zZ).cells]).length=H.length+3:=by simp
  have hd:(((H++[ABlk.box (ccV k0 row at_ many cols rows bx).cells])++[ABlk.box (ndV (.mk k num t r o ks)).cells])++[ABlk.box (ndV zZ).cells]).length<=d:=hd;obtain ⟨le3,le4,n34⟩:=hle;refine zL (zLb k num t r o (.sl (some true) d 12 0 ks.length)) k3 rfl rfl rfl rfl<|zA (.agg (zLb k num t r o (.sl (some true) d 12 0 ks.length))) (zU k3) rfl<|zL (zLb k num t r o (.sl (some true) d 12 0 ks.length)) (zC n34 k4) rfl rfl rfl rfl ?_
  exact zVD (o:=0) rfl rfl (zI (zU (zC n34 k4))) rfl (zdE (m:=ks.length) (zC tO (zC tO hrow)) tO (zlM _) (by simpa using hne)) rfl (((hOH.set tO _).set tO _).set tO _)
end
section
variable {C:CSpec} {GT:zG_}
def zO6:AF:={ zB0 with keep:=true }
theorem zZX (H:Heap):EFun C GT zO6 [.lst (some true) 0 []] H (.lst (some true) 0 []) H:=by
  refine zJ ?_;refine zx rfl<|zE ?_
  exact zgd ⟨rfl,rfl⟩
theorem zdF (k':Nat) (ks:List Nd) (H:Heap) (hx:k'=12\/ks=[]) (hl:ks.length<=1000000):EFun C GT zO6 [.lst (some false) k' (ks.map ndV)] H (.sl (some false) (H.length+1) 12 0 ks.length) ((H++[ABlk.row 12 []]).set H.length .dead++[.row 12 (ks.map ndV)]):=by
  have hv:view (H++[ABlk.row 12 []]) 12 (.lst (some false) k' (ks.map ndV))=some (ks.map ndV):=zDe.view ⟨_,k',rfl,hx.imp id (fun h=>by rw [h];rfl)⟩ _;have hlm:(ks.map ndV).length=ks.length:=zlM _;refine zJ ?_;refine zx rfl<|zG<|zAb (vs':=[]) rfl rfl ?_
  have ha:astep (.append 12 104) [.sl (some false) H.length 12 0 0,.lst (some false) k' (ks.map ndV)] (H++[ABlk.row 12 []])=some (.sl (some false) (H.length+1) 12 0 ks.length,(H++[ABlk.row 12 []]).set H.length .dead++[.row 12 (ks.map ndV)]):=by
    have hrow:(H++[ABlk.row 12 []])[H.length]?=some (.row 12 []):=zB;simp only [astep,hv,hrow,hlm];rw [zlF ⟨trivial,trivial,by simp,by omega,by omega⟩];simp
  refine zQp ha ?_;exact zgd ⟨rfl,rfl⟩
theorem zdG (n:Nd) (hl:(txt n).length<=199) (hP:∀ H,C zCg [ndV n] H (.tup [.str (zDd n),eV (zCB n)]) H) (H:Heap):EFun C GT zJp [ndV n] H .nili H:=by
  have e4:zCB n=0:=by unfold zCB;rw [zlF hl]
  rw [e4] at hP;refine zJ ?_;refine zCR (x:=ndV n) rfl ?_;refine zA (ndV n) zB rfl ?_;refine zM (hP _) ?_;refine zx rfl ?_;refine zx rfl ?_;exact zAv rfl rfl rfl rfl ((Old.refl _).push _)
end
section
variable {C:CSpec} {GT:zG_} {c:Chg}
theorem zdH {P:Nd->Prop} (hr:∀ r,okR r->P (zB3 r)) (hb:∀ r o,okR r->okR o->P (zA2 r o)) (hl:∀ (k num:Int) t r o,(k==5)=false->(k==6)=false->P (.mk k num t r o []))
    (hn:∀ (k num:Int) t r o ks,ks≠[]->ks.length<=1000000->(k==5)=false->(k==6)=false->(∀ n∈ks,P n)->P (.mk k num t r o ks)) {x:Bool} {n:Nd} (h:Wf x n):(txt n).length<=1000->P n:=by
  induction h with
  |num _ m h=>exact fun _=>hl 1 m [] noRef noRef rfl rfl
  |txt _ t=>exact fun _=>hl 2 0 t noRef noRef rfl rfl
  |tru _ b=>exact fun _=>hl 3 _ [] noRef noRef rfl rfl
  |bad _ k h=>exact fun _=>hl 4 k [] noRef noRef rfl rfl
  |ref _ r h=>exact fun _=>hr r h
  |box r o h k=>exact fun _=>hb r o h k
  | neg _ n h ih=>
    intro hl;rw [zE9] at hl;simp only [zlE,zBl] at hl;refine hn 7 0 [] noRef noRef [n] zS_ zS_ rfl rfl fun k hk=>?_;rw [zls.1 hk];exact ih tO
  | two _ op a b h ha hb iha ihb=>
    intro hl;rw [zEg] at hl;simp only [zlH,zBl] at hl;refine hn 8 op [] noRef noRef [a,b] zS_ zS_ rfl rfl fun k hk=>?_;rcases zmC.1 hk with rfl|hk
    · exact iha tO
    · rw [zls.1 hk]
      exact ihb tO
  | call _ t ks h hk ih=>
    intro hl';rw [zDH] at hl';simp only [zlH,zlE] at hl';have hj:=zGD (ks.map txt);cases ks with
    |nil=>exact hl 9 0 t noRef noRef rfl rfl
    | cons k0 ks=>
      refine hn 9 0 t noRef noRef (k0::ks) zS_ (by have:=hj.1;rw [zlM] at this;omega) rfl rfl fun k hk'=>?_;exact ih k hk' (by have:=hj.2 (txt k) (zmV hk');omega)
theorem zXo (c:Chg) {k num:Int} {t:Bs} {r o:RefP} {ks:List Nd} (h5:(k==5)=false) (h6:(k==6)=false):onN c (.mk k num t r o ks)=.mk k num t r o (ks.map (onN c)):=by
  rw [onN,zlD (by simpa using h5),zlD (by simpa using h6),zTQ]
theorem zkt (fr fb:Nat) (cr cb:List AV) (l:List (Nat×ABlk)) (hR:zkq C fr cr l c.ref) (hB:zkr C fb cb l c.box) (hK:CnH C) (hCk:CkH C)
    (hmk:∀ n,(∀ H,Holds l H->EFun C GT zBr [cgV fr fb cr cb,ndV n] H (ndV (onN c n)) H)->∀ H,Holds l H->C zAS [cgV fr fb cr cb,ndV n] H (ndV (onN c n)) H)
    {x:Bool} {n:Nd} (h:Wf x n) (hl:(txt n).length<=1000):∀ H,Holds l H->C zAS [cgV fr fb cr cb,ndV n] H (ndV (onN c n)) H:=by
  refine zdH (P:=fun n=>∀ H,Holds l H->C zAS [cgV fr fb cr cb,ndV n] H (ndV (onN c n)) H) (fun r hr=>hmk _ fun H hh=>ziq fr fb cr cb l c hR hK r hr H hh) (fun r o hr ho=>hmk _ fun H hh=>zir fr fb cr cb l c hB hK r o hr ho H hh) (fun k num t r o h5 h6=>hmk _ fun H _=>?_) (fun k num t r o ks hne hkl h5 h6 hS=>hmk _ fun H hh=>?_) h hl
  · rw [zXo c h5 h6]
    exact zis fr fb cr cb hK k num t r o h5 h6 H
  · rw [zXo c h5 h6]
    exact ziv fr fb cr cb l c hCk k num t r o ks hne hkl h5 h6 hS H hh
variable {k0:Int} {row:Bool} {at_ many cols rows:Int} {bx:Bx}
theorem zix (hR:RRef C (ccV k0 row at_ many cols rows bx) c.ref) (hB:RBox C (ccV k0 row at_ many cols rows bx) c.box)
    (hmk:∀ n,(∀ H,EFun C GT zCn [ccV k0 row at_ many cols rows bx,ndV n] H (ndV (onN c n)) H)->∀ H,C zBc [ccV k0 row at_ many cols rows bx,ndV n] H (ndV (onN c n)) H)
    {x:Bool} {n:Nd} (h:Wf x n) (hl:(txt n).length<=1000):∀ H,C zBc [ccV k0 row at_ many cols rows bx,ndV n] H (ndV (onN c n)) H:=by
  refine zdH (P:=fun n=>∀ H,C zBc [ccV k0 row at_ many cols rows bx,ndV n] H (ndV (onN c n)) H) (fun r hr=>hmk _ fun H=>zgD c hR r hr H) (fun r o hr ho=>hmk _ fun H=>zgE c hB r o hr ho H) (fun k num t r o h5 h6=>hmk _ fun H=>?_) (fun k num t r o ks hne hkl h5 h6 hS=>hmk _ fun H=>?_) h hl
  · rw [zXo c h5 h6]
    exact zgF k num t r o h5 h6 H
  · rw [zXo c h5 h6]
    exact zgG c k num t r o ks hne hkl h5 h6 hS H
end
end Go.AM
