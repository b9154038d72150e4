/- Several texts of mine in one (Rq4, Rq5, On3, On4, On5). Own work. -/
import Derived.Test.YtafclpcpdmeodaaGreatDoorGAm30Fp1
import Derived.Test.YtafclpcpdmeodaaGreatDoorGRq1Sm1
import Derived.Test.YtafclpcpdmeodaaGreatDoorXc
set_option linter.all false
set_option maxRecDepth 20000
namespace Go.AM
section
variable {C:CSpec} {GT:Nat->Option AV}
theorem rtext_all (S:RshH C) (hmk:∀ n,(∀ H,EFun C GT zAt [ndV n] H (.str (txt n)) H)->RtH C n) {x:Bool} {n:Nd} (h:Wf x n):(txt n).length<=1000000->RtH C n:=by
  induction h with
  |num x m h=>exact fun _=>hmk _ fun H=>by
                   have e:txt (zJ7 m)=zF1 m:=by rw [zLH,zQy]
                   rw [e];exact rtext_num S m h H
  | txt x t=>
    intro hl;rw [zLI] at hl;simp only [zQR,zQO,zQV] at hl;have:=esc_ge t;exact hmk _ fun H=>rtext_txt t tO H
  | tru x b=>
    intro _;refine hmk _ fun H=>?_;rw [zLJ];exact rtext_tru S b H
  | bad x k h=>
    intro _;refine hmk _ fun H=>?_;rw [zQC];exact rtext_bad S k h H
  |ref x r h=>exact fun _=>hmk _ fun H=>rtext_ref S r h H
  |box r o h k=>exact fun _=>hmk _ fun H=>rtext_box S r o h k H
  | neg x n h ih=>
    intro hl;rw [zE3] at hl;simp only [zQO,zBh] at hl;exact hmk _ fun H=>rtext_neg S n (wf_op h) (ih tO) tO H
  | two x op a b h ha hb iha ihb=>
    intro hl;have hl0:=hl;rw [zEY] at hl;simp only [zQR,zBh] at hl;exact hmk _ fun H=>rtext_two S op a b h (wf_op ha) (wf_op hb) (iha tO) (ihb tO) hl0 H
  | call x t ks h hk ih=>
    intro hl;have hl0:=hl;rw [zDD] at hl;simp only [zQR,zQO] at hl;have hj:=zF2 (ks.map txt);exact hmk _ fun H=>rtext_call t ks (fun k hk'=>ih k hk' (by have:=hj.2 (txt k) (zRf hk');omega)) (by have:=hj.1;rw [zQW] at this;omega) hl0 H
theorem rform_all (hmk:∀ x n,(∀ H,EFun C GT zAM [ndV n,.bool x] H (.bool true) H)->RfH C x n) (hI:InH C)
    (hC:∀ t,t.length<=1000->∀ H,C z8 [.str t] H (.bool (zA3 t)) H) {x:Bool} {n:Nd} (h:Wf x n):(txt n).length<=1000->RfH C x n:=by
  have ok:∀ r,okR r->okC r.col r.row=true:=fun r h=>(zF3 r).2 h;induction h with
  |num x m h=>exact fun _=>hmk _ _ fun H=>rform_num x m H
  |txt x t=>exact fun _=>hmk _ _ fun H=>rform_txt x t H
  |tru x b=>exact fun _=>hmk _ _ fun H=>by cases b with
      |true=>exact rform_tru_true x H
      |false=>exact zQL x H
  |bad x k h=>exact fun _=>hmk _ _ fun H=>rform_bad x k h H
  |ref x r h=>exact fun _=>hmk _ _ fun H=>rform_ref hI x r (ok r h) H
  |box r o h k=>exact fun _=>hmk _ _ fun H=>rform_box hI r o (ok r h) (ok o k) H
  | neg x n h ih=>
    intro hl;rw [zE3] at hl;simp only [zQO,zBh] at hl;exact hmk _ _ fun H=>rform_neg x n (ih tO) H
  | two x op a b h ha hb iha ihb=>
    intro hl;rw [zEY] at hl;simp only [zQR,zBh] at hl;exact hmk _ _ fun H=>rform_two x op a b h (iha tO) (ihb tO) H
  | call x t ks h hk ih=>
    intro hl;rw [zDD] at hl;simp only [zQR,zQO] at hl;have hj:=zF2 (ks.map txt);exact hmk _ _ fun H=>rform_call hC x t ks h tO (by have:=hj.1;rw [zQW] at this;omega) (fun k hk'=>ih k hk' (by have:=hj.2 (txt k) (zRf hk');omega)) H
theorem kids_all {P:Nd->Prop} (node:∀ n:Nd,n.kids.length<=1000000->(∀ k∈n.kids,P k)->P n) {x:Bool} {n:Nd} (h:Wf x n):(txt n).length<=1000->P n:=by
  have leaf:∀ n:Nd,n.kids=[]->P n:=fun n hk=>node n (by rw [hk];simp) (by rw [hk];simp);induction h with
  |num _ n h=>exact fun _=>leaf _ rfl
  |txt _ t=>exact fun _=>leaf _ rfl
  |tru _ b=>exact fun _=>leaf _ rfl
  |bad _ k h=>exact fun _=>leaf _ rfl
  |ref _ r h=>exact fun _=>leaf _ rfl
  |box r o h k=>exact fun _=>leaf _ rfl
  | neg _ n h ih=>
    intro hl;rw [zE3] at hl;simp only [zQO,zBh] at hl;refine node _ (by show [n].length<=1000000;simp) fun k hk=>?_;have hk:k∈[n]:=hk;rw [zQ1.1 hk];exact ih tO
  | two _ op a b h ha hb iha ihb=>
    intro hl;rw [zEY] at hl;simp only [zQR,zBh] at hl;refine node _ (by show [a,b].length<=1000000;simp) fun k hk=>?_;have hk:k∈[a,b]:=hk;rcases zRQ.1 hk with rfl|hk
    · exact iha tO
    · rw [zQ1.1 hk]
      exact ihb tO
  | call _ t ks h hk ih=>
    intro hl;rw [zDD] at hl;simp only [zQR,zQO] at hl;have hj:=zF2 (ks.map txt);refine node _ (by show ks.length<=1000000;have:=hj.1;rw [zQW] at this;omega) fun k hk'=>?_;have hk':k∈ks:=hk';exact ih k hk' (by have:=hj.2 (txt k) (zRf hk');omega)
set_option maxHeartbeats 4000000 in
theorem rsame_ev (n m:Nd) (hkl:n.kids.length<=1000000) (hS:∀ k∈n.kids,∀ l H,C zCN [ndV k,ndV l] H (.bool (eqN k l)) H) (H:Heap):EFun C GT zKe [ndV n,ndV m] H (.bool (eqN n m)) H:=by
  have hxv:=zAC n;have hyv:=zAC m;have hlm:(n.kids.map ndV).length=n.kids.length:=zQW _;have hlm2:(m.kids.map ndV).length=m.kids.length:=zQW _;rw [eqN_is];refine zI<|zBr (x:=ndV n) rfl<|zBr (x:=ndV m) rfl ?_
  have hb1:(H++[ABlk.box (ndV n).cells]++[ABlk.box (ndV m).cells])[H.length]?=some (.box (ndV n).cells):=zF zB;have hb2:(H++[ABlk.box (ndV n).cells]++[ABlk.box (ndV m).cells])[(H++[ABlk.box (ndV n).cells]).length]?=some (.box (ndV m).cells):=zB;have nt:∀ {α:Type} [BEq α] {a b:α},(a==b)=true->(a != b)=false:=fun h=>by unfold bne;rw [h];rfl
  have nf:∀ {α:Type} [BEq α] {a b:α},(a==b)=false->(a != b)=true:=fun h=>by unfold bne;rw [h];rfl
  unfold topB;cases e1:(n.kind==m.kind) with
  | false => refine zA (AV.int IntKind.i64 n.kind) hP rfl ?_
             refine sX ?_;refine zp (nf e1)<|sX ?_
             exact zAq rfl rfl rfl rfl hO
  | true=>
    cases e2:(n.num==m.num) with
    | false => refine zA (AV.int IntKind.i64 n.kind) hP rfl ?_
               refine sX ?_;refine zk (nt e1)<|sX ?_
               refine zp (nf e2)<|sX ?_
               exact zAq rfl rfl rfl rfl hO
    | true=>
      cases e3:(n.text==m.text) with
      | false => refine zA (AV.int IntKind.i64 n.kind) hP rfl ?_
                 refine sX ?_;refine zk (nt e1)<|sX ?_
                 refine zk (nt e2)<|sX ?_
                 refine zp (nf e3)<|sX ?_
                 exact sRv
      | true=>
        cases e4:refB n.ref m.ref with
        | false=>
          have e4':negB true ((n.ref.col==m.ref.col)&&((n.ref.row==m.ref.row)&&((n.ref.fc==m.ref.fc)&&((n.ref.fr==m.ref.fr)&&true))))=true:=by show (!(refB n.ref m.ref))=true;rw [e4];rfl
          refine sX ?_;refine zk (nt e1)<|sX ?_
          refine zk (nt e2)<|sX ?_
          refine zk (nt e3)<|zA (AV.agg [.int .i64 n.ref.col,.int .i64 n.ref.row,AV.bool n.ref.fc,AV.bool n.ref.fr]) hP rfl<|zA (AV.agg [.int .i64 m.ref.col,.int .i64 m.ref.row,AV.bool m.ref.fc,AV.bool m.ref.fr]) zB rfl<|zy rfl<|zG<|zp e4'<|sX ?_
          exact sRv
        | true=>
          have e4':negB true ((n.ref.col==m.ref.col)&&((n.ref.row==m.ref.row)&&((n.ref.fc==m.ref.fc)&&((n.ref.fr==m.ref.fr)&&true))))=false:=by show (!(refB n.ref m.ref))=false;rw [e4];rfl
          cases e5:refB n.to m.to with
          | false=>
            have e5':negB true ((n.to.col==m.to.col)&&((n.to.row==m.to.row)&&((n.to.fc==m.to.fc)&&((n.to.fr==m.to.fr)&&true))))=true:=by show (!(refB n.to m.to))=true;rw [e5];rfl
            refine sX ?_;refine zk (nt e1)<|sX ?_
            refine zk (nt e2)<|sX ?_
            refine zk (nt e3)<|zA (AV.agg [.int .i64 n.ref.col,.int .i64 n.ref.row,AV.bool n.ref.fc,AV.bool n.ref.fr]) hP rfl<|zA (AV.agg [.int .i64 m.ref.col,.int .i64 m.ref.row,AV.bool m.ref.fc,AV.bool m.ref.fr]) zB rfl<|zy rfl<|zG<|zk e4'<|zA (AV.agg [.int .i64 n.to.col,.int .i64 n.to.row,AV.bool n.to.fc,AV.bool n.to.fr]) hP rfl<|zA (AV.agg [.int .i64 m.to.col,.int .i64 m.to.row,AV.bool m.to.fc,AV.bool m.to.fr]) zB rfl<|zy rfl<|zG<|zp e5'<|sX ?_
            exact sRv
          | true=>
            have e5':negB true ((n.to.col==m.to.col)&&((n.to.row==m.to.row)&&((n.to.fc==m.to.fc)&&((n.to.fr==m.to.fr)&&true))))=false:=by show (!(refB n.to m.to))=false;rw [e5];rfl
            by_cases hne:n.kids.length=m.kids.length
            · refine sX ?_
              refine zk (nt e1)<|sX ?_
              refine zk (nt e2)<|sX ?_
              refine zk (nt e3)<|zA (AV.agg [.int .i64 n.ref.col,.int .i64 n.ref.row,AV.bool n.ref.fc,AV.bool n.ref.fr]) hP rfl<|zA (AV.agg [.int .i64 m.ref.col,.int .i64 m.ref.row,AV.bool m.ref.fc,AV.bool m.ref.fr]) zB rfl<|zy rfl<|zG<|zk e4'<|zA (AV.agg [.int .i64 n.to.col,.int .i64 n.to.row,AV.bool n.to.fc,AV.bool n.to.fr]) hP rfl<|zA (AV.agg [.int .i64 m.to.col,.int .i64 m.to.row,AV.bool m.to.fc,AV.bool m.to.fr]) zB rfl<|zy rfl<|zG<|zk e5'<|sX ?_
              refine zk (zQo.2 tO) ?_;refine zBB (fun i:Nat=>[(5,zK i),(3,bR (H++[ABlk.box (ndV n).cells]).length),(2,bR H.length)]) (fun i H'=>i<=n.kids.length/\eqNs (n.kids.drop i) (m.kids.drop i)=eqNs n.kids m.kids/\H'=H++[ABlk.box (ndV n).cells]++[ABlk.box (ndV m).cells]) (fun i=>n.kids.length-i) 0 rfl ⟨by omega,rfl,rfl⟩ (fun i H1 hi=>?_);obtain ⟨hi,hq,rfl⟩:=hi;by_cases hlt:i<n.kids.length
              · obtain ⟨k,hk⟩:∃ k,n.kids[i]?=some k:=⟨_,zQS hlt⟩
                obtain ⟨l,hl2⟩:∃ l,m.kids[i]?=some l:=⟨_,zQS tO⟩;have hkm:(n.kids.map ndV)[i]?=some (ndV k):=by rw [zQa,hk];rfl
                have hkm2:(m.kids.map ndV)[i]?=some (ndV l):=by rw [zQa,hl2];rfl
                have hs:=hS k (zQh hk) l;rw [eqNs_drop hk hl2] at hq;clear hS;cases e:eqN k l with
                | true=>
                  rw [e] at hs hq;refine sX ?_;refine zS (r:=i+1) rfl tO ?_;exact zAP (i+1) rfl ⟨by omega,hq,rfl⟩ tO
                | false=>
                  rw [e] at hs hq;rw [<-hq];refine sX ?_;exact sRv
              · rw [zRD tO,zRD tO] at hq
                rw [<-hq];refine sX ?_;exact sRv
            · have e:eqNs n.kids m.kids=false:=by
                cases e:eqNs n.kids m.kids with
                |false=>rfl
                |true=>exact absurd (eqNs_len e) hne
              rw [e];refine sX ?_;refine zk (nt e1)<|sX ?_
              refine zk (nt e2)<|sX ?_
              refine zk (nt e3)<|zA (AV.agg [.int .i64 n.ref.col,.int .i64 n.ref.row,AV.bool n.ref.fc,AV.bool n.ref.fr]) hP rfl<|zA (AV.agg [.int .i64 m.ref.col,.int .i64 m.ref.row,AV.bool m.ref.fc,AV.bool m.ref.fr]) zB rfl<|zy rfl<|zG<|zk e4'<|zA (AV.agg [.int .i64 n.to.col,.int .i64 n.to.row,AV.bool n.to.fc,AV.bool n.to.fr]) hP rfl<|zA (AV.agg [.int .i64 m.to.col,.int .i64 m.to.row,AV.bool m.to.fc,AV.bool m.to.fr]) zB rfl<|zy rfl<|zG<|zk e5'<|sX ?_
              refine zp (zQ8.2 tO) ?_;exact sRv
end
end Go.AM
set_option maxRecDepth 20000
namespace Go.AM
section
variable {C:CSpec} {GT:Nat->Option AV}
set_option maxHeartbeats 4000000 in
theorem rprint_ev (n:Nd) (hn:Wf false n) (hd:need n<=30) (hcn:cnt n<=200) (hln:(txt n).length<=5000) (hCt:RcH C n) (hF:RfH C false n) (hT:RtH C n)
    (hP:zAi (61::txt n)=some n->∀ H,C zBD [.str (61::txt n)] H (.tup [ndV n,zJ 0,zJ 0]) H) (H:Heap):EFun C GT zJX [ndV n] H (.tup [.str (zDZ n),zK (zB7 n)]) H:=by
  have hc:=fun H=>hCt 200 H hcn tO;have hf:∀ H,C zAK [ndV n,.bool false] H (.bool true) H:=hF;have ht:∀ H,C zAj [ndV n] H (.str (txt n)) H:=hT;have c0:decide ((cnt n:Int)>200)=false:=tF;clear hCt hF hT;refine zI<|sX ?_
  by_cases hl:(txt n).length<=199
  · have hp:=hP (parse_txt hn hd hl)
    have et:zDZ n=61::txt n:=by unfold zDZ;rw [zQQ hl]
    have en:zB7 n=0:=by unfold zB7;rw [zQQ hl]
    have c1:decide ((([61]++txt n).length:Int)>200)=false:=tF (by simp only [zQR,zQO,zQV];omega);rw [et,en];clear hP;refine sX ?_;refine zBA (by simp only [zQR,zQO,zQV];omega)<|sX ?_
    refine sSA (ndV n) ?_;refine sX ?_;exact sRv
  · have et:zDZ n=[]:=by unfold zDZ;rw [zQN hl]
    have en:zB7 n=4:=by unfold zB7;rw [zQN hl]
    have c1:decide ((([61]++txt n).length:Int)>200)=true:=tT (by simp only [zQR,zQO,zQV];omega);rw [et,en];clear hP;refine sX ?_;refine zBA (by simp only [zQR,zQO,zQV];omega)<|sX ?_
    exact sRv
end
end Go.AM
set_option maxRecDepth 20000
namespace Go.AM
section
variable {C:CSpec} {GT:Nat->Option AV}
theorem zNm {F:AF} {a s b s' t:Nat} {ag ag':Bool} {H H1:Heap} {fr:Fr} {v v1 v2:AV} {cs cs':List AV} {o o':Nat} (hF:F.results=[.cell a s ag,.cell b s' ag',.tmp t]) (hk:F.keep=false) (hp:zAA H1 (zLQ fr a)=some (cs,o)) (hpt:part cs o s ag=some v)
    (hp2:zAA H1 (zLQ fr b)=some (cs',o')) (hpt2:part cs' o' s' ag'=some v1) (ht:zLQ fr t=v2)
    (hf:zEE H.length (.tup [v,v1,v2]) H1=some (.tup [v,v1,v2],H1)) (hb:(AV.tup [v,v1,v2]).bel H.length=true) (ho:Old H H1):retP F H fr H1 (.tup [v,v1,v2]) H:=by
  refine zAq hk ?_ hf hb ho;rw [zFA] at hp ht hp2;simp only [hF,zBa,zKq,hp,hpt,hp2,hpt2,ht,zQg];rfl
set_option maxHeartbeats 4000000 in
theorem each1_ev (fr nb:Nat) (cr:List AV) (l:List (Nat×ABlk)) (g:RefP->Option RefP) (hR:RefQ C fr cr l g) (a b:RefP) (ha:okR a) (hb:okR b) :
    ∃ a' b',(∀ H,Holds l H->H[nb]?=some (.box [.fn fr [] cr])->EFun C GT zKg [rV a,rV b,bR nb] H (.tup [rV a',rV b',.bool (zLK g a b).isSome]) H)/\∀ x,zLK g a b=some x->(a',b')=x:=by
  obtain ⟨a',h1,q1⟩:=hR a ha;obtain ⟨b',h2,q2⟩:=hR b hb;refine ⟨a',b',fun H hh hn=>?_,fun x hx=>?_⟩
  case refine_2=>
    unfold zLK at hx;cases e1:g a with
    |none=>rw [e1] at hx;cases hx
    | some y=>
      rw [e1] at hx;cases e2:g b with
      |none=>simp only [e2] at hx;cases hx
      | some z=>
        simp only [e2,zQT] at hx;rw [q1 _ e1,q2 _ e2];exact hx
  have hnl:=(zg hn).1;clear q1 q2;have e:(zLK g a b).isSome=((g a).isSome&&(g b).isSome):=by
    unfold zLK;cases g a <;> cases g b <;> rfl
  rw [e];clear hR e;refine zI ?_;cases ea:(g a).isSome with
  | true=>
    rw [ea] at h1;refine zBr (x:=rV a) rfl<|zBr (x:=rV b) rfl<|zA (.fn fr [] cr) hP rfl<|zA (rV a) hP rfl<|zM (h1 _ (hh.old hO))<|sW ?_
    refine sSA (rV a') ?_;refine zA (.fn fr [] cr) hP rfl<|zA (rV b) hP rfl<|zM (h2 _ (hh.old hO))<|sW ?_
    refine sSA (rV b') ?_;refine sX ?_;refine zHB ?_ ?_
    · refine sX ?_
      refine sSA (rV a') ?_;refine sSA (rV b') ?_;exact zNm (o:=0) (o':=0) rfl rfl (zH hP) rfl (zH hP) rfl rfl rfl rfl hO
    · refine sSA (rV a') ?_
      refine sX ?_;refine sSA (rV b') ?_;exact zNm (o:=0) (o':=0) rfl rfl (zH hP) rfl (zH hP) rfl rfl rfl rfl hO
  | false=>
    rw [ea] at h1;refine zBr (x:=rV a) rfl<|zBr (x:=rV b) rfl<|zA (.fn fr [] cr) hP rfl<|zA (rV a) hP rfl<|zM (h1 _ (hh.old hO))<|sW ?_
    refine sSA (rV a') ?_;refine zA (.fn fr [] cr) hP rfl<|zA (rV b) hP rfl<|zM (h2 _ (hh.old hO))<|sW ?_
    refine sSA (rV b') ?_;refine sX ?_;refine zHB ?_ ?_
    · refine sX ?_
      refine sSA (rV a') ?_;refine sSA (rV b') ?_;exact zNm (o:=0) (o':=0) rfl rfl (zH hP) rfl (zH hP) rfl rfl rfl rfl hO
    · refine sSA (rV a') ?_
      refine sX ?_;refine sSA (rV b') ?_;exact zNm (o:=0) (o':=0) rfl rfl (zH hP) rfl (zH hP) rfl rfl rfl rfl hO
end
end Go.AM
set_option maxRecDepth 20000
namespace Go.AM
section
variable {C:CSpec} {GT:Nat->Option AV}
def a_each:AF:={ zPO with keep:=true }
theorem sRetCellK {F:AF} {a s:Nat} {ag:Bool} {H H1:Heap} {fr:Fr} {v:AV} {cs:List AV} {o:Nat} (hF:F.results=[.cell a s ag]) (hk:F.keep=true) (hp:zAA H1 (zLQ fr a)=some (cs,o)) (hpt:part cs o s ag=some v):retP F H fr H1 v H1:=by
  refine zLF hk ?_;rw [zFA] at hp;simp only [hF,zBa,zKq,hp,hpt,zQg];rfl
def eachH (H:Heap) (fr:Nat) (cr:List AV):Heap:=((H++[ABlk.box [.fn fr [] cr]])++[ABlk.box [.nilf,.nilf]]).set (H++[ABlk.box [.fn fr [] cr]]).length (.box [.fn fr [] cr,.fn zBk [] [bR H.length]])
theorem zMe {H0 H:Heap} (h:Old H0 H) (fr:Nat) (cr:List AV):Old H0 (eachH H fr cr):=((h.push _).push _).set (by have:=h.1;simp;omega) _
theorem eachH_get (H:Heap) (fr:Nat) (cr:List AV):(eachH H fr cr)[H.length]?=some (.box [.fn fr [] cr]):=by
  unfold eachH;exact zC (by simp) hP
theorem eachH_keep {H:Heap} {b:Nat} {x:ABlk} {fr:Nat} {cr:List AV} (h:H[b]?=some x):(eachH H fr cr)[b]?=some x:=by
  rw [(zMe (Old.refl H) fr cr).2 b (zg h).1];exact h
theorem each_ev (fr:Nat) (cr:List AV) (H:Heap):EFun C GT a_each [.fn fr [] cr] H (cgV fr zBk cr [bR H.length]) (eachH H fr cr):=by
  refine zI<|sX ?_
  refine zL [.fn fr [] cr,.fn zBk [] [bR H.length]] hP rfl rfl rfl rfl ?_;exact sRetCellK (o:=0) rfl rfl (zH hP) rfl
abbrev NkH (C:CSpec) (n:Nd):Prop:=∀ H,C zGB [ndV n] H .nili H
abbrev OnH (C:CSpec) (c:Chg) (n:Nd):Prop:=∀ (fr fb:Nat) (cr cb:List AV) (l:List (Nat×ABlk)) H,RefQ C fr cr l c.ref->BoxQ C fb cb l c.box->Holds l H->C zAZ [cgV fr fb cr cb,ndV n] H (ndV (onN c n)) H
abbrev EcH (C:CSpec):Prop:=∀ (fr:Nat) (cr:List AV) H,C zIG [.fn fr [] cr] H (cgV fr zBk cr [bR H.length]) (eachH H fr cr)
abbrev E1H (C:CSpec):Prop:=∀ (fr nb:Nat) (cr:List AV) (l:List (Nat×ABlk)) (g:RefP->Option RefP),RefQ C fr cr l g->(nb,.box [.fn fr [] cr])∈l->BoxQ C zBk [bR nb] l (zLK g)
theorem onE {c:Chg} {n:Nd} (hE1:E1H C) (hO:OnH C c n) (hb:c.box=zLK c.ref) (fr:Nat) (cr:List AV) (l0:List (Nat×ABlk)) (Hx:Heap) (hR:RefQ C fr cr ((Hx.length,.box [.fn fr [] cr])::l0) c.ref) (hh:Holds l0 Hx):C zAZ [cgV fr zBk cr [bR Hx.length],ndV n] (eachH Hx fr cr) (ndV (onN c n)) (eachH Hx fr cr):=
  hO fr _ cr _ _ _ hR (by rw [hb];exact hE1 fr Hx.length cr _ _ hR (zSJ ..)) (fun p hp=>by
    rcases zRQ.1 hp with rfl|hp
    · exact eachH_get Hx fr cr
    · exact hh.old (zMe (Old.refl Hx) fr cr) p hp)
theorem holds2 {H:Heap} {a b:Nat} {x y:ABlk} (h1:H[a]?=some x) (h2:H[b]?=some y):Holds [(a,x),(b,y)] H:=fun p hp=>by
  rcases zRQ.1 hp with rfl|hp
  · exact h1
  · rw [zQ1.1 hp];exact h2
theorem holds3 {H:Heap} {a b c:Nat} {x y z:ABlk} (h1:H[a]?=some x) (h2:H[b]?=some y) (h3:H[c]?=some z):Holds [(a,x),(b,y),(c,z)] H:=fun p hp=>by
  rcases zRQ.1 hp with rfl|hp
  · exact h1
  · exact holds2 h2 h3 p hp
end
end Go.AM
set_option maxRecDepth 20000
namespace Go.AM
section
variable {C:CSpec} {GT:Nat->Option AV}
abbrev AlH (C:CSpec):Prop:=∀ (b:Nat) (row:Bool) (cs:List AV) H,H[b]?=some (.box cs)->C zJR [.ref b 0 0 0,.bool row] H (.ref b 0 0 (offV row)) H
abbrev ACk (C:CSpec):Prop:=∀ c r H,C zAp [zCs c r] H (if okC c r=true then .nili else zIb 1) H
theorem ralong_ev (b:Nat) (row:Bool) (cs:List AV) (H:Heap) (hb:H[b]?=some (.box cs)):EFun C GT zNe [.ref b 0 0 0,.bool row] H (.ref b 0 0 (offV row)) H:=by
  have hbl:=(zg hb).1;refine zI ?_;cases row with
  | true=>
    refine sX ?_;exact zAq rfl rfl rfl (by simp [AV.bel,hbl]) hO
  | false=>
    refine sX ?_;exact zAq rfl rfl rfl (by simp [AV.bel,hbl]) hO
set_option maxHeartbeats 4000000 in
theorem inserted1_ev (hAl:AlH C) (hCk:ACk C) (r:RefP) (h:okR r) (row:Bool) (at_ many:Int) (hs:spanP row at_ many) (n1 n2 n3:Nat) (H:Heap) (h1:H[n1]?=some (.box [.bool row])) (h2:H[n2]?=some (.box [zJ at_])) (h3:H[n3]?=some (.box [zJ many])) :
    EFun C GT zGp [rV r,bR n1,bR n2,bR n3] H (.tup [rV (insP row at_ many r),.bool (inR (insP row at_ many r)).isSome]) H:=by
  have l1:=(zg h1).1;have l2:=(zg h2).1;have l3:=(zg h3).1;obtain ⟨c,w,fc,fr⟩:=r;obtain ⟨k1,k2,k3,k4⟩:=h;simp only at k1 k2 k3 k4;have hm:many<=99/\0<=many:=by
    obtain ⟨_,_,a,b⟩:=hs;refine ⟨?_,a⟩;unfold mostK at b;split at b <;> omega
  have w1:IntKind.i64.wrap (c+many)=c+many:=by rw [IntKind.wrap_i64];omega
  have w2:IntKind.i64.wrap (w+many)=w+many:=by rw [IntKind.wrap_i64];omega
  have ha:=hAl H.length row (rV ⟨c,w,fc,fr⟩).cells;clear hAl;refine zI ?_;cases row with
  | true=>
    by_cases hk:at_<=w
    · have ei:insP true at_ many ⟨c,w,fc,fr⟩=⟨c,(w+many),fc,fr⟩:=zQQ hk
      have hc:=hCk c (w+many);have es:(inR ⟨c,(w+many),fc,fr⟩).isSome=okC c (w+many):=by unfold inR;show (if okC c (w+many) then _ else _:Option RefP).isSome=_;cases okC c (w+many) <;> rfl
      clear hCk;rw [ei,es];cases e:okC c (w+many) with
      | true=>
        rw [e,zQQ rfl] at hc;refine zBr (x:=rV { col:=c,row:=w,fc:=fc,fr:=fr }) rfl ?_;refine zA (AV.bool true) (zF (zF h1)) rfl ?_;refine zM (ha _ hP) ?_;refine zA _ hP rfl ?_;refine zA (zJ at_) hP rfl ?_;refine zp (tT) ?_;refine sX ?_;refine zFR w2 ?_;refine zL [.int .i64 c,.int .i64 (w+many),AV.bool fc,AV.bool fr] hP rfl rfl rfl rfl ?_;refine sX ?_;refine zL [.int .i64 c,.int .i64 (w+many),AV.bool fc,AV.bool fr] hP rfl rfl rfl rfl ?_;exact zn (o:=0) rfl rfl (zH hP) rfl rfl rfl rfl hO
      | false=>
        rw [e,zQN (by decide)] at hc;refine zBr (x:=rV { col:=c,row:=w,fc:=fc,fr:=fr }) rfl ?_;refine zA (AV.bool true) (zF (zF h1)) rfl ?_;refine zM (ha _ hP) ?_;refine zA _ hP rfl ?_;refine zA (zJ at_) hP rfl ?_;refine zp (tT) ?_;refine sX ?_;refine zFR w2 ?_;refine zL [.int .i64 c,.int .i64 (w+many),AV.bool fc,AV.bool fr] hP rfl rfl rfl rfl ?_;refine sX ?_;refine zL [.int .i64 c,.int .i64 (w+many),AV.bool fc,AV.bool fr] hP rfl rfl rfl rfl ?_;exact zn (o:=0) rfl rfl (zH hP) rfl rfl rfl rfl hO
    · have ei:insP true at_ many ⟨c,w,fc,fr⟩=⟨c,w,fc,fr⟩:=zQN hk
      have hc:=hCk c w;have ho:okC c w=true:=(zF3 ⟨c,w,fc,fr⟩).2 ⟨k1,k2,k3,k4⟩;have es:(inR ⟨c,w,fc,fr⟩).isSome=true:=by unfold inR;show (if okC c w then _ else _:Option RefP).isSome=_;rw [ho];rfl
      clear hCk;rw [ei,es];rw [ho,zQQ rfl] at hc;refine zBr (x:=rV { col:=c,row:=w,fc:=fc,fr:=fr }) rfl ?_;refine zA (AV.bool true) (zF (zF h1)) rfl ?_;refine zM (ha _ hP) ?_;refine zA _ hP rfl ?_;refine zA (zJ at_) hP rfl ?_;refine zk (tF) ?_;refine sX ?_;refine sSA (rV { col:=c,row:=w,fc:=fc,fr:=fr }) ?_;exact zn (o:=0) rfl rfl (zH hP) rfl rfl rfl rfl hO
  | false=>
    by_cases hk:at_<=c
    · have ei:insP false at_ many ⟨c,w,fc,fr⟩=⟨(c+many),w,fc,fr⟩:=zQQ hk
      have hc:=hCk (c+many) w;have es:(inR ⟨(c+many),w,fc,fr⟩).isSome=okC (c+many) w:=by unfold inR;show (if okC (c+many) w then _ else _:Option RefP).isSome=_;cases okC (c+many) w <;> rfl
      clear hCk;rw [ei,es];cases e:okC (c+many) w with
      | true=>
        rw [e,zQQ rfl] at hc;refine zBr (x:=rV { col:=c,row:=w,fc:=fc,fr:=fr }) rfl ?_;refine zA (AV.bool false) (zF (zF h1)) rfl ?_;refine zM (ha _ hP) ?_;refine zA _ hP rfl ?_;refine zA (zJ at_) hP rfl ?_;refine zp (tT) ?_;refine sX ?_;refine zFR w1 ?_;refine zL [.int .i64 (c+many),.int .i64 w,AV.bool fc,AV.bool fr] hP rfl rfl rfl rfl ?_;refine sX ?_;refine zL [.int .i64 (c+many),.int .i64 w,AV.bool fc,AV.bool fr] hP rfl rfl rfl rfl ?_;exact zn (o:=0) rfl rfl (zH hP) rfl rfl rfl rfl hO
      | false=>
        rw [e,zQN (by decide)] at hc;refine zBr (x:=rV { col:=c,row:=w,fc:=fc,fr:=fr }) rfl ?_;refine zA (AV.bool false) (zF (zF h1)) rfl ?_;refine zM (ha _ hP) ?_;refine zA _ hP rfl ?_;refine zA (zJ at_) hP rfl ?_;refine zp (tT) ?_;refine sX ?_;refine zFR w1 ?_;refine zL [.int .i64 (c+many),.int .i64 w,AV.bool fc,AV.bool fr] hP rfl rfl rfl rfl ?_;refine sX ?_;refine zL [.int .i64 (c+many),.int .i64 w,AV.bool fc,AV.bool fr] hP rfl rfl rfl rfl ?_;exact zn (o:=0) rfl rfl (zH hP) rfl rfl rfl rfl hO
    · have ei:insP false at_ many ⟨c,w,fc,fr⟩=⟨c,w,fc,fr⟩:=zQN hk
      have hc:=hCk c w;have ho:okC c w=true:=(zF3 ⟨c,w,fc,fr⟩).2 ⟨k1,k2,k3,k4⟩;have es:(inR ⟨c,w,fc,fr⟩).isSome=true:=by unfold inR;show (if okC c w then _ else _:Option RefP).isSome=_;rw [ho];rfl
      clear hCk;rw [ei,es];rw [ho,zQQ rfl] at hc;refine zBr (x:=rV { col:=c,row:=w,fc:=fc,fr:=fr }) rfl ?_;refine zA (AV.bool false) (zF (zF h1)) rfl ?_;refine zM (ha _ hP) ?_;refine zA _ hP rfl ?_;refine zA (zJ at_) hP rfl ?_;refine zk (tF) ?_;refine sX ?_;refine sSA (rV { col:=c,row:=w,fc:=fc,fr:=fr }) ?_;exact zn (o:=0) rfl rfl (zH hP) rfl rfl rfl rfl hO
set_option maxHeartbeats 4000000 in
theorem inserted_ev (hE:EcH C) (hE1:E1H C) (hSp:∀ row a m H,C zFC [.bool row,zJ a,zJ m] H (.bool (zNO row a m)) H) (n:Nd) (row:Bool) (at_ many:Int) (hs:zNO row at_ many=true) (hOn:OnH C (zNP row at_ many) n) (hN:NkH C n)
    (hM:∀ n1 n2 n3 l,(n1,.box [.bool row])∈l->(n2,.box [zJ at_])∈l->(n3,.box [zJ many])∈l->RefQ C zDR [bR n1,bR n2,bR n3] l (zNP row at_ many).ref) (H:Heap) :
    EFun C GT zJV [ndV n,.bool row,zJ at_,zJ many] H (.tup [ndV (onN (zNP row at_ many) n),.nili]) H:=by
  have hsp:=hSp row at_ many;rw [hs] at hsp;clear hSp;refine zI<|sX ?_
  refine zHB ?_ ?_
  · refine sX ?_
    refine zM (onE hE1 hOn rfl _ _ [((H++[ABlk.box (ndV n).cells]).length,.box [.bool row]),(((H++[ABlk.box (ndV n).cells])++[ABlk.box (AV.bool row).cells]).length,.box [zJ at_]),((((H++[ABlk.box (ndV n).cells])++[ABlk.box (AV.bool row).cells])++[ABlk.box (zJ at_).cells]).length,.box [zJ many])] _ (hM _ _ _ _ (by simp) (by simp) (by simp)) (holds3 hP hP hP))<|sSA (ndV (onN (zNP row at_ many) n)) ?_
    exact zn (o:=0) rfl rfl (zH (zV (eachH_keep hP))) rfl rfl rfl rfl ((zMe hO _ _).set (by simp only [zQZ,zQR,zQO,zQV];omega) _)
  · refine sX ?_
    refine zM (onE hE1 hOn rfl _ _ [((H++[ABlk.box (ndV n).cells]).length,.box [.bool row]),(((H++[ABlk.box (ndV n).cells])++[ABlk.box (AV.bool row).cells]).length,.box [zJ at_]),((((H++[ABlk.box (ndV n).cells])++[ABlk.box (AV.bool row).cells])++[ABlk.box (zJ at_).cells]).length,.box [zJ many])] _ (hM _ _ _ _ (by simp) (by simp) (by simp)) (holds3 hP hP hP))<|sSA (ndV (onN (zNP row at_ many) n)) ?_
    exact zn (o:=0) rfl rfl (zH (zV (eachH_keep hP))) rfl rfl rfl rfl ((zMe hO _ _).set (by simp only [zQZ,zQR,zQO,zQV];omega) _)
end
end Go.AM
