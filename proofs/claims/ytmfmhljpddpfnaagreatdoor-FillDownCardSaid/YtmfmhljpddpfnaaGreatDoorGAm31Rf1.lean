/- Several texts of mine in one (Am31, Fpa, Fpg, Rf1). Own work. -/
import Derived.Test.YtmfmhljpddpfnaaGreatDoorGAm23Am35
import Derived.Recover
import Derived.Test.YtmfmhljpddpfnaaGreatDoorGFr5ToldQ
set_option maxRecDepth 20000
set_option linter.all false
namespace Go.AM
theorem zId (fr:Fr) {t:Nat}:∀ {ts:List Nat},t ∉ ts->get (restrict fr ts) t=.undef
 |[],_=>rfl
 |l::ts,ht=>by
  simp only [zmG,not_or] at ht;simp only [restrict,zoa,get];rw [zWl (fun e=>ht.1 e.symm)];exact zId fr ht.2
def Pin (ts:List Nat) (a a':Act):Prop:=∀ t∈ts,a'.tmps.getD t Go.undef=a.tmps.getD t Go.undef
theorem Pin.refl (ts:List Nat) (a:Act):Pin ts a a:=fun _ _=>rfl
theorem Pin.trans {ts:List Nat} {a b c:Act} (h:Pin ts a b) (k:Pin ts b c):Pin ts a c:=fun t ht=>(k t ht).trans (h t ht)
theorem zaA {ts:List Nat} {a:Act} {d:Option Nat} (v:Value) (h:∀ t∈ts,d≠some t):Pin ts a (a.put d v):=fun t ht=>by
 cases d with
 |none=>rfl
 |some d=>
  have:d≠t:=fun e=>h t ht (by rw [e]);simp only [Act.put];rw [zmx,zmx,zmS this]
section
variable {P:Program}
theorem zQF {ops:Array Oper} {Q:Exit->Act->World->Prop} {ts:List Nat} {a0:Act} (hQ:¬ LetsOut Q):∀ (os:List Oper) (a:Act) (w:World),Pin ts a0 a->(∀ o∈os,∀ t∈ts,o.dst≠some t)->wpList P ops Q os a w->wpList P ops (fun e a' w'=>Q e a' w'/\Pin ts a0 a') os a w:=by
 intro os;induction os with
 |nil=>exact fun a w hp _ h=>⟨h,hp⟩
 |cons o os ih=>
  intro a w hp hd h;have ho:=fun v=>hp.trans (zaA v (hd o (znP ..)));have hd':=fun o' h'=>hd o' (zmX _ h');unfold wpList at h ⊢;split at h
  ·rename_i hw;rw [zoQ hw];refine .inl ?_;rcases h with h|h
   ·unfold Oper.wp at h ⊢;generalize (execOp a.eval o).run P w=r at h ⊢;unfold Oper.upon at h ⊢;split at h
    ·exact ih _ _ (ho _) hd' h
    ·exact ih _ _ (ho _) hd' h
    ·rename_i d w';refine ih _ _ ?_ hd' h;exact hp.trans (zaA (a:={ a with defers:=d::a.defers }) _ (hd o (znP ..)))
    ·refine Calls.mono h fun e w'' he=>?_;cases e with
     |returned v=>exact ih _ _ (ho _) hd' he
     |panicked ch=>exact ⟨he,hp⟩
     |outgrown=>exact absurd he hQ
    ·exact Rows.mono h fun v w'' he=>ih _ _ (ho _) hd' he
    ·exact ⟨h,hp⟩
    ·exact h.elim
   ·exact absurd h.2 hQ
  ·grind
def frag (ts:List Nat):AC->Bool
 |.skip|.ret=>true
 |.reg _ draw is=>!draw&&is.all fun i=>ts.all fun t=>i.dst != some t
 |.regt _ draw is _=>!draw&&is.all fun i=>ts.all fun t=>i.dst != some t
 |.seq a b=>frag ts a&&frag ts b
 |.cond _ a b=>frag ts a&&frag ts b
 |_=>false
theorem zUU {N:Nat} {ops:Array Oper} {ts:List Nat}:∀ (os:List Oper) (is:List AI),zBu P N ops os is=true->(is.all fun i=>ts.all fun t=>i.dst != some t)=true->∀ o∈os,∀ t∈ts,o.dst≠some t
 |[],_,_,_,o,ho=>by cases ho
 |o::os,[],hc,_,_,_=>by simp [zBu] at hc
 |o::os,i::is,hc,hd,o',ho'=>by
  simp only [zBu,zTo] at hc;simp only [zmu,zTo] at hd;rcases zmG.1 ho' with rfl|h
  ·intro t ht e;have h1:=hc.1;simp only [zM1,zTo,zoY] at h1;have h2:=zmE.1 hd.1 t ht;rw [<-h1.1.1.1,e] at h2;simp at h2
  ·exact zUU os is hc.2 hd.2 o' h
variable {D:List Deferred} {GT:zG_}
theorem zj4 {N:Nat} (hm:P.follows .mixedOrders=true) (ts:List Nat):∀ (ac:AC) (c:Code) (K:Post) (Q:Exit->Act->World->Prop) (w:World) (M:AMap) (I:Nat->Prop) (H:Heap) (fr:Fr) (a:Act),
  frag ts ac=true->zIo P N c ac=true->Sim GT w M I H->ActOK D w M I H.length N (get fr) a->AW (Good P GT) GT ac K fr H ->
  (∀ e E fr' H' a' w' M' I',Grow w M I H w' M' I' H'->Sim GT w' M' I' H'->ActOK D w' M' I' H'.length N (get fr') a'->Outs w' M' I' H'.length e E->K e fr' H'->Pin ts a a'->Q E a' w')->c.wp P Q a w:=by
 intro ac;induction ac with
 |skip=>
  intro c K Q w M I H fr a hfr hc hS hF hA hQ;cases c <;> simp [zIo] at hc
  exact wp_skip (hQ .normal .normal fr H a w M I (Grow.refl ..) hS hF rfl hA (Pin.refl _ _))
 |ret=>
  intro c K Q w M I H fr a hfr hc hS hF hA hQ;cases c <;> simp [zIo] at hc
  exact wp_ret (hQ .ret .ret fr H a w M I (Grow.refl ..) hS hF rfl hA (Pin.refl _ _))
 |reg L draw is=>
  intro c K Q w M I H fr a hfr hc hS hF hA hQ;cases c <;> simp only [zIo,zoZ,zTo,zol,zmn,zmD] at hc
  obtain ⟨⟨rfl,h1⟩,h2⟩:=hc;rename_i id ops draw;simp only [frag,zTo,zmD] at hfr;obtain ⟨rfl,hfr⟩:=hfr;have h3:=zR0 (Q:=fun e a' w'=>e=.normal/\∃ fr' H' M' I',Grow w M I H w' M' I' H'/\Sim GT w' M' I' H'/\ActOK D w' M' I' H'.length N (get fr') a'/\K .normal fr' H') is ops.toList w M I H _ a hS (hF.restrict L) h1 hA
   fun fr' H' a' w' M' I' hG hS' hF' hK=>⟨rfl,fr',H',M',I',hG,hS',hF',hK⟩
  have h4:=zQF (fun hl=>by obtain ⟨_,_,h,_⟩:=hl;cases h) ops.toList a w (Pin.refl ts a) (zUU _ _ h1 hfr) h3;exact Code.wp_mono (fun e a' w' ⟨⟨he,fr',H',M',I',g1,g2,g3,g4⟩,hp⟩=>by subst he;exact hQ .normal .normal fr' H' a' w' M' I' g1 g2 g3 rfl g4 hp) (wp_region_list h4)
 |regt L draw is t=>
  intro c K Q w M I H fr a hfr hc hS hF hA hQ;cases c <;> simp only [zIo,zoZ,zTo,zol] at hc
  obtain ⟨⟨rfl,h1⟩,h2⟩:=hc;rename_i id ops draw;simp only [frag,zTo,zmD] at hfr;obtain ⟨rfl,hfr⟩:=hfr;have h3:=zPu (Q:=fun E a' w'=>E≠.outgrown/\∃ e fr' H' M' I',Grow w M I H w' M' I' H'/\Sim GT w' M' I' H'/\ActOK D w' M' I' H'.length N (get fr') a'/\Outs w' M' I' H'.length e E/\K e fr' H') h1 t 0 ops.toList w M I H _ a zS_ (by simpa [zY1] using h2) hS (hF.restrict L) hA
   (fun fr' H' a' w' M' I' hG hS' hF' hK=>⟨by simp,.normal,fr',H',M',I',hG,hS',hF',rfl,hK⟩)
   (fun x xv g' H' a' w' M' I' hG hS' hF' hr hK=>⟨by simp,.pan x,[],H',M',I',hG,hS',hF'.none,⟨xv,rfl,hr⟩,hK⟩)
  have h4:=zQF (fun hl=>by obtain ⟨_,_,h,_⟩:=hl;exact h rfl) ops.toList a w (Pin.refl ts a) (zUU _ _ h1 hfr) h3;exact Code.wp_mono (fun E a' w' ⟨⟨_,e,fr',H',M',I',g1,g2,g3,g4,g5⟩,hp⟩=>hQ e E fr' H' a' w' M' I' g1 g2 g3 g4 g5 hp) (wp_region_list h4)
 |seq x y ihx ihy=>
  intro c K Q w M I H fr a hfr hc hS hF hA hQ;simp only [frag,zTo] at hfr;cases c <;> simp only [zIo,zoZ,zTo] at hc
  refine wp_seq (ihx _ _ _ w M I H fr a hfr.1 hc.1 hS hF hA fun e E fr' H' a' w' M' I' hG hS' hF' hE hK hp=>?_);cases e with
  |normal=>
   obtain rfl:=hE;exact ihy _ K Q w' M' I' H' fr' a' hfr.2 hc.2 hS' hF' hK fun e E fr2 H2 a2 w2 M2 I2 hG2 hS2 hF2 hE2 hK2 hp2=>hQ e E fr2 H2 a2 w2 M2 I2 (hG.trans hG2) hS2 hF2 hE2 hK2 (hp.trans hp2)
  |exit id=>obtain rfl:=hE;exact hQ (.exit id) _ fr' H' a' w' M' I' hG hS' hF' rfl hK hp
  |ret=>obtain rfl:=hE;exact hQ .ret _ fr' H' a' w' M' I' hG hS' hF' rfl hK hp
  |goto l=>obtain rfl:=hE;exact hQ (.goto l) _ fr' H' a' w' M' I' hG hS' hF' rfl hK hp
  |pan x=>obtain ⟨xv,rfl,hr⟩:=hE;exact hQ (.pan x) _ fr' H' a' w' M' I' hG hS' hF' ⟨xv,rfl,hr⟩ hK hp
 |cond t x y ihx ihy=>
  intro c K Q w M I H fr a hfr hc hS hF hA hQ;simp only [frag,zTo] at hfr;cases c <;> simp only [zIo,zoZ,zTo] at hc
  rename_i t' x' y';obtain ⟨⟨h1,h2⟩,h3⟩:=hc;unfold AW at hA;split at hA
  ·rename_i b hb;have hF':ActOK D w M I H.length N (get (learn fr t b)) a:=⟨fun s=>by rw [zR5 hb s];exact hF.rel s,hF.size,hF.defers⟩;have hr:=hF.ev hS _ _ h1;rw [<-zF5,hb] at hr;have hv:a.eval t'=.bool b:=by
    generalize a.eval t'=u at hr;cases hr;rfl
   refine wp_cond hv ?_;cases b with
   |true=>simp only [zoz] at hA ⊢;exact ihx _ K Q w M I H _ a hfr.1 h2 hS hF' hA hQ
   |false=>simp only [zoZ,zot] at hA ⊢;exact ihy _ K Q w M I H _ a hfr.2 h3 hS hF' hA hQ
  ·exact hA.elim
 |_=>grind +locals
theorem zUV {ops:Array Oper} {Q:Exit->Act->List Frame->World->Prop} {i:Nat} {rest:List Nat} {o:Oper} {a:Act} {cs:List Frame} {w:World} (ho:ops[i]?=some o) (hw:Region.wanted o (yielded ops a.tmps)=true)
  (h:zIs P ((execOp a.eval o).run P w) fun v w'=>wpOpsS P ops Q rest (a.put o.dst v) cs w'):wpOpsS P ops Q (i::rest) a cs w:=by
 unfold wpOpsS;simp only [ho,hw,zoz];unfold zIs at h;split at h
 ·rename_i hr;rw [hr];exact h
 ·rename_i hr;rw [hr];exact h
 ·rename_i hr;rw [hr];exact h.mono fun e w' ⟨v,he,hv⟩=>by subst he;exact hv
 ·exact h.elim
def recB (c:Code):Bool:=match c with
 |.seq (.region _ ops _) _=>(match ops[0]? with
  |some o=>o.guard.isNone&&(match o.op with
   |.call { callee:=.builtin .recover,.. }=>true
   |_=>false)
  |none=>false)
 |_=>false
inductive RecM (w:World) (M:AMap) (I:Nat->Prop) (n:Nat):FrameMode->AV->FrameMode->Prop where
 |none:RecM w M I n .returning .nili .returning
 |some (x:AV) (xv:Value) (h:Rel w M I n x xv):RecM w M I n (.panicking [{ v:=xv,recovered:=false }]) x (.panicking [{ v:=xv,recovered:=true }])
def zOl (P:Program) (GT:zG_) (g:FuncId) (caps:List AV) (x:AV) (H H':Heap):Prop:=
 ∀ (w:World) (M:AMap) (I:Nat->Prop) (cargs:List Value) (u u2:FrameMode),Sim GT w M I H->zED w M I H.length caps cargs->RecM w M I H.length u x u2 ->
  CallsD P g cargs.toArray u w fun e u' w'=>(∃ v,e=.returned v)/\u'=u2/\∃ M' I',Grow w M I H w' M' I' H'/\Sim GT w' M' I' H'
theorem zd5 (hm:P.follows .mixedOrders=true) {g:FuncId} {G:AF} {L0:List Nat} {r0 r1:Nat} {Y:AC} (hk:zCU P g G=true) (hG:G.body=.seq (.reg L0 false [⟨some r0,none,.stuck,[]⟩,⟨some r1,none,.mv,[.tmp r0]⟩]) Y) (hGr:G.results=[])
  (hrec:(match P.funcs[g]? with
   |some fn=>(match fn.body with
    |some c=>recB c
    |none=>false)
   |none=>false)=true) {caps:List AV} {x:AV} {H H':Heap}
  (hY:AW (Good P GT) GT Y (fun e _ H1=>(e=.normal\/e=.ret)/\H1=H') (put (put (restrict (zGR 0 caps) L0) (some r0) x) (some r1) x) H):zOl P GT g caps x H H':=by
 intro w M I cargs u u2 hS hA hR;unfold zCU at hk;cases hf:P.funcs[g]? with
 |none=>rw [hf] at hk;cases hk
 |some fn=>
 rw [hf] at hk hrec;simp only [zTo,zmD] at hk hrec;obtain ⟨hname,hk⟩:=hk;cases hb:fn.body with
 |none=>rw [hb] at hk;cases hk
 |some c=>
 rw [hb] at hk hrec;simp only [zTo] at hk hrec;obtain ⟨hc,hres⟩:=hk;rw [hG] at hc;rw [hGr] at hres;refine callsD_of_wpS hf hb fun c₀ cs hu=>?_;have hF0:=zLD (GT:=GT) hS hA (n:=fn.ntmps);generalize ({ tmps:=cargs.toArray++Array.replicate (fn.ntmps-cargs.toArray.size) Go.undef,defers:=[] }:Act)=a at hF0 ⊢;cases c <;> simp only [zIo,zoZ,zTo] at hc
 rename_i cR cY;obtain ⟨hcR,hcY⟩:=hc;cases cR <;> simp only [zIo,zoZ,zTo,zol] at hcR
 rename_i id ops draw;obtain ⟨⟨rfl,h1⟩,_⟩:=hcR;obtain ⟨os⟩:=ops;simp only at h1
 match os,h1 with
 |[],h1=>simp [zBu] at h1
 |[_],h1=>simp [zBu] at h1
 |_::_::_::_,h1=>simp [zBu] at h1
 |[o0,o1],h1=>
 simp only [zBu,zTo,znQ] at h1;obtain ⟨k0,k1⟩:=h1;have hF:=hF0.restrict L0;refine wpS_seq (wpS_region ?_);show wpOpsS P _ _ [0,1] a (c₀::cs) w;have ho0:(⟨[o0,o1]⟩:Array Oper)[0]?=some o0:=rfl;have ho1:(⟨[o0,o1]⟩:Array Oper)[1]?=some o1:=rfl;simp only [recB,ho0,zTo] at hrec;obtain ⟨hg0,hop⟩:=hrec;have hw0:∀ t:Act,Region.wanted o0 (yielded ⟨[o0,o1]⟩ t.tmps)=true:=fun t=>by
  cases hgd:o0.guard with
  |none=>simp [Region.wanted,hgd]
  |some z=>rw [hgd] at hg0;cases hg0
 have hrun:(execOp a.eval o0).run P w=.ok .recover w:=by
  cases hoo:o0.op <;> rw [hoo] at hop <;> first|cases hop|skip
  rename_i cl;obtain ⟨callee,args,at_⟩:=cl;cases callee <;> first|cases hop|skip
  rename_i bn;cases bn <;> first|cases hop|skip
  simp [execOp,hoo,resolve,invoke,builtin]
 have hd0:o0.dst=some r0/\r0<fn.ntmps:=by
  simp only [zM1,zTo,zoY] at k0;exact ⟨k0.1.1.1,k0.1.1.2⟩
 have key:∀ (xv:Value) (c1:Frame),c1={ c₀ with mode:=u2 }->Rel w M I H.length x xv->wpOpsS P ⟨[o0,o1]⟩ (Exit.thenS (cY.wpS P (bodyPostS P fn c₀ cs fun e u' w'=>(∃ v,e=.returned v)/\u'=u2/\∃ M' I',Grow w M I H w' M' I' H'/\Sim GT w' M' I' H')) (bodyPostS P fn c₀ cs fun e u' w'=>(∃ v,e=.returned v)/\u'=u2/\∃ M' I',Grow w M I H w' M' I' H'/\Sim GT w' M' I' H')) [1] (a.put o0.dst xv) (c1::cs) w:=by
  intro xv c1 hc1 hx;have hF1:ActOK [] w M I H.length fn.ntmps (putg (get (restrict (zGR 0 caps) L0)) (some r0) x) (a.put o0.dst xv):=by
   rw [hd0.1];exact hF.put (fun e he=>by cases he;exact hd0.2) hx
  have hy:AYields (Good P GT) GT ⟨some r1,none,.mv,[.tmp r0]⟩ (putg (get (restrict (zGR 0 caps) L0)) (some r0) x) H x H:=by
   show zGS (Good P GT) .mv _ H x H;show astep .mv [evg GT _ (.tmp r0)] H=some (x,H);simp [astep,evg,putg]
  have h2:=k1;simp only [zM1,zTo,zoY] at h2;have hg1:o1.guard=none:=by grind
  refine zUV ho1 (by simp [Region.wanted,hg1]) ?_;refine (zNt hS h2.2 (hF1.ev hS) (fun f=>rfl) (xs:=[.tmp r0]) (v:=x) (H':=H) hy).mono ?_;rintro v' w' ⟨M',I',g1,g2,g3⟩;show Exit.thenS _ _ .normal _ _ _;have hF2:ActOK [] w' M' I' H.length fn.ntmps (get (put (put (restrict (zGR 0 caps) L0) (some r0) x) (some r1) x)) ((a.put o0.dst xv).put o1.dst v'):=by
   rw [zGz,zGz,h2.1.1.1];exact (hF1.grow g1 hS).put (fun e he=>by cases he;simpa using h2.1.1.2) g3
  refine wpS_of_wp (zLC hm Y cY _ _ w' M' I' H _ _ hcY g2 hF2 hY fun e E fr' H1 a' w2 M2 I2 hG2 hS2 hF3 hE hK=>?_);obtain ⟨he,rfl⟩:=hK;obtain ⟨u0,hr0,I3,g4,g5,_⟩:=zJd (P:=P) (F:={ keep:=true,results:=[],body:=.skip }) hS (g1.trans hG2) hS2 hF3 (fn:=fn) hres (v:=.tup []) (H':=H1) (by simp [zHM,zBd,tupled]);rcases he with rfl|rfl <;> obtain rfl:=hE <;> exact ⟨hF3.defers,u2,by rw [hc1],u0,hr0,⟨u0,rfl⟩,rfl,M2,I3,g4,g5⟩
 unfold wpOpsS;simp only [ho0,hw0,zoz,hrun];cases hR with
 |none=>
  have hrd:recoverD (c₀::cs)=none:=by simp only [recoverD,hu]
  rw [hrd];exact key .nilIface c₀ (by rw [<-hu]) .nili
 |some x xv hx=>
  have hrd:recoverD (c₀::cs)=some (xv,{ c₀ with mode:=.panicking [{ v:=xv,recovered:=true }] }::cs):=by simp only [recoverD,hu]
  rw [hrd];exact key xv _ rfl hx
def dfrB (s:Nat) (c:Code):Bool:=match c with
 |.seq _ (.seq _ (.seq (.region _ ops _) _))=>(match ops[1]? with
  |some o=>o.guard.isNone&&o.dst.isNone&&(match o.op with
   |.defer { callee:=.value (.tmp t),args,.. }=>t==s&&args.isEmpty
   |_=>false)
  |none=>false)
 |_=>false
section
variable (hm:P.follows .mixedOrders=true) {f g:FuncId} {F G:AF} {A B C:AC} {LR ts:List Nat} {s:Nat} {xs:List Opd} (hk:zCU P f F=true) (hF:F.body=.seq A (.seq B (.seq (.reg LR false [⟨some s,none,.mkFn g 0,xs⟩,⟨none,none,.stuck,[]⟩]) C))) (hd:(match P.funcs[f]? with|some fn=>(match fn.body with|some c=>dfrB s c|none=>false)|none=>false)=true) (hkg:zCU P g G=true) (hfr:frag ts C=true) {args:List AV} (hn:zIt args=true) {H:Heap} {v:AV} {H':Heap}
include hm f g F G A B C LR ts s xs hk hF hd hkg hfr args hn H v H'
theorem zRO
  (h:AW (Good P GT) GT (.seq A (.seq B .skip)) (fun e fr1 H1=>e=.normal/\AW (Good P GT) GT C (fun e fr2 H2=>match e with
    |.normal=>zOl P GT g (xs.map (ev GT (restrict fr1 LR))) .nili H2 H2/\zHM F H fr2 H2 v H'
    |.ret=>zOl P GT g (xs.map (ev GT (restrict fr1 LR))) .nili H2 H2/\zHM F H fr2 H2 v H'
    |.pan x=>∃ H3,zOl P GT g (xs.map (ev GT (restrict fr1 LR))) x H2 H3/\zHM F H (restrict (put (restrict fr1 LR) (some s) (.fn g [] (xs.map (ev GT (restrict fr1 LR))))) ts) H3 v H'
    |_=>False) (put (restrict fr1 LR) (some s) (.fn g [] (xs.map (ev GT (restrict fr1 LR))))) H1) (zGR 0 args) H):Good P GT f args H v H':=by
 unfold zCU at hk;cases hf:P.funcs[f]? with
 |none=>rw [hf] at hk;cases hk
 |some fn=>
 rw [hf] at hk hd;simp only [zTo,zmD] at hk hd;obtain ⟨hname,hk⟩:=hk;cases hb:fn.body with
 |none=>rw [hb] at hk;cases hk
 |some c=>
 rw [hb] at hk hd;simp only [zTo] at hk hd;obtain ⟨hc,hres⟩:=hk;rw [hF] at hc;refine zIu hn fun w M I cargs hS hA=>?_;have h1:fn.name ≠ "runtime.NumGoroutine" := by simpa using hname
 have hrun:(callFunc f cargs.toArray).run P w=.ok (.enter f cargs.toArray) w:=by simp [callFunc,hf,h1,hb]
 rw [hrun];refine calls_of_wp_defers hf hb ?_;have hF0:=zLD (GT:=GT) hS hA (n:=fn.ntmps);generalize ({ tmps:=cargs.toArray++Array.replicate (fn.ntmps-cargs.toArray.size) Go.undef,defers:=[] }:Act)=a at hF0 ⊢;cases c <;> simp only [zIo,zoZ,zTo] at hc
 rename_i cA c1;obtain ⟨hcA,hc⟩:=hc;cases c1 <;> simp only [zIo,zoZ,zTo] at hc
 rename_i cB c2;obtain ⟨hcB,hc⟩:=hc;cases c2 <;> simp only [zIo,zoZ,zTo] at hc
 rename_i cR cC;obtain ⟨hcR,hcC⟩:=hc;cases cR <;> simp only [zIo,zoZ,zTo,zol] at hcR
 rename_i id ops draw;obtain ⟨⟨rfl,hR⟩,_⟩:=hcR;refine wp_seq (zLC hm A cA _ _ w M I H _ a hcA hS hF0 h fun e E fr1 H1 a1 w1 M1 I1 hG1 hS1 hF1 hE1 hK1=>?_);cases e with
 |exit id=>exact absurd hK1.1 zS_
 |ret=>exact absurd hK1.1 zS_
 |goto l=>exact absurd hK1.1 zS_
 |pan x=>exact absurd hK1.1 zS_
 |normal=>
 obtain rfl:=hE1;refine wp_seq (zLC hm B cB _ _ w1 M1 I1 H1 fr1 a1 hcB hS1 hF1 hK1 fun e E fr2 H2 a2 w2 M2 I2 hG2 hS2 hF2 hE2 hK2=>?_);cases e with
 |exit id=>exact absurd hK2.1 zS_
 |ret=>exact absurd hK2.1 zS_
 |goto l=>exact absurd hK2.1 zS_
 |pan x=>exact absurd hK2.1 zS_
 |normal=>
 obtain rfl:=hE2;obtain ⟨_,hC⟩:=hK2;replace hG2:=hG1.trans hG2;clear hK1 hG1 hS1 hF1 h;obtain ⟨os⟩:=ops;simp only at hR
 match os,hR with
 |[],hR=>simp [zBu] at hR
 |[_],hR=>simp [zBu] at hR
 |_::_::_::_,hR=>simp [zBu] at hR
 |[o0,o1],hR=>
 simp only [zBu,zTo,znQ] at hR;obtain ⟨k0,k1⟩:=hR;have ho1:(⟨[o0,o1]⟩:Array Oper)[1]?=some o1:=rfl;simp only [dfrB,ho1,zTo] at hd;obtain ⟨⟨hg1,hd1⟩,hop⟩:=hd;refine wp_seq (wp_region_list ?_);show wpList P _ _ [o0,o1] a2 w2;generalize hcaps:xs.map (ev GT (restrict fr2 LR))=caps at *;have hy:AYields (Good P GT) GT ⟨some s,none,.mkFn g 0,xs⟩ (get (restrict fr2 LR)) H2 (.fn g [] caps) H2:=by
  show zGS (Good P GT) (.mkFn g 0) _ H2 _ H2;show astep (.mkFn g 0) (xs.map (evg GT (get (restrict fr2 LR)))) H2=some (.fn g [] caps,H2);rw [<-zF5,hcaps];rfl
 unfold wpList;refine zK9 hS2 (hF2.restrict LR) k0 hy fun a3 w3 M3 I3 hG3 hS3 hF3=>?_;replace hG3:=hG2.trans hG3;unfold wpList;have hw1:Region.wanted o1 (yielded ⟨[o0,o1]⟩ a3.tmps)=true:=by
  cases hgd:o1.guard with
  |none=>simp [Region.wanted,hgd]
  |some z=>rw [hgd] at hg1;cases hg1
 rw [zoQ hw1];refine .inl ?_;have hfv:=hF3.rel s;simp only [putg,zoz] at hfv;generalize hfve:a3.tmps.getD s Go.undef=fv at hfv;cases hfv with
 |fn _ _ _ vs us hl hl' hv hu=>
 have hvs:vs=[]:=znB.1 hl.symm;subst hvs;have hcr:zED w3 M3 I3 H2.length caps us:=⟨hl',hu⟩;have hrun1:(execOp a3.eval o1).run P w3=.ok (.defer { target:=.fn (.func g) us.toArray,args:=#[]++#[] }) w3:=by
  cases hoo:o1.op <;> rw [hoo] at hop <;> first|cases hop|skip
  rename_i cl;obtain ⟨callee,cargs1,at_⟩:=cl;cases callee <;> first|cases hop|skip
  rename_i opd;cases opd <;> first|cases hop|skip
  rename_i t;simp only [zTo,zol,Array.isEmpty_iff] at hop;obtain ⟨rfl,rfl⟩:=hop;simp [execOp,hoo,resolve,Deferred.ofValue,Act.eval,hfve]
 have hd1':o1.dst=none:=by (simp_all;done)
 unfold Oper.wp;rw [hrun1,Oper.upon_defer,hd1'];unfold wpList;show Exit.then _ _ .normal _ _;have hF4:ActOK [{ target:=.fn (.func g) us.toArray,args:=#[]++#[] }] w3 M3 I3 H2.length fn.ntmps (get (put (restrict fr2 LR) (some s) (.fn g [] caps))) { a3 with defers:={ target:=.fn (.func g) us.toArray,args:=#[]++#[] }::a3.defers }:=by
  refine ⟨?_,hF3.size,by rw [hF3.defers]⟩;rw [zGz];exact hF3.rel
 have hgk:=hkg;unfold zCU at hgk;have hinv:∀ w',(invoke (.fn (.func g) us.toArray) (#[]++#[])).run P w'=.ok (.enter g us.toArray) w':=fun w'=>by
  split at hgk
  ·rename_i gn hgf;simp only [zTo,zmD] at hgk;obtain ⟨hgn,hgk⟩:=hgk;cases hgb:gn.body with
   |none=>rw [hgb] at hgk;cases hgk
   |some gc=>
    have:gn.name ≠ "runtime.NumGoroutine" := by simpa using hgn
    simp [invoke,callFunc,hgf,this,hgb]
  ·cases hgk
 refine zj4 hm ts C cC _ _ w3 M3 I3 H2 _ _ hfr hcC hS3 hF4 hC fun e E fr5 H5 a5 w5 M5 I5 hG5 hS5 hF5 hE5 hK5 hp=>?_;have hcr5:zED w5 M5 I5 H5.length caps us:=⟨hl',fun i c v hc hv=>hG5.rel hS3 (hcr.2 i c v hc hv)⟩;have hdn:a5.defers=[{ target:=.fn (.func g) us.toArray,args:=#[]++#[] }]:=hF5.defers;have fin:∀ (fr6:Fr) (H6:Heap) (w6:World) (M6:AMap) (I6:Nat->Prop),Grow w5 M5 I5 H5 w6 M6 I6 H6->Sim GT w6 M6 I6 H6->(∀ t,Rel w5 M5 I5 H5.length (get fr6 t) (a5.tmps.getD t Go.undef))->zHM F H fr6 H6 v H' ->
   ∃ u,(results fn a5.tmps).run P w6=.ok u w6/\∃ v',Ending.returned u=.returned v'/\∃ M' I',Grow w M I H w6 M' I' H'/\Sim GT w6 M' I' H'/\Rel w6 M' I' H'.length v v':=by
  intro fr6 H6 w6 M6 I6 hG6 hS6 hrel hret;have hF6:ActOK a5.defers w6 M6 I6 H6.length fn.ntmps (get fr6) a5:=⟨fun t=>hG6.rel hS5 (hrel t),hF5.size,rfl⟩;obtain ⟨u,h2,I7,h3,h4,h5⟩:=zJd (P:=P) hS ((hG3.trans hG5).trans hG6) hS6 hF6 hres hret;exact ⟨u,h2,u,rfl,M6,I7,h3,h4,h5⟩
 have norm:zOl P GT g caps .nili H5 H5/\zHM F H fr5 H5 v H'->Leaves P fn a5.tmps (fun e w''=>∃ v',e=.returned v'/\∃ M' I',Grow w M I H w'' M' I' H'/\Sim GT w'' M' I' H'/\Rel w'' M' I' H'.length v v') a5.defers .returning w5:=fun ⟨hD,hret⟩=>by
  rw [hdn];refine leaves_cons zS_ (hinv w5) ((hD w5 M5 I5 us .returning .returning hS5 hcr5 .none).mono fun e u' w6 ⟨he,hu',M6,I6,hG6,hS6⟩=>?_);obtain ⟨v6,rfl⟩:=he;subst hu';exact fin fr5 H5 w6 M6 I6 hG6 hS6 hF5.rel hret
 cases e with
 |exit id=>exact hK5.elim
 |goto l=>exact hK5.elim
 |normal=>obtain rfl:=hE5;exact norm hK5
 |ret=>obtain rfl:=hE5;exact norm hK5
 |pan x=>
  obtain ⟨xv,rfl,hx⟩:=hE5;obtain ⟨H6,hD,hret⟩:=hK5;show Leaves P fn a5.tmps _ a5.defers _ w5;rw [hdn];refine leaves_cons zS_ (hinv w5) ((hD w5 M5 I5 us _ _ hS5 hcr5 (.some x xv hx)).mono fun e u' w6 ⟨he,hu',M6,I6,hG6,hS6⟩=>?_);obtain ⟨v6,rfl⟩:=he;subst hu';refine fin _ H6 w6 M6 I6 hG6 hS6 (fun t=>?_) hret;by_cases ht:t∈ts
  ·rw [hp t ht];have h1:=hG5.rel hS3 (hF4.rel t);rcases zMd (put (restrict fr2 LR) (some s) (.fn g [] caps)) ts t with h|h
   ·rw [h];exact h1
   ·rw [h];exact .undef _
  ·rw [zId _ ht];exact .undef _
theorem zPc
  (h:EW (Good P GT) GT (.seq A (.seq B .skip)) (fun e fr1 H1=>e=.normal/\EW (Good P GT) GT C (fun e fr2 H2=>match e with
    |.normal=>zOl P GT g (xs.map (ev GT (restrict fr1 LR))) .nili H2 H2/\zHM F H fr2 H2 v H'
    |.ret=>zOl P GT g (xs.map (ev GT (restrict fr1 LR))) .nili H2 H2/\zHM F H fr2 H2 v H'
    |.pan x=>∃ H3,zOl P GT g (xs.map (ev GT (restrict fr1 LR))) x H2 H3/\zHM F H (restrict (put (restrict fr1 LR) (some s) (.fn g [] (xs.map (ev GT (restrict fr1 LR))))) ts) H3 v H'
    |_=>False) (put (restrict fr1 LR) (some s) (.fn g [] (xs.map (ev GT (restrict fr1 LR))))) H1) (zGR 0 args) H):Good P GT f args H v H':=by
 refine zRO hm hk hF hd hkg hfr hn (zFs _ _ _ _ _ H rfl (fun e f1 f1' H1 hf1 hK=>?_) h);obtain ⟨he,hK⟩:=hK;have e1:restrict f1' LR=restrict f1 LR:=by rw [zBX hf1]
 rw [e1];refine ⟨he,zFs _ _ _ _ _ H1 rfl (fun e f2 f2' H2 hf2 hK2=>?_) hK⟩;have hr:zHM F H f2 H2 v H'->zHM F H f2' H2 v H':=fun h=>by
  unfold zHM at h ⊢;rw [<-zFQ hf2];exact h
 cases e with
 |normal=>exact ⟨hK2.1,hr hK2.2⟩
 |ret=>exact ⟨hK2.1,hr hK2.2⟩
 |pan x=>exact hK2
 |exit id=>exact hK2
 |goto l=>exact hK2
end
theorem zaB (hm:P.follows .mixedOrders=true) {g:FuncId} {G:AF} {L0:List Nat} {r0 r1:Nat} {Y:AC} (hk:zCU P g G=true) (hG:G.body=.seq (.reg L0 false [⟨some r0,none,.stuck,[]⟩,⟨some r1,none,.mv,[.tmp r0]⟩]) Y) (hGr:G.results=[])
  (hrec:(match P.funcs[g]? with
   |some fn=>(match fn.body with
    |some c=>recB c
    |none=>false)
   |none=>false)=true) {caps:List AV} {x:AV} {H H':Heap}
  (hY:EW (Good P GT) GT Y (fun e _ H1=>(e=.normal\/e=.ret)/\H1=H') (put (put (restrict (zGR 0 caps) L0) (some r0) x) (some r1) x) H):zOl P GT g caps x H H':=
 zd5 hm hk hG hGr hrec (zFs _ _ _ _ _ H rfl (fun e f1 f1' H1 hf1 hK=>hK) hY)
theorem zhJ {F:AF} {a b c s:Nat} {ag:Bool} {H H1 H2:Heap} {fr:Fr} {va vb vc v:AV} {ca cb cc:List AV} (hF:F.results=[.cell a s ag,.cell b 1 false,.cell c 1 false]) (hk:F.keep=false)
  (pa:zy H1 (get fr a)=some (ca,0)) (qa:part ca 0 s ag=some va) (pb:zy H1 (get fr b)=some (cb,0)) (qb:part cb 0 1 false=some vb) (pc:zy H1 (get fr c)=some (cc,0)) (qc:part cc 0 1 false=some vc)
  (hf:zDm H.length (.tup [va,vb,vc]) H1=some (v,H2)) (hb:v.bel H.length=true) (ho:Old H H2):zHM F H fr H1 v H:=by
 unfold zHM;simp only [hF,zBd,zKS,pa,qa,pb,qb,pc,qc,tupled,hk,zoZ,zot,hf];exact ⟨hb,ho.ok,trivial,ho.take.symm⟩
theorem Good.wk {f:FuncId} {args:List AV} {H H':Heap} {v v':AV} (hn:zIt args=true) (h:Good P GT f args H v H') (hw:Wk v v'):Good P GT f args H v' H':=by
 refine zIu hn fun w M I cargs hS hA=>?_;exact (h.n hA w M I cargs hS hA).mono fun v1 w1 ⟨M',I',g1,g2,g3⟩=>⟨M',I',g1,g2,hw _ _ _ _ _ g3⟩
end
theorem zhK {s:Bs} {a:Nat} (ha:a<=s.length):tok s a=.fin↔skip s a=s.length:=by
 have hq:=zCO ha;unfold tok;generalize skip s a=q at *;unfold zBi;cases h:s[q]? with
 |none=>
  have:=znK.1 h;exact ⟨fun _=>by omega,fun _=>rfl⟩
 |some c=>
  have hlt:=(zl_ h);refine ⟨fun x=>?_,fun x=>by omega⟩;exfalso;simp only at x;split at x
  ·cases x
  ·split at x
   ·split at x <;> cases x
   ·split at x
    ·split at x <;> cases x
    ·split at x
     ·split at x <;> cases x
     ·cases x
theorem zaC {s:Bs} (hl:s.length<=200) (h61:s.head?=some 61):zAj s=(bl s ((P s).loose 1 1 0)).bind fun p=>if skip s p.2=s.length then some p.1 else none:=by
 have h1:1<=s.length:=by cases s with
  |nil=>cases h61
  |cons c r=>simp
 unfold zAj;rw [zoQ ⟨hl,h61⟩];cases h:(P s).loose 1 1 0 with
 |none=>rfl
 |some p=>
  have:=(zCr s).loose 1 1 0 p h1 h;show (match tok s p.2 with
   |.fin=>some p.1
   |_=>none)=if skip s (skip s p.2)=s.length then some p.1 else none
  rw [zGN];have hf:=zhK this.2;by_cases hs:skip s p.2=s.length
  ·rw [hf.2 hs,zoQ hs]
  ·rw [zWl hs];split
   ·rename_i hk;exact absurd (hf.1 hk) hs
   ·rfl
def zXg:AV:=.tup [ndV zU,.sca,.iface zd .undef]
def zFE (s:Bs):AV:=match zAj s with
 |some n=>.tup [ndV n,.int .i64 0,.nili]
 |none=>zXg
def fpY:AC:=zGh.rest
def fpC:AC:=zEq.rest.rest.rest
def yFr (x:AV) (n2 n3 n4:Nat):Fr:=[(3,x),(6,x),(2,pR n4),(1,pR n3),(0,pR n2)]
def fpH (H:Heap) (n2 n3 n4:Nat):Heap:=(((((H++[ABlk.box [.int .i64 0,.nili]]).set H.length (.box [.sca,.iface zd .undef])).set n2 (.box (ndC zU))).set n3 (.box [.sca])).set n4 (.box [.iface zd .undef]))
section
variable {C:CSpec} {GT:zG_}
theorem zd6 (n2 n3 n4:Nat) (H:Heap):EW C GT fpY (fun e _ H1=>(e=.normal\/e=.ret)/\H1=H) (yFr .nili n2 n3 n4) H:=by
 refine za rfl<|zC ?_
 exact ⟨.inl rfl,rfl⟩
theorem zd7 (n2 n3 n4:Nat) (H:Heap) (m:Nd) (c3 c4:AV) (h2:H[n2]?=some (.box (ndC m))) (h3:H[n3]?=some (.box [c3])) (h4:H[n4]?=some (.box [c4])) (d1:n2<n3) (d2:n3<n4) (hn4:n4<H.length) :
  EW C GT fpY (fun e _ H1=>(e=.normal\/e=.ret)/\H1=fpH H n2 n3 n4) (yFr zHK n2 n3 n4) H:=by
 refine za rfl<|zD<|zBA zD_<|za rfl<|za rfl<|zM (v:=AV.agg [AV.sca,AV.iface zd AV.undef]) (AV.cells (.agg [AV.sca,AV.iface zd AV.undef])) zB rfl rfl rfl rfl ?_;refine zC<|za (v:=(zN 0 0 [])) rfl ?_;refine zG2 ?_ ?_
 ·refine zA (AV.sca) hP rfl ?_;refine zG2 ?_ ?_
  ·refine zA (AV.iface zd AV.undef) hP rfl<|zM (v:=.agg (zN 0 0 [])) (AV.cells (.agg (zN 0 0 []))) (zE tA (zG h2)) rfl rfl rfl rfl<|zM (v:=AV.sca) [AV.sca] (zE tA (zE tA (zG h3))) rfl rfl rfl rfl<|zM (v:=AV.iface zd AV.undef) [AV.iface zd AV.undef] (zE tA (zE tA (zE tA (zG h4)))) rfl rfl rfl rfl ?_
   exact ⟨.inl rfl,rfl⟩
  ·refine zM (v:=.agg (zN 0 0 [])) (AV.cells (.agg (zN 0 0 []))) (zE tA (zG h2)) rfl rfl rfl rfl ?_;refine zG2 ?_ ?_
   ·refine zA (AV.iface zd AV.undef) hP rfl<|zM (v:=AV.sca) [AV.sca] (zE tA (zE tA (zG h3))) rfl rfl rfl rfl<|zM (v:=AV.iface zd AV.undef) [AV.iface zd AV.undef] (zE tA (zE tA (zE tA (zG h4)))) rfl rfl rfl rfl ?_
    exact ⟨.inl rfl,rfl⟩
   ·refine zM (v:=AV.sca) [AV.sca] (zE tA (zE tA (zG h3))) rfl rfl rfl rfl<|zA (AV.iface zd AV.undef) hP rfl<|zM (v:=AV.iface zd AV.undef) [AV.iface zd AV.undef] (zE tA (zE tA (zE tA (zG h4)))) rfl rfl rfl rfl ?_
    exact ⟨.inl rfl,rfl⟩
 ·refine zG2 ?_ ?_
  ·refine zA (AV.iface zd AV.undef) hP rfl ?_;refine zG2 ?_ ?_
   ·refine zA (AV.sca) hP rfl<|zM (v:=.agg (zN 0 0 [])) (AV.cells (.agg (zN 0 0 []))) (zE tA (zG h2)) rfl rfl rfl rfl<|zM (v:=AV.sca) [AV.sca] (zE tA (zE tA (zG h3))) rfl rfl rfl rfl<|zM (v:=AV.iface zd AV.undef) [AV.iface zd AV.undef] (zE tA (zE tA (zE tA (zG h4)))) rfl rfl rfl rfl ?_
    exact ⟨.inl rfl,rfl⟩
   ·refine zM (v:=.agg (zN 0 0 [])) (AV.cells (.agg (zN 0 0 []))) (zE tA (zG h2)) rfl rfl rfl rfl<|zA (AV.sca) hP rfl<|zM (v:=AV.sca) [AV.sca] (zE tA (zE tA (zG h3))) rfl rfl rfl rfl<|zM (v:=AV.iface zd AV.undef) [AV.iface zd AV.undef] (zE tA (zE tA (zE tA (zG h4)))) rfl rfl rfl rfl ?_
    exact ⟨.inl rfl,rfl⟩
  ·refine zM (v:=.agg (zN 0 0 [])) (AV.cells (.agg (zN 0 0 []))) (zE tA (zG h2)) rfl rfl rfl rfl<|zA (AV.sca) hP rfl ?_;refine zG2 ?_ ?_
   ·refine zA (AV.iface zd AV.undef) hP rfl<|zM (v:=AV.sca) [AV.sca] (zE tA (zE tA (zG h3))) rfl rfl rfl rfl<|zM (v:=AV.iface zd AV.undef) [AV.iface zd AV.undef] (zE tA (zE tA (zE tA (zG h4)))) rfl rfl rfl rfl ?_
    exact ⟨.inl rfl,rfl⟩
   ·refine zM (v:=AV.sca) [AV.sca] (zE tA (zE tA (zG h3))) rfl rfl rfl rfl<|zA (AV.iface zd AV.undef) hP rfl<|zM (v:=AV.iface zd AV.undef) [AV.iface zd AV.undef] (zE tA (zE tA (zE tA (zG h4)))) rfl rfl rfl rfl ?_
    exact ⟨.inl rfl,rfl⟩
theorem zUW (hP:∀ s p H,C zA1 [.str s,.str p] H (.bool (p.isPrefixOf s)) H) (s:Bs) (H:Heap):EFun C GT zEp [.str s] H (.bool (decide (s.head?≠some 61))) H:=by
 have hp:=hP s [61] H;have e:([61]:Bs).isPrefixOf s=decide (s.head?=some 61):=by
  cases s with
  |nil=>rfl
  |cons c r=>
   by_cases hc:c=61
   ·subst hc;rfl
   ·have h1:¬ (some c=some (61:UInt8)):=fun e=>hc (zoh e);show ((61:UInt8)==c&&([]:Bs).isPrefixOf r)=decide (some c=some 61);rw [zop h1,tN (fun e=>hc e.symm)];rfl
 rw [e] at hp;clear hP e;refine zH ?_;by_cases h:s.head?=some 61
 ·rw [zoj h] at hp;rw [tF (fun x=>x h)];refine zI (hp) ?_;exact sRr
 ·rw [zop h] at hp;rw [zoj h];refine zI (hp) ?_;exact sRr
theorem zj5 {H:Heap} {n2 n3 n4:Nat} (d1:n2<n3) (d2:n3<n4) (hn4:n4<H.length):(fpH H n2 n3 n4)[n2]?=some (.box (ndC zU))/\(fpH H n2 n3 n4)[n3]?=some (.box [.sca])/\(fpH H n2 n3 n4)[n4]?=some (.box [.iface zd .undef]):=by
 unfold fpH;exact ⟨hP,hP,hP⟩
theorem zj6 {H0 H:Heap} {n2 n3 n4:Nat} (h:Old H0 H) (hl:H0.length<=n2) (d1:n2<n3) (d2:n3<n4) (hh:H0.length<=H.length):Old H0 (fpH H n2 n3 n4):=by
 unfold fpH;exact ((((h.push _).set hh _).set hl _).set tO _).set tO _
def zaD (s:Bs) (n2 n3 n4:Nat):Fr:=[(11,.fn zAb [] [pR n2,pR n3,pR n4]),(2,pR n2),(3,pR n3),(4,pR n4),(0,.str s)]
def KC (GD:AV->Heap->Heap->Prop) (s:Bs) (H:Heap) (n2 n3 n4:Nat) (v:AV):Post:=fun e fr2 H2=>match e with
 |.normal=>GD .nili H2 H2/\zHM zB0 H fr2 H2 v H
 |.ret=>GD .nili H2 H2/\zHM zB0 H fr2 H2 v H
 |.pan x=>∃ H3,GD x H2 H3/\zHM zB0 H [(2,pR n2),(3,pR n3),(4,pR n4)] H3 v H
 |_=>False
theorem zaE {GD:AV->Heap->Heap->Prop} {H H2:Heap} {n2 n3 n4:Nat} {m:Nd} {c3 c4:AV}
  (hD2:∀ H2 m c3 c4,H2[n2]?=some (.box (ndC m))->H2[n3]?=some (.box [c3])->H2[n4]?=some (.box [c4])->GD zHK H2 (fpH H2 n2 n3 n4))
  (h2:H2[n2]?=some (.box (ndC m))) (h3:H2[n3]?=some (.box [c3])) (h4:H2[n4]?=some (.box [c4])) (ho:Old H H2) (hn:H.length<=n2) (d1:n2<n3) (d2:n3<n4) :
  ∃ H3,GD zHK H2 H3/\zHM zB0 H [(2,pR n2),(3,pR n3),(4,pR n4)] H3 zXg H:=by
 have hn4:=(zl_ h4);obtain ⟨g2,g3,g4⟩:=zj5 d1 d2 hn4;exact ⟨_,hD2 H2 m c3 c4 h2 h3 h4,zhJ (a:=2) (b:=3) (c:=4) (s:=12) (ag:=true) rfl rfl (zJ g2) rfl (zJ g3) rfl (zJ g4) rfl rfl rfl (zj6 ho hn d1 d2 ho.1)⟩
theorem zhL (GD:AV->Heap->Heap->Prop) (s:Bs) (H H1:Heap) (n2 n3 n4:Nat) (hl:s.length<=200)
  (hD1:∀ H2,GD .nili H2 H2) (hD2:∀ H2 m c3 c4,H2[n2]?=some (.box (ndC m))->H2[n3]?=some (.box [c3])->H2[n4]?=some (.box [c4])->GD zHK H2 (fpH H2 n2 n3 n4))
  (hCo:∀ s H,C zBC [.str s] H (.bool (decide (s.head?≠some 61))) H)
  (hB:∀ b s p d H,H[b]?=some (rdB s p d)->p<=s.length->s.length<=200->C zn [pR b] H (.tup []) (H.set b (rdB s (skip s p) d)))
  (hF:∀ b s p d a e H,H[b]?=some (rdB s p d)->C zo (.pan .undef::[pR b,.int .i64 a,zFo e]) H zHK (H.set b (.box (wkC s))))
  (hT:∀ b H',s.head?=some 61->H'[b]?=some (rdB s 1 0)->CR C zr [pR b,zK 0] H' b s 0 (bl s ((P s).loose 1 1 0)))
  (hn2:H.length<=n2) (d1:n2<n3) (d2:n3<n4) (hn4:n4<H1.length) (h2:H1[n2]?=some (.box (ndC zU))) (h3:H1[n3]?=some (.box [.int .i64 0])) (h4:H1[n4]?=some (.box [.nili])) (ho:Old H H1) :
  EW C GT fpC (KC GD s H n2 n3 n4 (zFE s)) (zaD s n2 n3 n4) H1:=by
 have hc:=fun H=>hCo s H;have hf:=fun b p d a e H h=>hF b s p d a e H h;clear hCo hF;have hb5:∀ b,H1[b]?≠none->b≠H1.length:=fun b h e=>h (by rw [e];exact zmA (zoR _));have hlo:=ho.1;by_cases h61:s.head?=some 61
 ·have hs1:1<=s.length:=by cases s with
   |nil=>cases h61
   |cons c r=>simp
  rw [tF (fun x=>x h61)] at hc;have hT:=fun b H'=>hT b H' h61;unfold zFE;rw [zaC hl h61];cases hr:bl s ((P s).loose 1 1 0) with
  |none=>
   have hx:=fun b H' h=>(hT b H' h).2 hr;clear hT hB;refine za (v:=[.str s,.int .i64 0,.int .i64 0]) rfl<|zAV (x:=AV.agg [.str s,.int .i64 0,.int .i64 0]) rfl<|zI (hc _)<|zC<|zA (.int .i64 0) zB rfl<|zQ (r:=1) rfl tO ?_;refine zM (v:=.int .i64 ↑1) [.str s,.int .i64 ↑1,.int .i64 0] zB rfl rfl rfl rfl<|zAz (hx _ _ hP) ?_
   exact zaE hD2 hP hP hP (by repeat' (first|exact ho|refine Old.set ?_ tC _|apply Old.push)) hn2 d1 d2
  |some p=>
   obtain ⟨n,e⟩:=p;have hx:=fun b H' h=>(hT b H' h).1 n e hr;have he:e<=s.length:=by
    unfold bl at hr;rw [zoV] at hr;obtain ⟨q,hq,hqe⟩:=hr;cases hqe;exact zCO ((zCr s).loose 1 1 0 q hs1 hq).2
   have hbk:=fun b H' h=>hB b s e 0 H' h he hl;have hq:=zCO he;show EW C GT fpC (KC GD s H n2 n3 n4 (match (if skip s e=s.length then some n else none) with
    |some n=>.tup [ndV n,.int .i64 0,.nili]
    |none=>zXg)) (zaD s n2 n3 n4) H1
   clear hT hB hr he;generalize skip s e=q at *;by_cases hqe:q=s.length
   ·rw [zoQ hqe];clear hf;refine za (v:=[.str s,.int .i64 0,.int .i64 0]) rfl<|zAV (x:=AV.agg [.str s,.int .i64 0,.int .i64 0]) rfl<|zI (hc _)<|zC<|zA (.int .i64 0) zB rfl<|zQ (r:=1) rfl tO ?_;refine zM (v:=.int .i64 ↑1) [.str s,.int .i64 ↑1,.int .i64 0] zB rfl rfl rfl rfl<|zCP (hx _ _ hP)<|zM (v:=ndV n) (AV.cells (ndV n)) (zE tA (zE tA (zG h2))) rfl rfl rfl rfl<|zBc (hbk _ _ hP) (fun h=>by cases h)<|zA (zL q) hP rfl<|zc tF ?_
    refine zA (ndV n) (zE tA (zS (zE tA (zE tA (zG h2))))) rfl<|zM (v:=ndV n) (AV.cells (ndV n)) (zE tA (zS (zE tA (zE tA (zG h2))))) rfl rfl rfl rfl<|zM (v:=.int .i64 0) [.int .i64 0] (zE tA (zE tA (zE tA (zE tA (zE tA (zG h3)))))) rfl rfl rfl rfl<|zM (v:=AV.nili) [.nili] (zE tA (zE tA (zE tA (zE tA (zE tA (zE tA (zG h4))))))) rfl rfl rfl rfl ?_
    exact ⟨hD1 _,zhJ (a:=2) (b:=3) (c:=4) (s:=12) (ag:=true) rfl rfl (zJ hP) rfl (zJ hP) rfl (zJ hP) rfl rfl rfl (by repeat' (first|exact ho|refine Old.set ?_ tC _|apply Old.push))⟩
   ·rw [zWl hqe];refine za (v:=[.str s,.int .i64 0,.int .i64 0]) rfl<|zAV (x:=AV.agg [.str s,.int .i64 0,.int .i64 0]) rfl<|zI (hc _)<|zC<|zA (.int .i64 0) zB rfl<|zQ (r:=1) rfl tO ?_;refine zM (v:=.int .i64 ↑1) [.str s,.int .i64 ↑1,.int .i64 0] zB rfl rfl rfl rfl<|zCP (hx _ _ hP)<|zM (v:=ndV n) (AV.cells (ndV n)) (zE tA (zE tA (zG h2))) rfl rfl rfl rfl<|zBc (hbk _ _ hP) (fun h=>by cases h)<|zA (zL q) hP rfl<|zt tT ?_
    refine zA (zL q) hP rfl<|zAz (hf _ _ _ _ _ _ hP) ?_
    exact zaE hD2 hP hP hP (by repeat' (first|exact ho|refine Old.set ?_ tC _|apply Old.push)) hn2 d1 d2
 ·rw [zoj h61] at hc;have hpv:zFE s=zXg:=by
   unfold zFE zAj;rw [zWl (fun x=>h61 x.2)]
  rw [hpv];clear hT hB;refine za (v:=[.str s,.int .i64 0,.int .i64 0]) rfl<|zAV (x:=AV.agg [.str s,.int .i64 0,.int .i64 0]) rfl<|zI (hc _)<|zD<|zAz (hf _ _ _ _ _ _ hP) ?_
  exact zaE hD2 hP hP hP (by repeat' (first|exact ho|refine Old.set ?_ tC _|apply Old.push)) hn2 d1 d2
end
structure ParK2 (PR:Program):Prop extends ParK PR where
 const:zCU PR zBC zEp=true
 parse:zCU PR zAM zB0=true
 clos:zCU PR zAb zEr=true
 dfr:(match PR.funcs[zAM]? with
   |some fn=>(match fn.body with
    |some c=>dfrB 11 c
    |none=>false)
   |none=>false)=true
 rcv:(match PR.funcs[zAb]? with
   |some fn=>(match fn.body with
    |some c=>recB c
    |none=>false)
   |none=>false)=true
theorem zj7 {cs cs':List AV} (h:WkL cs cs'):Wk (.tup cs) (.tup cs'):=fun w M I n v hr=>by
 cases hr with
 |tup _ vs hl hh=>
  refine .tup cs' vs (by rw [h.1];exact hl) fun i c' u hc hu=>?_;have hi:i<cs.length:=by have:=(zl_ hc);rw [h.1] at this;exact this
  exact h.2 i _ _ (zoO hi) hc w M I n u (hh i _ u (zoO hi) hu)
section
variable {PR:Program} {GT:zG_}
theorem zUX (k:ParK2 PR) (s:Bs) (H:Heap):Good PR GT zBC [.str s] H (.bool (decide (s.head?≠some 61))) H:=zF k.hm k.const (zUW (zg7 k.toParK) s H)
theorem zSv (k:ParK2 PR) (x:AV) (n2 n3 n4:Nat) (H H':Heap) (h:EW (Good PR GT) GT fpY (fun e _ H1=>(e=.normal\/e=.ret)/\H1=H') (yFr x n2 n3 n4) H):zOl PR GT zAb [pR n2,pR n3,pR n4] x H H':=
 zaB (L0:=[2,1,0]) (r0:=6) (r1:=3) (Y:=fpY) k.hm k.clos rfl rfl k.rcv h
def fpA:AC:=zEq.first
def fpB:AC:=zEq.rest.first
theorem zhM:zB0.body=.seq fpA (.seq fpB (.seq (.reg [2,3,4,0] false [⟨some 11,none,.mkFn zAb 0,[.tmp 2,.tmp 3,.tmp 4]⟩,⟨none,none,.stuck,[]⟩]) fpC)):=rfl
theorem zUY (k:ParK2 PR) (g:ParG PR GT) (s:Bs) (H:Heap):Good PR GT zAM [.str s] H (zFE s) H:=by
 by_cases hl:s.length<=200
 ·refine zPc (g:=zAb) (G:=zEr) (A:=fpA) (B:=fpB) (C:=fpC) (LR:=[2,3,4,0]) (ts:=[2,3,4]) (s:=11) (xs:=[.tmp 2,.tmp 3,.tmp 4]) k.hm k.parse zhM k.dfr k.clos zD_ rfl ?_;refine zc tF ?_;refine ⟨rfl, ?_⟩;have h:=zhL (C:=Good PR GT) (GT:=GT) (fun x H2 H3=>zOl PR GT zAb [pR H.length,pR (H++[ABlk.box (ndC zU)]).length,pR ((H++[ABlk.box (ndC zU)])++[ABlk.box [.int .i64 0]]).length] x H2 H3) s H (((H++[ABlk.box (ndC zU)])++[ABlk.box [.int .i64 0]])++[ABlk.box [.nili]])
   H.length (H++[ABlk.box (ndC zU)]).length ((H++[ABlk.box (ndC zU)])++[ABlk.box [.int .i64 0]]).length hl
   (fun H2=>zSv k _ _ _ _ _ _ (zd6 _ _ _ _))
   (fun H2 m c3 c4 h2 h3 h4=>zSv k _ _ _ _ _ _ (zd7 _ _ _ _ m c3 c4 h2 h3 h4 zS_ zS_ (zl_ h4)))
   (zUX k) (zIN k.toParK) (zKM k.toParK)
   (fun b H' h61 hb=>by
    have h1:1<=s.length:=by cases s with
     |nil=>cases h61
     |cons c r=>simp
    have:=(p_two (GT:=GT) k.toParK g b s hl _ 1 h1 rfl 0 H' tO hb).2 0 tO;rw [zZ4] at this;exact this)
   (zoR _) zS_ zS_ zS_ hP hP zB (((Old.refl H).push _).push _ |>.push _)
  exact h
 ·have hp:zFE s=zXg:=by
   unfold zFE zAj;rw [zWl (fun x=>hl x.1)]
  rw [hp];refine Good.wk (v:=.tup [ndV zU,.int .i64 0,.iface zd (.int .i64 4)]) rfl (zF k.hm k.parse (zH ?_)) ?_
  ·refine zt tT<|za (v:=(zN 0 0 [])) rfl<|zM (v:=.agg (zN 0 0 [])) (AV.cells (.agg (zN 0 0 []))) hP rfl rfl rfl rfl<|zM (v:=.int .i64 0) [.int .i64 0] hP rfl rfl rfl rfl<|zM (v:=AV.iface zd (.int .i64 4)) [AV.iface zd (.int .i64 4)] hP rfl rfl rfl rfl ?_
   exact zcs (zhJ (a:=2) (b:=3) (c:=4) (s:=12) (ag:=true) rfl rfl (zJ hP) rfl (zJ hP) rfl (zJ hP) rfl rfl rfl hO)
  ·exact zj7 (.cons (.refl _) (.cons (zjq _ _) (.cons (.iface (.undef _)) .nil)))
end
def opL:List Bs:=[[],[61],[60,62],[60],[60,61],[62],[62,61],[38],[43],[45],[42],[47]]
theorem zhN {i:Nat} {t:Bs} (h1:1<=i) (h:opL[i]?=some t):zCE t=i:=by
 rcases i with _|_|_|_|_|_|_|_|_|_|_|_|i
 ·omega
 all_goals first|(cases h;decide)|simp [opL] at h
theorem zhO {t:Bs} (h:∀ j u,1<=j->opL[j]?=some u->u≠t):zCE t=0:=by
 have n:=fun j u a b e=>h j u a b (e:t=u).symm;unfold zCE;rw [zWl (n 1 _ tO rfl),zWl (n 2 _ tO rfl),zWl (n 3 _ tO rfl),zWl (n 4 _ tO rfl),zWl (n 5 _ tO rfl),zWl (n 6 _ tO rfl),zWl (n 7 _ tO rfl),zWl (n 8 _ tO rfl),zWl (n 9 _ tO rfl),zWl (n 10 _ tO rfl),zWl (n 11 _ tO rfl)]
def wrL:List Bs:=[]::wrongs
abbrev pB (s:Bs) (a w e d:Int):ABlk:=.box [.str s,zK a,zK w,zK e,zK d]
abbrev rP (s:Bs) (p d:Nat):ABlk:=pB s p 0 0 d
theorem zhP {n0 b k n:Nat} {xs:List AV} {H:Heap} (h:H[b]?=some (.row k xs)) (hn:xs.length=n) (hb:n0<=b):zDm n0 (.sl (some false) b k 0 n) H=some (.lst (some false) k xs,H.set b (.frz k xs)):=by
 subst hn;have:¬ b<n0:=by omega
 simp only [zDm,this,zot,h];simp [zTb]
section
variable {C:CSpec} {GT:zG_}
theorem zXh (c:UInt8) (H:Heap):EFun C GT zEK [byV c] H (.bool (zh c)) H:=by
 obtain ⟨r,hr⟩:∃ r,zh c=r:=⟨_,rfl⟩;rw [hr];unfold zh at hr;have hc:c.toNat<256:=zmv c;change EFun C GT zEK [.int .u8 (c.toNat:Int)] H (.bool r) H;generalize c.toNat=n at *;refine zH ?_;by_cases h365:n=36
 ·have:r=true:=by rw [<-hr];simp;omega
  subst this;refine sX ?_;exact sRv
 by_cases h618:n<48
 ·have:r=false:=by rw [<-hr];simp;omega
  subst this;refine sX ?_;exact sRv
 by_cases h872:n<=57
 ·have:r=true:=by rw [<-hr];simp;omega
  subst this;refine sX ?_;exact sRv
 by_cases h1125:n<65
 ·have:r=false:=by rw [<-hr];simp;omega
  subst this;refine sX ?_;exact sRv
 by_cases h1380:n<=90
 ·have:r=true:=by rw [<-hr];simp;omega
  subst this;refine sX ?_;exact sRv
 by_cases h1634:n<97
 ·have:r=false:=by rw [<-hr];simp;omega
  subst this;refine sX ?_;exact sRv
 by_cases h1889:n<=122
 ·have:r=true:=by rw [<-hr];simp;omega
  subst this;refine sX ?_;exact zMB (v0:=.bool (decide ((n:Int)<=122))) (zod AV.bool (tT).symm) rfl rfl rfl rfl hO
 ·have:r=false:=by rw [<-hr];simp;omega
  subst this;refine sX ?_;exact zMB (v0:=.bool (decide ((n:Int)<=122))) (zod AV.bool (tF).symm) rfl rfl rfl rfl hO
theorem zaF (op:Nat) (H:Heap) (h:op<=1000):EFun C GT zGG [zL op] H (zL (tight op)) H:=by
 refine zH ?_;unfold tight;by_cases h1:op<=6
 ·rw [zoQ h1];refine sX ?_;exact sRv
 rw [zWl h1];by_cases h2:op=7
 ·rw [zoQ h2];refine sX ?_;exact sRv
 rw [zWl h2];by_cases h3:op<=9
 ·rw [zoQ h3];refine sX ?_;exact sRv
 ·rw [zWl h3];refine sX ?_;exact sRv
theorem zd8 (t:Bs) (H:Heap):EFun C GT zG9 [.str t] H (zL (zCE t)) H:=by
 obtain ⟨r,hr⟩:∃ r,zCE t=r:=⟨_,rfl⟩;rw [hr];refine zH<|zAA (vs':=[.str [],.str [61],.str [60,62],.str [60],.str [60,61],.str [62],.str [62,61],.str [38],.str [43],.str [45],.str [42],.str [47]]) rfl rfl ?_;refine zAr (fun i:Nat=>[(4,zL i),(0,.str t),(3,.sl (some false) H.length 1 0 12)]) (fun i H'=>H'=H++[.row 1 (opL.map AV.str)]/\1<=i/\i<=12/\∀ j u,j<i->1<=j->opL[j]?=some u->u≠t) (fun i=>12-i) 1 rfl ⟨rfl,by omega,by omega,fun j u h h1=>by omega⟩ (fun i H1 ⟨e,h1,hi,hno⟩=>?_)
 subst e;dsimp only;by_cases hlt:i<12
 ·obtain ⟨u,hu⟩:∃ u,opL[i]?=some u:=⟨_,zoO hlt⟩;have hum:(opL.map AV.str)[i]?=some (.str u):=by rw [zoX,hu];rfl
  by_cases he:u=t
  ·have:=zhN h1 hu;rw [he,hr] at this;obtain rfl:=this.symm;refine zIU<|sX ?_;refine sAt ⟨by omega,by omega⟩<|zCs i (.str u) (.str u) zS_ zB hum rfl<|zt (tE he) ?_
   exact sRv
  ·refine zIU<|sX ?_;refine sAt ⟨by omega,by omega⟩<|zCs i (.str u) (.str u) zS_ zB hum rfl<|zc (tN he)<|zQ (r:=i+1) rfl tO ?_;refine zAJ (i+1) rfl ⟨rfl,by omega,by omega,fun j u' hj hj1 hju=>?_⟩ tO
   by_cases e:j=i
   ·grind
   ·exact hno j u' tO hj1 hju
 ·have:r=0:=by
   rw [<-hr];refine zhO fun j u h1 hu=>hno j u ?_ h1 hu;have:=(zl_ hu);have h12:opL.length=12:=rfl;omega
  subst this;refine zIU<|sX ?_
  exact sRv
theorem zd9 (b:Nat) (s:Bs) (p d a w e:Int) (H:Heap) (hb:H[b]?=some (pB s p 0 0 d)) (x':AV) (cs':List AV):zCk C GT zFD [pR b,zK a,zK e] H b cs' x' (some (.tup [],pB s p a e d)):=by
 refine zAH<|sX ?_;refine sS (zK a) [.str s,zK p,zK a,zK 0,zK d] ?_;refine zM (v:=zK e) [.str s,zK p,zK a,zK e,zK d] (zS hb) rfl rfl rfl rfl ?_
 exact zQ9 _ (by first|rfl|assumption) rfl rfl rfl rfl (((OldB.start hb).setB _).setB _) rfl
theorem zXi (hF:∀ b s p d a e H,H[b]?=some (pB s p 0 0 d)->C zl [pR b,zK a,zK e] H (.tup []) (H.set b (pB s p a e d))) (b:Nat) (s:Bs) (p:Int) (d:Nat) (a:Int) (H:Heap) (hb:H[b]?=some (pB s p 0 0 d)) (hd:d<=1000) (x':AV) (cs':List AV) :
  zCk C GT zET [pR b,zK a] H b cs' x' (some (if d=30 then (.bool false,pB s p a 4 d) else (.bool true,pB s p 0 0 (d+1:Nat)))):=by
 have hf:=hF b s p d a 4;clear hF;refine zAH ?_;by_cases h30:d=30
 ·rw [zoQ h30];refine sX ?_;exact sRo
 ·rw [zWl h30];clear hf;refine sX ?_;refine zQ (r:=d+1) rfl tO<|sS (.int .i64 ↑(d+1)) [.str s,zK p,zK 0,zK 0,.int .i64 ↑(d+1)] ?_
  exact sRo
theorem zXj (s:Bs) (H:Heap) (hl:s.length<=1000):EFun C GT zFe [.str s] H (.bool (zA3 s)) H:=by
 obtain ⟨r,hr⟩:∃ r,zA3 s=r:=⟨_,rfl⟩;rw [hr];unfold zA3 at hr;refine zH ?_;by_cases h1:2<=s.length
 ·by_cases h2:s.length<=10
  ·rw [zoj h1,zoj h2,zmN,zmN] at hr;refine sX ?_;refine zAr (fun i:Nat=>[(3,zL i),(0,.str s)]) (fun i H'=>H'=H/\i<=s.length/\(s.drop i).all zO7=r) (fun i=>s.length-i) 0 rfl ⟨rfl,by omega,hr⟩ (fun i H1 ⟨e,hi,hq⟩=>?_);subst e;dsimp only;by_cases hlt:i<s.length
   ·obtain ⟨c,hc⟩:∃ c,s[i]?=some c:=⟨_,zoO hlt⟩;rw [zBh hc,zmu] at hq;unfold zO7 at hq;by_cases g1:c.toNat<65
    ·rw [tF,zmW,zmW] at hq;subst hq;refine sX ?_;exact sRv
    ·by_cases g2:90<c.toNat
     ·rw [tT (by omega:65<=c.toNat),tF,zmN,zmW] at hq;subst hq;refine sX ?_;exact sRv
     ·rw [tT (by omega:65<=c.toNat),tT (by omega:c.toNat<=90),zmN,zmN] at hq;refine sX ?_;refine zQ (r:=i+1) rfl tO ?_;exact zAJ (i+1) rfl ⟨rfl,by omega,hq⟩ tO
   ·rw [zmM tO] at hq;have hq:true=r:=hq;subst hq;refine sX ?_;exact sRv
  ·rw [zop h2,Bool.and_false,zmW] at hr;subst hr;refine sX ?_;exact sRv
 ·rw [zop h1,zmW,zmW] at hr;subst hr;refine sX ?_;exact sRv
theorem zXk (H:Heap):EFun C GT zFd [] H (.lst (some false) 1 (wrL.map AV.str)) H:=by
 refine zH<|zAA (vs':=[.str [],.str [35,68,73,86,33],.str [35,86,65,76,85,69,33],.str [35,82,69,70,33],.str [35,78,65,77,69,33],.str [35,78,85,77,33],.str [35,78,79,78,69,33]]) rfl rfl ?_
 exact zIw rfl rfl (zhP zB rfl (zoR _)) rfl hO
end
end Go.AM
