/- Several texts of mine in one (Am23, Err, Am25, Am27, Am29, Am30, Am24, Am35). Own work. -/
import Derived.Test.YtmfmhljpddpfnaaGreatDoorGAm20Ln
import Derived.Below
import Derived.Test.YtmfmhljpddpfnaaGreatDoorLc
import Derived.WideShapes
set_option linter.all false
namespace Go.AM
open Go.RowKit
theorem zQ4 {P:Program} {GT:zG_} {w:World} {M:AMap} {I:Nat->Prop} {H H':Heap} {f:FuncId} {fn:Func} {args:List AV} {cargs:List Value} {v:AV}
    (hf:P.funcs[f]?=some fn) (hname:(fn.name == "runtime.NumGoroutine")=false) (hb:fn.body.isSome=true) (hg:Good P GT f args H v H') (hS:Sim GT w M I H) (hA:zED w M I H.length args cargs) :
    Calls P f cargs.toArray w fun e w'=>∃ v',e=.returned v'/\∃ M' I',Grow w M I H w' M' I' H'/\Sim GT w' M' I' H'/\Rel w' M' I' H'.length v v':=by
  have h1:fn.name ≠ "runtime.NumGoroutine" := by simpa using hname
  obtain ⟨c,hb⟩:=zmL.1 hb;have hrun:(callFunc f cargs.toArray).run P w=.ok (.enter f cargs.toArray) w:=by simp [callFunc,hf,h1,hb]
  have h:=hg.n hA w M I cargs hS hA;rw [hrun] at h;exact h
def zFn (w:World):Nat->Prop:=fun k=>k<w.heap.size
theorem zQ5 {w w':World} {M M':AMap} {I I':Nat->Prop} {H':Heap} (h:Grow w M I [] w' M' I' H'):Below w.heap.size w w':=
  ⟨h.os,h.tape,h.output,h.size,fun k hk=>h.frame k hk (by rintro ⟨b,x,o,hb,_⟩;simp at hb)⟩
theorem zdN (w:World) (M:AMap) (I:Nat->Prop) (n:Nat):zED w M I n [] []:=⟨rfl,fun i c v h=>by simp at h⟩
theorem zOb {w:World} {M:AMap} {I:Nat->Prop} {n:Nat} {x:AV} {v:Value} {xs:List AV} {vs:List Value} (h:Rel w M I n x v) (hs:zED w M I n xs vs):zED w M I n (x::xs) (v::vs):=
  ⟨by rw [zoN,zoN,hs.1],fun i c u hc hu=>by
    cases i with
    |zero=>grind
    |succ i=>simp only [znA] at hc hu;exact hs.2 i c u hc hu⟩
theorem zUD (w:World) (M:AMap) (I:Nat->Prop) (n:Nat) (s:ByteArray):Rel w M I n (.str s.data.toList) (.string s):=.str s.data.toList
theorem zLe {w:World} {M:AMap} {I:Nat->Prop} {n:Nat} {s:List UInt8} {v:Value} (h:Rel w M I n (.str s) v):v=.string ⟨s.toArray⟩:=by cases h;rfl
theorem zIG {w:World} {M:AMap} {I:Nat->Prop} {n:Nat} {k:IntKind} {m:Int} {v:Value} (h:Rel w M I n (.int k m) v):v=.int k m:=by cases h;rfl
theorem zJh {w:World} {M:AMap} {I:Nat->Prop} {n:Nat} {x:AV} {vs:List Value} (h:zED w M I n [x] vs):∃ v,vs=[v]/\Rel w M I n x v:=by
  obtain ⟨hl,h⟩:=h;obtain ⟨v,rfl⟩:=zn2.1 hl.symm;exact ⟨v,rfl,h 0 x v rfl rfl⟩
theorem zdO {w:World} {M:AMap} {I:Nat->Prop} {n:Nat} {x y:AV} {vs:List Value} (h:zED w M I n [x,y] vs):∃ v u,vs=[v,u]/\Rel w M I n x v/\Rel w M I n y u:=by
  obtain ⟨hl,h⟩:=h
  match vs,hl with
  |[v,u],_=>exact ⟨v,u,rfl,h 0 x v rfl rfl,h 1 y u rfl rfl⟩
theorem zIH {GT:zG_} {w w':World} {M:AMap} {I:Nat->Prop} {H:Heap} (hS:Sim GT w M I H) (h:Below w.heap.size w w'):Grow w M I H w' M I H/\Sim GT w' M I H:=by
  have hb:∀ k,k<w.heap.size->w'.heap[k]?=w.heap[k]?:=fun k hk=>h.block k hk;have hs:∀ g s,w.shape? g=some s->w'.shape? g=some s:=fun g s hg=>by
    have hlt:g<w.heap.size:=by
      unfold World.shape? at hg;split at hg
      · grind
      · cases hg
    rw [zBB (hb g hlt)];exact hg
  refine ⟨⟨h.os,h.tape,h.output,h.size,fun _ _=>rfl,fun _ h=>h,fun _ h _=>.inl h,fun k hk _=>hb k hk,fun _ _ h=>h,hs,zoR _⟩, ?_⟩;refine ⟨fun g x hg=>(hS.glob g x hg).mono (fun _ h=>h) (fun k hk=>hb k (hS.idom k hk)) (fun _ _=>rfl) (zoR _) hs,fun k hk=>zo3 (hS.idom k hk) h.size,fun b x hx=>?_,hS.inj,fun g x hg=>(hS.shp g x hg).imp fun e h=>hs g _ h⟩;exact (hS.blk b x hx).mono (zl_ hx) (fun _ h=>h) (fun k hk=>hb k (hS.idom k hk)) (fun _ _=>rfl) (zoR _) hs (fun g o hM hm=>hb g (hS.live_lt ⟨b,x,o,hx,hm,hM⟩)) (fun _ _ _ _ h=>h)
theorem zEv {P:Program} {GT:zG_} {f:FuncId} {fn:Func} {args:List AV} {H:Heap} {v:AV} (hf:P.funcs[f]?=some fn) (hname:(fn.name == "runtime.NumGoroutine")=false) (hb:fn.body.isSome=true)
    (h:∀ (w:World) (M:AMap) (I:Nat->Prop) (cargs:List Value),Sim GT w M I H->zED w M I H.length args cargs->Calls P f cargs.toArray w fun e w'=>∃ v',e=.returned v'/\Below w.heap.size w w'/\Rel w' M I H.length v v') (hn:zIt args=true:=by first|rfl|exact Go.AM.zHU (by assumption)|exact Go.AM.zN4 (by assumption)|exact Go.AM.zN5 (by assumption)):Good P GT f args H v H:=by
  refine zIu hn ?_;intro w M I cargs hS hA;have h1:fn.name ≠ "runtime.NumGoroutine" := by simpa using hname
  obtain ⟨c,hb⟩:=zmL.1 hb;have hrun:(callFunc f cargs.toArray).run P w=.ok (.enter f cargs.toArray) w:=by simp [callFunc,hf,h1,hb]
  rw [hrun];exact (h w M I cargs hS hA).mono fun e w' ⟨v',he,hB,hR⟩=>⟨v',he,M,I,(zIH hS hB).1,(zIH hS hB).2,hR⟩
theorem zVc {w:World} {M:AMap} {I:Nat->Prop} {n:Nat} {a v:Value} (h:Rel w M I n (.raw a) v):v=a:=by cases h;rfl
theorem zZS {P:Program} {f:FuncId} {fn:Func} {args:Array Value} {w:World} (hf:P.funcs[f]?=some fn) (hname:(fn.name == "runtime.NumGoroutine")=false) (hb:fn.body.isSome=true):(callFunc f args).run P w=.ok (.enter f args) w:=by
  have h1:fn.name ≠ "runtime.NumGoroutine" := by simpa using hname
  obtain ⟨c,hb⟩:=zmL.1 hb;simp [callFunc,hf,h1,hb]
theorem zUE {GT:zG_} {w:World} {M:AMap} {I:Nat->Prop} {H:Heap} (hS:Sim GT w M I H) {b g o:Nat} {c x:AV} {v:Value} (hb:H[b]?=some (.box [c])) (hM:M b=some (g,o)) (hr:∀ w,Rel w M I H.length x v) :
    Grow w M I H (w.setCell ⟨g,o,none⟩ v) M I (H.set b (.box [x]))/\Sim GT (w.setCell ⟨g,o,none⟩ v) M I (H.set b (.box [x])):=by
  obtain ⟨g',o',cur,h1,⟨e,fz,hg,hfz⟩,h3,h4,h5⟩:=hS.blk b _ hb;rw [hM] at h1;simp only [zoS,zob] at h1;obtain ⟨rfl,rfl⟩:=h1;have hlt:=(zoo.1 hg).1;have hh:(w.setCell ⟨g,o,none⟩ v).heap=w.heap.setIfInBounds g (.cells (cur.setIfInBounds o v) e fz):=by
    apply zm3;intro i;simp only [World.setCell,zmo,zos];by_cases hi:g=i
    · grind
    · simp [hi]
  refine Sim.write hS hb rfl hM hg zS_ hh rfl rfl rfl ⟨g,o,cur.setIfInBounds o v,hM,⟨e,fz, ?_, ?_⟩,h3, ?_,fun j c' hj=>?_⟩
  · grind
  · simpa using hfz
  · simpa using h4
  · cases j with
    | zero=>
      simp only [zmc,zoS] at hj;subst hj;refine ⟨v, ?_,hr _⟩;simp only [zoN,zoT] at h4;rw [zmz,zos,zoQ rfl,zoQ tO]
    |succ j=>simp at hj
def zFo (n:Int):AV:=.iface zd (.int .i64 n)
def zK (n:Int):AV:=.int .i64 n
def zjm (x:AV) (n:Int):Prop:=(x=.nili/\n=0)\/x=zFo n
structure retQ (F:AF) (H:Heap) (fr:Fr) (H1:Heap) (Q:AV->Heap->Prop):Prop where
  h:∃ v H',zHM F H fr H1 v H'/\Q v H'
theorem zLf {F:AF} {H:Heap} {fr:Fr} {H1:Heap} {Q:AV->Heap->Prop} {v:AV} {H':Heap} (h:retP F H fr H1 v H') (q:Q v H'):retQ F H fr H1 Q:=⟨v,H',zVS.1 h,q⟩
def zf2 (F:AF) (H:Heap) (v:AV) (H':Heap):Post:=fun e fr H1=>match e with
    |.normal=>retP F H fr H1 v H'
    |.ret=>retP F H fr H1 v H'
    |_=>False
theorem zH {C:CSpec} {GT:zG_} {F:AF} {args:List AV} {H:Heap} {v:AV} {H':Heap} (h:EW C GT F.body (zf2 F H v H') (zGR 0 args) H):EFun C GT F args H v H':=h
def finQ (F:AF) (H:Heap) (Q:AV->Heap->Prop):Post:=fun e fr H1=>match e with
    |.normal=>retQ F H fr H1 Q
    |.ret=>retQ F H fr H1 Q
    |_=>False
def zDv (C:CSpec) (GT:zG_) (F:AF) (args:List AV) (H:Heap) (Q:AV->Heap->Prop):Prop:=EW C GT F.body (finQ F H Q) (zGR 0 args) H
def AC.rest:AC->AC
  |.seq _ b=>b
  |c=>c
def AC.first:AC->AC
  |.seq a _=>a
  |c=>c
def AC.body:AC->AC
  |.block _ _ c=>c
  |.loop _ c=>c
  |c=>c
def AC.behind (c:AC):Nat->AC
  |0=>c
  |n+1=>(c.behind n).rest
theorem zQ6 {C:CSpec} {GT:zG_} {F:AF} {args:List AV} {H:Heap} {Q:AV->Heap->Prop} (hd:det F.body=true) (h:zDv C GT F args H Q):∃ v H',Q v H'/\AFun C GT F args H v H':=by
  have h1:AW C GT F.body (fun e fr H1=>match e with
      |.normal=>∃ v H',zHM F H fr H1 v H'/\Q v H'
      |.ret=>∃ v H',zHM F H fr H1 v H'/\Q v H'
      |_=>False) (zGR 0 args) H:=by
    refine zFs _ _ _ _ _ H rfl (fun e f f' H1 hf h=>?_) h;have:retQ F H f H1 Q->∃ v H',zHM F H f' H1 v H'/\Q v H':=fun ⟨v,H',h,q⟩=>⟨v,H',by
      unfold zHM at h ⊢;rw [<-zFQ hf];exact h,q⟩
    cases e with
    |normal=>exact this h
    |ret=>exact this h
    |_=>exact h
  obtain ⟨e,fr',H1,hk,hall⟩:=zY6 _ hd _ _ _ h1;cases e with
  |normal=>obtain ⟨v,H',hr,hq⟩:=hk;exact ⟨v,H',hq,hall _ hr⟩
  |exit id=>exact hk.elim
  |goto l=>exact hk.elim
  |pan x=>exact hk.elim
  |ret=>obtain ⟨v,H',hr,hq⟩:=hk;exact ⟨v,H',hq,hall _ hr⟩
theorem zDe {P:Program} {GT:zG_} (hm:P.follows .mixedOrders=true) {f:FuncId} {F:AF} (hc:zCU P f F=true) {args:List AV} {H:Heap} {Q:AV->Heap->Prop} (h:zDv (Good P GT) GT F args H Q) (hn:zIt args=true:=by first|rfl|exact Go.AM.zHU (by assumption)|exact Go.AM.zN4 (by assumption)|exact Go.AM.zN5 (by assumption)) (hd:det F.body=true:=by rfl):∃ v H',Q v H'/\Good P GT f args H v H':=by
  obtain ⟨v,H',hq,ha⟩:=zQ6 hd h;exact ⟨v,H',hq,zKd hm hc ha hn⟩
theorem shr1 (s:Nat):zCT .shr .u64 (s:Int) 1=some (.int .u64 ((s/2:Nat):Int)):=by
  simp only [zCT];rw [zWl tO];have:(2:Int)^Nat.min (1:Int).toNat IntKind.u64.bits=2:=by rfl
  rw [this,znJ _ tO];rfl
theorem zDf {x:Int} {r:Nat} {K:Int->Prop} (h:x=r) (hr:r<=9223372036854775807) (k:K (r:Int)):valP (IntKind.wrap .u64 x) K:=
  zCl (by rw [IntWalk.u64_in x tO,h]) k
theorem Owns.apart {H0 H:Heap} {v w:AV} {k k':Nat} {xs ys:List AV} (h:Owns H0 H v k xs) (g:Owns H0 H w k' ys) (hne:∀ x y,x∈xs->y∈ys->x≠y) {b:Nat} (hb:w.blk=some b):v.blk≠some b:=by
  intro e;rcases h with ⟨rfl,_⟩|⟨b1,rfl,_,h2,h3⟩
  · cases e
  · rcases g with ⟨rfl,_⟩|⟨b2,rfl,_,g2,g3⟩
    · cases hb
    · simp only [AV.blk,zoS] at e hb
      subst e;subst hb;rw [h2] at g2;simp only [zoS,ABlk.row.injEq] at g2;obtain ⟨_,rfl⟩:=g2;cases xs with
      |nil=>exact h3 rfl
      |cons x xs=>exact hne x x zS_ zS_ rfl
theorem Owns.after {H0 H H':Heap} {v w:AV} {k:Nat} {ys:List AV} (hw:Owns H0 H w k ys) (hap:∀ b,w.blk=some b->v.blk≠some b) (hfr:∀ c x,v.blk≠some c->H[c]?=some x->H'[c]?=some x):Owns H0 H' w k ys:=
  hw.keep fun b x hb hx=>hfr b x (hap b hb) hx
def zSe:AC->Option (List Nat)
  |.reg L _ _=>some L
  |.seq a _=>zSe a
  |.block _ _ c=>zSe c
  |.loop L _=>some L
  |.regt L _ _ _=>some L
  |.scope _ _ c _=>zSe c
  |_=>none
theorem zgl {C:CSpec} {GT:zG_} {fr F:Fr} {H:Heap} {L:List Nat} (hr:zT fr L=zT F L):∀ (c:AC) (K:Post),zSe c=some L->EW C GT c K F H->EW C GT c K fr H:=by
  intro c;induction c with
  | reg L' d ops=>
    intro K h g;simp only [zSe,zoS] at h;subst h;replace g:EWops C GT ops [] (zT F L') H (fun fr' H'=>K .normal fr' H'):=g;rw [<-hr] at g;exact g
  |seq a b iha ihb=>intro K h g;exact iha (zWb (EW C GT b K) K) h g
  |block id L' c ih=>intro K h g;exact ih (zLI id L' K) h g
  | loop L' c ih=>
    intro K h g;simp only [zSe,zoS] at h;subst h;replace g:loopP C GT L' c K (zT F L') H:=g;rw [<-hr] at g;exact g
  | regt L' d ops t=>
    intro K h g;simp only [zSe,zoS] at h;subst h;replace g:EWT C GT ops t [] (zT F L') H (fun fr' H'=>K .normal fr' H') (fun x H'=>K (.pan x) [] H'):=g;rw [<-hr] at g;exact g
  |scope L' l c r ihc ihr=>intro K h g;exact ihc (zQe l (fun fr' H'=>gotoP C GT L' l r K (zT fr' L') H') K) h g
  |label=>intro K h;cases h
  |goto=>intro K h;cases h
  |skip=>intro K h;cases h
  |cond=>intro K h;cases h
  |exit=>intro K h;cases h
  |ret=>intro K h;cases h
  |stuck=>intro K h;cases h
theorem zPX {C:CSpec} {GT:zG_} {c:AC} {K:Post} {L:List Nat} {fr F:Fr} {H:Heap} (hc:zSe c=some L) (g:EW C GT c K F H) (hr:zT fr L=zT F L):zWb (EW C GT c K) K .normal fr H:=
  zgl hr c K hc g
def zL (k:Nat):AV:=.int .i64 k
theorem zM {b k s o:Nat} {v:AV} {cs:List AV} (cs':List AV) {H:Heap} {K:AV->Heap->Prop} (h:H[b]?=some (.box cs)) (hl:v.cells.length=s) (h1:v.cells.all AV.one=true) (ho:Nat.ble (o+s) cs.length=true) (he:splice cs o v.cells=cs')
    (q:K .undef (H.set b (.box cs'))):actP (.store s) [.ref b k 0 o,v] H K:=
  zZH h hl h1 (Nat.le_of_ble_eq_true ho) (by rw [he];exact q)
theorem zCS.one {v:AV} {k:Nat} {xs:List AV} (h:zCS v k xs):v.cells=[v]/\v.one=true:=by obtain ⟨q,k',rfl,_⟩:=h;exact ⟨rfl,rfl⟩
theorem Owns.one {H0 H:Heap} {v:AV} {k:Nat} {xs:List AV} (h:Owns H0 H v k xs):v.cells=[v]/\v.one=true:=by
  rcases h with ⟨rfl,_⟩|⟨b',rfl,_⟩ <;> exact ⟨rfl,rfl⟩
theorem zAU {F:AF} {a s:Nat} {ag:Bool} {H H1:Heap} {fr:Fr} {v:AV} {cs:List AV} {o:Nat} (hF:F.results=[.cell a s ag]) (hk:F.keep=false) (hp:zy H1 (zMk fr a)=some (cs,o)) (hpt:part cs o s ag=some v)
    (hf:zDm H.length v H1=some (v,H1)) (hb:v.bel H.length=true) (ho:Old H H1):retP F H fr H1 v H:=by
  refine zAQ hk ?_ hf hb ho;rw [zFA] at hp;simp only [hF,zBd,zKS,hp,hpt,zoe];rfl
def Wk (x x':AV):Prop:=∀ (w:World) (M:AMap) (I:Nat->Prop) (n:Nat) (v:Value),Rel w M I n x v->Rel w M I n x' v
theorem Wk.refl (x:AV):Wk x x:=fun _ _ _ _ _ h=>h
theorem Wk.undef (x:AV):Wk x .undef:=fun _ _ _ _ _ _=>.undef _
theorem Wk.iface {t:TypeId} {x x':AV} (h:Wk x x'):Wk (.iface t x) (.iface t x'):=fun w M I n v hr=>by
  cases hr with
  |iface _ _ u hu=>exact .iface t x' u (h w M I n u hu)
def WkL (cs cs':List AV):Prop:=cs'.length=cs.length/\∀ (j:Nat) (c c':AV),cs[j]?=some c->cs'[j]?=some c'->Wk c c'
theorem WkL.refl (cs:List AV):WkL cs cs:=⟨rfl,fun j c c' h h'=>by rw [h] at h';cases h';exact .refl c⟩
theorem WkL.nil:WkL [] []:=.refl []
theorem WkL.cons {x x':AV} {cs cs':List AV} (h:Wk x x') (k:WkL cs cs'):WkL (x::cs) (x'::cs'):=by grind +locals
theorem Wk.agg {cs cs':List AV} (h:WkL cs cs'):Wk (.agg cs) (.agg cs'):=fun w M I n v hr=>by
  cases hr with
  | agg _ vs hl hv=>
    refine .agg cs' vs (by rw [h.1,hl]) fun i c u hc hu=>?_;have hi:=(zl_ hc);have hi2:i<cs.length:=by rw [<-h.1];exact hi
    exact h.2 i _ c (zoO hi2) hc w M I n u (hv i _ u (zoO hi2) hu)
section
variable {GT:zG_} {w w0:World} {M M0:AMap} {I I0:Nat->Prop} {H H0:Heap} {b:Nat} {cs cs':List AV}
theorem zQ7 (hb:H[b]?=some (.box cs)) {c:Nat} {x:ABlk} (h:(H.set b (.box cs'))[c]?=some x) (hm:x.mut=true):∃ y,H[c]?=some y/\y.mut=true:=by
  by_cases e:b=c
  · subst e;exact ⟨_,hb,rfl⟩
  · grind
theorem Sim.weak (h:Sim GT w M I H) (hb:H[b]?=some (.box cs)) (hk:WkL cs cs'):Sim GT w M I (H.set b (.box cs')):=by
  refine ⟨h.glob,h.idom,fun c x hc=>?_,fun c c' x x' g o o' h1 m1 h2 m2 e1 e2=>?_,h.shp⟩
  · rw [zoW]
    by_cases e:b=c
    · subst e
      rw [zl3 (zl_ hb)] at hc;cases hc;obtain ⟨g,o,cur,h1,h2,h3,h4,h5⟩:=h.blk b _ hb;refine ⟨g,o,cur,h1,h2,h3,by rw [hk.1];exact h4,fun j c hj=>?_⟩;have hi:j<cs.length:=by rw [<-hk.1];exact (zl_ hj)
      obtain ⟨v,hv,hr⟩:=h5 j _ (zoO hi);exact ⟨v,hv,hk.2 j _ c (zoO hi) hj _ _ _ _ _ hr⟩
    · rw [zo7 e] at hc
      exact h.blk c x hc
  · obtain ⟨y,h3,m3⟩:=zQ7 hb h1 m1
    obtain ⟨y',h4,m4⟩:=zQ7 hb h2 m2;exact h.inj c c' y y' g o o' h3 m3 h4 m4 e1 e2
theorem Grow.weak (h:Grow w0 M0 I0 H0 w M I H) (hb:H[b]?=some (.box cs)):Grow w0 M0 I0 H0 w M I (H.set b (.box cs')):=
  ⟨h.os,h.tape,h.output,h.size,h.map,h.imm,h.imm',h.frame,fun k hk ⟨c,x,o,h1,h2,h3⟩=>by
    obtain ⟨y,h4,m4⟩:=zQ7 hb h1 h2;exact h.live k hk ⟨c,y,o,h4,m4,h3⟩,h.shape,by rw [zoW];exact h.len⟩
end
theorem zt {b:Bool} {A B:Prop} (h:b=true) (a:A):condP b A B:=by subst h;exact zD a
theorem zc {b:Bool} {A B:Prop} (h:b=false) (a:B):condP b A B:=by subst h;exact zC a
theorem zOc {H:Heap} {b:Nat} {x:ABlk} (h:b<H.length):(H.set b x)[b]?=some x:=zl3 h
theorem hP {P:Prop} (h:P:=by first|(with_reducible (repeat' (first|assumption|exact zB|refine zG ?_|(apply zOc;exact tC)|refine zE tA ?_));done)|((repeat' (first|assumption|exact zB|exact zOc tC|refine zG ?_|refine zE tA ?_));done)):P:=h
theorem zQ8 {H:Heap} {b:Nat} {B:ABlk} (h:H[b]?=some B):H.set b B=H:=by
  apply zm8;intro c;by_cases e:b=c
  · grind
  · rw [zo7 e]
theorem zj {F:AF} {a s t:Nat} {ag:Bool} {H H1:Heap} {fr:Fr} {v v1:AV} {cs:List AV} {o:Nat} (hF:F.results=[.cell a s ag,.tmp t]) (hk:F.keep=false) (hp:zy H1 (zMk fr a)=some (cs,o)) (hpt:part cs o s ag=some v) (ht:zMk fr t=v1)
    (hf:zDm H.length (.tup [v,v1]) H1=some (.tup [v,v1],H1)) (hb:(AV.tup [v,v1]).bel H.length=true) (ho:Old H H1):retP F H fr H1 (.tup [v,v1]) H:=by
  refine zAQ hk ?_ hf hb ho;rw [zFA] at hp ht;simp only [hF,zBd,zKS,hp,hpt,ht,zoe];rfl
theorem zjn {GT:zG_} {fr:Fr} {g:Nat} {x:AV} {H:Heap} {s:Nat} {ag:Bool} {K:AV->Prop} (r:AV) (h:GT g=some x) (hr:part x.cells 0 s ag=some r) (k:K r):loadN s ag (evF GT fr (.glob g)) H K:=by
  have e:evF GT fr (.glob g)=.lref x 0:=by simp only [evF,h]
  rw [e];exact z8 r hr k
structure OldB (H:Heap) (b:Nat) (B:ABlk) (H1:Heap):Prop where
  lt:b<H.length
  old:Old (H.set b B) H1
theorem OldB.start {H:Heap} {b:Nat} {B:ABlk} (h:H[b]?=some B):OldB H b B H:=by
  obtain ⟨h1,h2⟩:=zg h;refine ⟨h1,by rw [zoW];exact zoR _,fun c _=>?_⟩;by_cases e:b=c
  · grind
  · rw [zo7 e]
theorem OldB.push {H H1:Heap} {b:Nat} {B:ABlk} (h:OldB H b B H1) (x:List ABlk):OldB H b B (H1++x):=⟨h.lt,h.old.push x⟩
theorem OldB.set {H H1:Heap} {b:Nat} {B:ABlk} (h:OldB H b B H1) {c:Nat} (hc:H.length<=c) (x:ABlk):OldB H b B (H1.set c x):=⟨h.lt,h.old.set (by rw [zoW];exact hc) x⟩
theorem OldB.setB {H H1:Heap} {b:Nat} {B:ABlk} (h:OldB H b B H1) (B':ABlk):OldB H b B' (H1.set b B'):=by
  have hl:=h.old.1;rw [zoW] at hl;refine ⟨h.lt,by rw [zoW,zoW];exact hl,fun c hc=>?_⟩;rw [zoW] at hc;by_cases e:b=c
  · grind
  · have:=h.old.2 c (by rw [zoW];exact hc)
    rw [zo7 e] at this;rw [zo7 e,zo7 e,this]
theorem OldB.ok {H H1:Heap} {b:Nat} {B:ABlk} (h:OldB H b B H1) (hc:zHL H.length B=true):zWc H H1:=fun c hc'=>by
  have:=h.old.2 c (by rw [zoW];exact hc');by_cases e:b=c
  · grind
  · grind
theorem OldB.take {H H1:Heap} {b:Nat} {B:ABlk} (h:OldB H b B H1):H1.take H.length=H.set b B:=by
  have:=h.old.take
  rwa [zoW] at this
structure retR (F:AF) (H:Heap) (fr:Fr) (H1:Heap) (b:Nat) (r:Option (AV×ABlk)):Prop where
  h:∃ v B,r=some (v,B)/\zHM F H fr H1 v (H.set b B)
structure panR (F:AF) (H:Heap) (b:Nat) (cs':List AV) (x':AV) (r:Option (AV×ABlk)) (x0:AV) (H1:Heap):Prop where
  h:r=none/\∃ x cs,panF F H x0 H1 x (H.set b (.box cs))/\b<H.length/\WkL cs cs'/\Wk x x'
def zJ1 (F:AF) (H:Heap) (b:Nat) (cs':List AV) (x':AV) (r:Option (AV×ABlk)):Post:=fun e fr H1=>match e with
  |.normal=>retR F H fr H1 b r
  |.ret=>retR F H fr H1 b r
  |.pan x0=>panR F H b cs' x' r x0 H1
  |_=>False
def zCk (C:CSpec) (GT:zG_) (F:AF) (args:List AV) (H:Heap) (b:Nat) (cs':List AV) (x':AV) (r:Option (AV×ABlk)):Prop:=EW C GT F.body (zJ1 F H b cs' x' r) (zGR 0 args) H
theorem zAH {C:CSpec} {GT:zG_} {F:AF} {args:List AV} {H:Heap} {b:Nat} {cs':List AV} {x':AV} {r:Option (AV×ABlk)} (h:EW C GT F.body (zJ1 F H b cs' x' r) (zGR 0 args) H):zCk C GT F args H b cs' x' r:=h
theorem zQ9 {F:AF} {H H1 H2:Heap} {fr:Fr} {b:Nat} {r:Option (AV×ABlk)} (v0:AV) {v:AV} {B:ABlk} (hr:r=some (v,B)) (hk:F.keep=false) (hs:(zBd fr H1 F.results).map tupled=some v0) (hf:zDm H.length v0 H1=some (v,H2))
    (hb:v.bel H.length=true) (ho:OldB H b B H2) (hc:zHL H.length B=true):retR F H fr H1 b r:=by
  refine ⟨v,B,hr, ?_⟩;unfold zHM;cases hs':zBd fr H1 F.results with
  |none=>rw [hs'] at hs;cases hs
  | some vs=>
    rw [hs'] at hs;simp only [zoe,zoS] at hs;subst hs;simp only [hk,hf,zoZ,zot];exact ⟨hb,ho.ok hc,trivial,ho.take.symm⟩
theorem zAC {F:AF} {a s:Nat} {ag:Bool} {H H1 H2:Heap} {fr:Fr} {b:Nat} {r:Option (AV×ABlk)} (v0:AV) {v:AV} {B:ABlk} (hr:r=some (v,B)) (hF:F.results=[.cell a s ag]) (hk:F.keep=false) {cs:List AV} {o:Nat} (hp:zy H1 (zMk fr a)=some (cs,o)) (hpt:part cs o s ag=some v0)
    (hf:zDm H.length v0 H1=some (v,H2)) (hb:v.bel H.length=true) (ho:OldB H b B H2) (hc:zHL H.length B=true):retR F H fr H1 b r:=by
  refine zQ9 v0 hr hk ?_ hf hb ho hc;rw [zFA] at hp;simp only [hF,zBd,zKS,hp,hpt,zoe];rfl
theorem zjo {F:AF} {H H1:Heap} {b:Nat} {cs cs':List AV} {x x':AV} {r:Option (AV×ABlk)} (hr:r=none) (hk:F.keep=false) (hf:zDm H.length x H1=some (x,H1)) (hb:x.bel H.length=true) (ho:OldB H b (.box cs) H1) (hc:zHL H.length (.box cs)=true)
    (hw:WkL cs cs') (hx:Wk x x'):panR F H b cs' x' r x H1:=by
  refine ⟨hr,x,cs, ?_,ho.lt,hw,hx⟩;unfold panF;simp only [hk,hf,zoZ,zot];exact ⟨hb,ho.ok hc,trivial,ho.take.symm⟩
theorem zAo {P:Program} {GT:zG_} (hm:P.follows .mixedOrders=true) {f:FuncId} {F:AF} (hc:zCU P f F=true) {args:List AV} {H:Heap} {b:Nat} {cs':List AV} {x':AV} {r:Option (AV×ABlk)} (h:zCk (Good P GT) GT F args H b cs' x' r) (hn:zIt args=true:=by rfl) :
    (∀ v B,r=some (v,B)->Good P GT f args H v (H.set b B))/\(r=none->Good P GT f (.pan .undef::args) H x' (H.set b (.box cs'))):=by
  constructor
  · intro v B hr
    subst hr;refine zKd hm hc ?_ hn;unfold AFun;refine zFs _ _ _ _ _ H rfl (fun e f f' H1 hf h=>?_) h;have:retR F H f H1 b (some (v,B))->zHM F H f' H1 v (H.set b B):=fun ⟨v',B',e,h⟩=>by
      cases e;unfold zHM at h ⊢;rw [<-zFQ hf];exact h
    cases e with
    |normal=>exact this h
    |ret=>exact this h
    |pan x=>exact absurd h.h.1 zS_
    |_=>exact h
  · intro hr
    subst hr;have h1:AW (Good P GT) GT F.body (fun e fr H1=>match e with
        |.pan x0=>panR F H b cs' x' none x0 H1
        |_=>False) (zGR 0 args) H:=by
      refine zFs _ _ _ _ _ H rfl (fun e f f' H1 hf h=>?_) h;have:retR F H f H1 b none->False:=fun ⟨v',B',e,h⟩=>by cases e
      cases e with
      |normal=>exact this h
      |ret=>exact this h
      |pan x=>exact h
      |_=>exact h
    unfold zCU at hc;split at hc
    case h_2=>cases hc
    rename_i fn hfn;simp only [zTo,zmD] at hc;obtain ⟨hname,hc⟩:=hc;split at hc
    case h_2=>cases hc
    rename_i c hbody;simp only [zTo] at hc;show zi2 P GT f args H x' (H.set b (.box cs'));intro w M I cargs hS hA;have h2:fn.name ≠ "runtime.NumGoroutine" := by simpa using hname
    have hrun:(callFunc f cargs.toArray).run P w=.ok (.enter f cargs.toArray) w:=by simp [callFunc,hfn,h2,hbody]
    rw [hrun];refine calls_of_wp hfn hbody ?_;refine zLC hm F.body c _ _ w M I H (zGR 0 args) _ hc.1 hS (zLD hS hA) h1 ?_;intro e E fr' H1 a' w' M' I' hG hS' hF' hE hK;cases e with
    | pan x0=>
      obtain ⟨xv,rfl,hr⟩:=hE;obtain ⟨_,x,cs,hp,hlt,hw,hx⟩:=hK.h;obtain ⟨I2,h3,h4,h5⟩:=zW0 hS hG hS' hr hp;have hbk:(H.set b (.box cs))[b]?=some (.box cs):=zl3 hlt;have h6:=h4.weak hbk hw;have h7:=h3.weak (cs':=cs') hbk;rw [znr] at h6 h7;refine ⟨hF'.defers,xv,rfl,M',I2,h7,h6, ?_⟩;rw [zoW] at h5 ⊢;exact hx _ _ _ _ _ h5
    |_=>exact hK.elim
inductive Sh where
  |bool
  |int (k:IntKind)
  |str
  |sl (ag:Bool) (es:List Sh)
  deriving Inhabited
def formed (ag:Bool) (x:AV):Prop:=
  match ag with
  |true=>∃ cs,x=.agg cs
  |false=>x.cells=[x]
inductive Fits:Sh->AV->Prop where
  |bool (b:Bool):Fits .bool (.bool b)
  |int (k:IntKind) (n:Int) (h:(Lit.int k n).wf=true):Fits (.int k) (.int k n)
  |str (s:List UInt8) (h:s.length<=maxLen):Fits .str (.str s)
  |sl (ag:Bool) (es:List Sh) (q:Bool) (xs:List AV) (hl:xs.length<=maxLen) (hq:q=true->xs=[]) (h1:∀ x∈xs,x.cells.length=es.length/\formed ag x)
      (h2:∀ x∈xs,∀ (i:Nat) (s:Sh) (c:AV),es[i]?=some s->x.cells[i]?=some c->Fits s c):Fits (.sl ag es) (.lst (some q) es.length xs)
def zjp (r:TypeId->Option (Bool×List Sh)) (P:Program):List Field->Nat->Option (List Sh)
  |[],_=>some []
  | f::fs,o=>if f.offset=o then (match r f.type with
    |some (_,ss)=>if P.cellsOf f.type=ss.length then (zjp r P fs (o+ss.length)).map (ss++·) else none
    |none=>none) else none
def zXQ (P:Program):Nat->TypeId->Option (Bool×List Sh)
  |0,_=>none
  | m+1,t=>match P.underlying t with
    |some .bool=>some (false,[.bool])
    |some (.int k)=>some (false,[.int k])
    |some .string=>some (false,[.str])
    | some (.slice e)=>(match zXQ P m e with
      |some (ag,es)=>if P.cellsOf e=es.length/\0<es.length/\(ag=true\/es.length=1) then some (false,[.sl ag es]) else none
      |none=>none)
    | some (.struct fs)=>(match zjp (zXQ P m) P fs.toList 0 with
      |some ss=>if P.cellsOf t=ss.length then some (true,ss) else none
      |none=>none)
    |_=>none
theorem zHh {α β:Type} {f:α->Option β}:∀ {l:List α} {r:List β},l.mapM f=some r->r.length=l.length/\∀ (i:Nat) (x:α),l[i]?=some x->∃ y,r[i]?=some y/\f x=some y
  | [],r,h=>by
    simp at h;subst h;exact ⟨rfl,fun i x hx=>by simp at hx⟩
  | a::l,r,h=>by
    simp only [znu,Option.bind_eq_bind,Option.pure_def] at h;obtain ⟨y,hy,h⟩:=zor.1 h;obtain ⟨ys,hys,h⟩:=zor.1 h;simp only [zoS] at h;subst h;obtain ⟨h1,h2⟩:=zHh hys;refine ⟨by simp [h1],fun i x hx=>?_⟩;cases i with
    |zero=>simp at hx;subst hx;exact ⟨y,rfl,hy⟩
    |succ i=>grind
theorem zZT {p:Nat->AV->Prop}:∀ n,(∀ i,i<n->∃ x,p i x)->∃ xs:List AV,xs.length=n/\∀ i x,xs[i]?=some x->p i x
  |0,_=>⟨[],rfl,fun i x h=>by simp at h⟩
  | n+1,h=>by
    obtain ⟨xs,h1,h2⟩:=zZT n fun i hi=>h i tO;obtain ⟨x,hx⟩:=h n tO;refine ⟨xs++[x],by simp [h1],fun i y hy=>?_⟩;by_cases hi:i<n
    · grind
    · grind
theorem Fits.free {s:Sh} {x:AV} (h:Fits s x):x.noRef=true/\x.one=true/\x.cells=[x]:=by
  cases h <;> exact ⟨rfl,rfl,rfl⟩
theorem zJL {w:World} {a:Addr} {v:Value} (h:w.cell? a=some v):a.block<w.heap.size/\a.spot=none:=by
  unfold World.cell? at h;split at h
  · rename_i hb
    split at h
    · cases h
    · rename_i hs
      refine ⟨?_,by simpa using hs⟩;obtain ⟨hlt,_⟩:=zoo.1 hb;exact hlt
  · cases h
structure Stands (w:World) (ss:List Sh) (xs:List AV) (cs:List Value):Prop where
  len:xs.length=ss.length
  clen:cs.length=ss.length
  fits:∀ (i:Nat) (s:Sh) (x:AV),ss[i]?=some s->xs[i]?=some x->Fits s x
  rel:∀ (i:Nat) (x:AV) (v:Value),xs[i]?=some x->cs[i]?=some v->Rel w (fun _=>none) (zFn w) 0 x v
theorem Stands.fits' {w:World} {ss:List Sh} {xs:List AV} {cs:List Value} (h:Stands w ss xs cs) {x:AV} (hx:x∈xs):∃ s,Fits s x:=by
  obtain ⟨i,hi⟩:=zo6 hx;have hlt:=(zl_ hi);exact ⟨ss[i]'(by rw [<-h.len];exact hlt),h.fits i _ x (zoO _) hi⟩
theorem zHi {w:World} {s:Sh} {x:AV} {v:Value} (hf:Fits s x) (hr:Rel w (fun _=>none) (zFn w) 0 x v):Stands w [s] [x] [v] where
  len:=rfl
  clen:=rfl
  fits:=fun i s' x' h1 h2=>by
    cases i with
    |zero=>simp at h1 h2;subst h1;subst h2;exact hf
    |succ i=>simp at h1
  rel:=fun i x' v' h1 h2=>by
    cases i with
    |zero=>simp at h1 h2;subst h1;subst h2;exact hr
    |succ i=>simp at h1
section
variable {H:Type} {enc:TypeId×Value->H} {P:Program} {w:World} {held:Bool}
theorem zRA {fuel m:Nat} (ih:∀ (t:TypeId) (cs:List Value) (d:DataW H) (ps:List MemPlace) (ag:Bool) (ss:List Sh),DataW.trod enc P w 0 (fun _=>true) held fuel t cs=some (d,ps)->zXQ P m t=some (ag,ss)->∃ xs,Stands w ss xs cs)
    (cs:List Value):∀ (fs:List Field) (o:Nat) (ss:List Sh) (r:List (DataW H×List MemPlace)),(fs.mapM fun f=>DataW.trod enc P w 0 (fun _=>true) held fuel f.type ((cs.drop f.offset).take (P.cellsOf f.type)))=some r->zjp (zXQ P m) P fs o=some ss ->
    ∃ xs:List AV,xs.length=ss.length/\(∀ (i:Nat) (s:Sh) (x:AV),ss[i]?=some s->xs[i]?=some x->Fits s x)/\∀ (i:Nat) (x:AV) (v:Value),xs[i]?=some x->cs[o+i]?=some v->Rel w (fun _=>none) (zFn w) 0 x v:=by
  intro fs;induction fs with
  | nil=>
    intro o ss r _ hs;simp only [zjp,zoS] at hs;subst hs;exact ⟨[],rfl,fun i s x h=>by simp at h,fun i x v h=>by simp at h⟩
  | cons f fs ihf=>
    intro o ss r h hs;unfold zjp at hs;split at hs
    case isFalse=>cases hs
    rename_i ho;split at hs
    case h_2=>cases hs
    rename_i ag ss1 h1;split at hs
    case isFalse=>cases hs
    rename_i hc;obtain ⟨ss2,h2,rfl⟩:=zoV.1 hs;simp only [znu,Option.bind_eq_bind,Option.pure_def] at h;obtain ⟨⟨d,p⟩,hy,h⟩:=zor.1 h;obtain ⟨ys,hys,_⟩:=zor.1 h;obtain ⟨xs1,S1⟩:=ih _ _ _ _ _ _ hy h1;obtain ⟨xs2,e1,e2,e3⟩:=ihf _ _ _ hys h2;refine ⟨xs1++xs2,by rw [zoP,zoP,S1.len,e1],fun i s x h3 h4=>?_,fun i x v h3 h4=>?_⟩
    · by_cases hi:i<ss1.length
      · rw [zof hi] at h3
        rw [zof (by rw [S1.len];exact hi)] at h4;exact S1.fits i s x h3 h4
      · rw [zoy tO] at h3
        rw [zoy (by rw [S1.len];omega),S1.len] at h4;exact e2 _ s x h3 h4
    · by_cases hi:i<ss1.length
      · rw [zof (by rw [S1.len];exact hi)] at h3
        refine S1.rel i x v h3 ?_;rw [zo5,zoQ (by rw [hc];exact hi),zo1,ho];exact h4
      · rw [zoy (by rw [S1.len];omega),S1.len] at h3
        refine e3 _ x v h3 ?_;rw [<-h4];congr 1;omega
theorem zP4 {a:Addr} {n:Nat} {cs:List Value} (h:w.cells? 0 a n=some cs):cs.length=n/\∀ j v,cs[j]?=some v->w.cell? (a.add j)=some v:=by
  unfold World.cells? at h;rw [zoQ (zmB _)] at h;obtain ⟨h1,h2⟩:=zHh h;rw [znV] at h1;refine ⟨h1,fun j v hj=>?_⟩;have hlt:j<n:=by rw [<-h1];exact (zl_ hj)
  obtain ⟨y,e1,e2⟩:=h2 j j (by rw [zmb hlt]);rw [e1] at hj;simp only [zoS] at hj;subst hj;exact e2
theorem zKJ:∀ (fuel:Nat) (t:TypeId) (cs:List Value) (d:DataW H) (ps:List MemPlace) (m:Nat) (ag:Bool) (ss:List Sh),
    DataW.trod enc P w 0 (fun _=>true) held fuel t cs=some (d,ps)->zXQ P m t=some (ag,ss)->∃ xs,Stands w ss xs cs:=by
  intro fuel;induction fuel with
  |zero=>intro t cs d ps m ag ss h;simp [DataW.trod] at h
  | succ fuel ih=>
    intro t cs d ps m ag ss h hs;cases m with
    |zero=>simp [zXQ] at hs
    |succ m=>
    unfold zXQ at hs;split at hs
    · -- bool
      rename_i hu;simp only [zoS,zob] at hs;obtain ⟨_,rfl⟩:=hs;rcases cs with _|⟨c,_|⟨c',cs⟩⟩
      · simp [DataW.trod,hu] at h
      · cases c <;> simp [DataW.trod,hu] at h
        exact ⟨_,zHi (.bool _) (.bool _)⟩
      · simp [DataW.trod,hu] at h
    · rename_i k hu
      simp only [zoS,zob] at hs;obtain ⟨_,rfl⟩:=hs;rcases cs with _|⟨c,_|⟨c',cs⟩⟩
      · simp [DataW.trod,hu] at h
      · cases c <;> simp [DataW.trod,hu] at h
        obtain ⟨⟨rfl,hw⟩,_⟩:=h;exact ⟨_,zHi (.int _ _ hw) (.int _ _)⟩
      · simp [DataW.trod,hu] at h
    · rename_i hu
      simp only [zoS,zob] at hs;obtain ⟨_,rfl⟩:=hs;rcases cs with _|⟨c,_|⟨c',cs⟩⟩
      · simp [DataW.trod,hu] at h
      · cases c <;> simp [DataW.trod,hu] at h
        rename_i s;have hl:s.data.toList.length<=maxLen:=by
          have h1:s.size<=maxLen:=h.1;exact h1
        exact ⟨_,zHi (.str s.data.toList hl) (zUD _ _ _ _ s)⟩
      · simp [DataW.trod,hu] at h
    · -- a slice
      rename_i e hu;split at hs
      case h_2=>cases hs
      rename_i ag' es he;split at hs
      case isFalse=>cases hs
      rename_i hk;obtain ⟨hk,hk0,hk1⟩:=hk;simp only [zoS,zob] at hs;obtain ⟨_,rfl⟩:=hs;rcases cs with _|⟨c,_|⟨c',cs⟩⟩
      · simp [DataW.trod,hu] at h
      rotate_left
      · simp [DataW.trod,hu] at h
      cases c
      case slice a len cap=>
        cases a with
        | none=>
          cases len <;> cases cap <;> simp [DataW.trod,hu] at h
          exact ⟨_,zHi (.sl ag' es true [] (zmB _) (fun _=>rfl) (fun x hx=>absurd hx zS_) (fun x hx=>absurd hx zS_)) (.lnil _ _ zS_)⟩
        | some a=>
          simp only [DataW.trod,hu] at h;split at h
          case isFalse=>cases h
          rename_i hb;obtain ⟨elems,h1,h⟩:=zor.1 h;obtain ⟨rest,h2,_⟩:=zoV.1 h;simp only [zoz] at h2;have at_:∀ (i:Nat) (y:DataW H×List MemPlace),((w.cells? 0 (a.add (i*P.cellsOf e)) (P.cellsOf e)).bind (DataW.trod enc P w 0 (fun _=>true) held fuel e))=some y ->
              ∃ xs ci,Stands w es xs ci/\∀ j v,ci[j]?=some v->w.cell? ((a.add (i*es.length)).add j)=some v:=by
            intro i y hy;obtain ⟨ci,e1,e2⟩:=zor.1 hy;obtain ⟨xs,S⟩:=ih e ci y.1 y.2 m ag' es e2 he;obtain ⟨e3,e4⟩:=zP4 e1;exact ⟨xs,ci,S,by rw [<-hk];exact e4⟩
          obtain ⟨l1,l2⟩:=zHh h1;obtain ⟨l3,l4⟩:=zHh h2;rw [znV] at l1 l3;have elem:∀ i,i<len->∃ x:AV,(x.cells.length=es.length/\formed ag' x)/\(∀ (j:Nat) (s:Sh) (c:AV),es[j]?=some s->x.cells[j]?=some c->Fits s c)/\x.elem es.length=true /\
              ∀ j c,x.cells[j]?=some c->∃ v,w.cell? ((a.add (i*es.length)).add j)=some v/\Rel w (fun _=>none) (zFn w) 0 c v:=by
            intro i hi;obtain ⟨y,_,hy⟩:=l2 i i (by rw [zmb hi]);obtain ⟨xs,ci,S,hci⟩:=at_ i y hy;have hrel:∀ j c,xs[j]?=some c->∃ v,w.cell? ((a.add (i*es.length)).add j)=some v/\Rel w (fun _=>none) (zFn w) 0 c v:=fun j c hj=>by
              have hlt:j<ci.length:=by rw [S.clen,<-S.len];exact (zl_ hj)
              exact ⟨ci[j],hci j _ (zoO hlt),S.rel j c _ hj (zoO hlt)⟩
            cases ag' with
            | true=>
              refine ⟨.agg xs,⟨S.len,xs,rfl⟩,S.fits,AV.elem_iff.2 ⟨S.len, ?_,fun c hc=>?_⟩,hrel⟩
              · simp only [AV.noRef,AV.bel,AV.belL_iff]
                intro c hc;obtain ⟨s,hs⟩:=S.fits' hc;exact hs.free.1
              · obtain ⟨s,hs⟩:=S.fits' hc
                exact hs.free.2.1
            | false=>
              have h1:es.length=1:=by
                rcases hk1 with h|h
                · cases h
                · exact h
              have hl:=S.len;rw [h1] at hl;obtain ⟨x,rfl⟩:=zn2.1 hl;obtain ⟨s,hs⟩:=S.fits' (x:=x) zS_;obtain ⟨f1,f2,f3⟩:=hs.free;refine ⟨x,⟨by rw [f3,h1];rfl,f3⟩,by rw [f3];exact S.fits,AV.elem_iff.2 ⟨by rw [f3,h1];rfl,f1,fun c hc=>?_⟩,by rw [f3];exact hrel⟩;rw [f3] at hc;simp only [zl5] at hc;rw [hc];exact f2
          obtain ⟨X,x1,x2⟩:=zZT len elem;have hmem:∀ x∈X,∃ i,X[i]?=some x:=fun x hx=>zo6 hx;refine ⟨[.lst (some false) es.length X],zHi (.sl ag' es false X tO zS_ (fun x hx=>?_) (fun x hx=>?_)) ?_⟩
          · obtain ⟨i,hi⟩:=hmem x hx;exact (x2 i x hi).1
          · obtain ⟨i,hi⟩:=hmem x hx;exact (x2 i x hi).2.1
          · by_cases hc0:cap=0
            · have:len=0:=by omega
              subst this;subst hc0;obtain rfl:=zms x1;exact .lemp _ _ a zS_
            · have hcell:∃ v,w.cell? a=some v:=by
                by_cases hl0:len=0
                · obtain ⟨y,_,hy⟩:=l4 0 0 (by rw [zmb tO])
                  obtain ⟨xs,ci,S,hci⟩:=at_ _ y hy;have hlt:0<ci.length:=by rw [S.clen];exact hk0
                  have h0:=hci 0 _ (zoO hlt);simp only [hl0,zmz,znq,Addr.add,zoz] at h0;exact ⟨_,h0⟩
                · obtain ⟨y,_,hy⟩:=l2 0 0 (by rw [zmb tO])
                  obtain ⟨xs,ci,S,hci⟩:=at_ _ y hy;have hlt:0<ci.length:=by rw [S.clen];exact hk0
                  have h0:=hci 0 _ (zoO hlt);simp only [znq,Addr.add,zoz] at h0;exact ⟨_,h0⟩
              obtain ⟨v0,hv0⟩:=hcell;obtain ⟨g1,g2⟩:=zJL hv0;obtain ⟨ab,ao,asp⟩:=a;simp only at g1 g2;subst g2;rw [<-x1];refine Rel.mk_lst zS_ tO hb.2.2 g1 (fun x hx=>?_) (fun i j x c hi hj=>?_)
              · obtain ⟨i,hi⟩:=hmem x hx;exact (x2 i x hi).2.2.1
              · obtain ⟨v,e1,e2⟩:=(x2 i x hi).2.2.2 j c hj
                simp only [Addr.add_lit] at e1;exact ⟨v,e1,e2⟩
      all_goals (simp [DataW.trod,hu] at h)
    · rename_i fs hu
      split at hs
      case h_2=>cases hs
      rename_i ss' hs';split at hs
      case isFalse=>cases hs
      rename_i hc;simp only [zoS,zob] at hs;obtain ⟨_,rfl⟩:=hs;simp only [DataW.trod,hu] at h;split at h
      case isFalse=>cases h
      rename_i hcl;obtain ⟨r,hr,_⟩:=zoV.1 h;obtain ⟨xs,e1,e2,e3⟩:=zRA (fun t cs d ps ag ss h1 h2=>ih t cs d ps m ag ss h1 h2) cs _ 0 ss' r hr hs';exact ⟨xs,e1,by rw [hcl,hc],e2,fun i x v h1 h2=>e3 i x v h1 (by rw [zl7];exact h2)⟩
    · cases hs
theorem zUF {t:TypeId} {m:Nat} {s:Sh} {v:Value} {d:DataW H} {ps:List MemPlace} {r:Reach} {b0:Nat} (hs:zXQ P m t=some (false,[s])) (ho:Value.okWide P w r b0 t v) (h:DataW.Trod enc P w 0 (fun _=>true) held t v d ps) :
    ∃ x,Fits s x/\Rel w (fun _=>none) (zFn w) 0 x v:=by
  obtain ⟨fuel,h⟩:=h;obtain ⟨xs,S⟩:=zKJ fuel t _ d ps m false [s] h hs;have hl:=S.len;obtain ⟨x,rfl⟩:=zn2.1 hl;have hv:v.cells.toList=[v]:=by
    cases m with
    |zero=>simp [zXQ] at hs
    |succ m=>
    unfold zXQ at hs;unfold Value.okWide at ho;split at hs
    all_goals first
      |(cases hs;done)
      |skip
    · rename_i hu;rw [hu] at ho;simp only [Cell.okWide,hu,Cell.ok] at ho
      cases v <;> first|rfl|(simp at ho)
    · rename_i hu;rw [hu] at ho;simp only [Cell.okWide,hu,Cell.ok] at ho
      cases v <;> first|rfl|(simp at ho)
    · rename_i hu;rw [hu] at ho;simp only [Cell.okWide,hu,Cell.ok] at ho
      cases v <;> first|rfl|(simp at ho)
    · rename_i hu;rw [hu] at ho;simp only [Cell.okWide,hu,Cell.ok] at ho
      cases v <;> first|rfl|(simp at ho)
    · grind
  rw [hv] at S;exact ⟨x,S.fits 0 s x rfl rfl,S.rel 0 x v rfl rfl⟩
end
abbrev zN (k n:Int) (t:List UInt8):List AV:=[.int .i64 k,.int .i64 n,.str t,.int .i64 0,.int .i64 0,.bool false,.bool false,.int .i64 0,.int .i64 0,.bool false,.bool false,.lst (some true) 0 []]
abbrev zP:List AV:=zV5
theorem zf3 {b k o s:Nat} {ag:Bool} {H:Heap} {cs:List AV} {r:AV} {K:AV->Prop} (h:H[b]?=some (.box cs)) (hr:part cs o s ag=some r) (q:K r):loadN s ag (.ref b k 0 o) H K:=zA r h hr q
def zRB (H:Heap) (b:Nat) (H1:Heap):Prop:=∃ B,OldB H b B H1
theorem zRB.start {H:Heap} {b:Nat} {B:ABlk} (h:H[b]?=some B):zRB H b H:=⟨B,OldB.start h⟩
theorem zRB.of {H:Heap} {b:Nat} {B:ABlk} {H1:Heap} (h:OldB H b B H1):zRB H b H1:=⟨B,h⟩
theorem zRB.push {H H1:Heap} {b:Nat} (h:zRB H b H1) (x:List ABlk):zRB H b (H1++x):=⟨h.choose,h.choose_spec.push x⟩
theorem zRB.set {H H1:Heap} {b:Nat} (h:zRB H b H1) {c:Nat} (hc:H.length<=c) (x:ABlk):zRB H b (H1.set c x):=⟨h.choose,h.choose_spec.set hc x⟩
theorem zRB.setB {H H1:Heap} {b:Nat} (h:zRB H b H1) (x:ABlk):zRB H b (H1.set b x):=⟨x,h.choose_spec.setB x⟩
theorem OldB.setZ {H H1:Heap} {b:Nat} {B:ABlk} (h:zRB H b H1):OldB H b B (H1.set b B):=h.choose_spec.setB B
theorem hO {P:Prop} (h:P:=by (repeat' (first|assumption|exact Old.refl _|exact OldB.start hP|exact zRB.start hP|exact zRB.of (by assumption)|refine Old.push ?_ _|refine OldB.push ?_ _|refine zRB.push ?_ _|refine OldB.setZ ?_|refine zRB.setB ?_ _|refine Old.set ?_ tA _|refine OldB.set ?_ tA _|refine zRB.set ?_ tA _));done):P:=h
structure HidQ (Q:Prop):Prop where
  go:Q
def StG (v:AV) (cs':List AV) (P:Prop):Prop:=P
theorem stG {b k s o:Nat} {v:AV} {cs cs':List AV} {H:Heap} {K:AV->Heap->Prop} (h:H[b]?=some (.box cs)) (hl:v.cells.length=s) (h1:v.cells.all AV.one=true) (ho:Nat.ble (o+s) cs.length=true) (he:splice cs o v.cells=cs')
    (q:K .undef (H.set b (.box cs'))):StG v cs' (actP (.store s) [.ref b k 0 o,v] H K):=zM (v:=v) cs' h hl h1 ho he q
theorem sS {P Q:Prop} (v:AV) (cs':List AV) (q:Q) (h:HidQ Q->StG v cs' P:=by
  intro q;apply stG
  · exact hP
  · rfl
  · rfl
  · rfl
  · rfl
  exact q.go):P:=h ⟨q⟩
theorem sSA {P Q:Prop} (v:AV) (q:Q) (h:HidQ Q->StG v v.cells P:=by
  intro q;apply stG
  · exact hP
  · rfl
  · rfl
  · rfl
  · rfl
  exact q.go):P:=h ⟨q⟩
theorem sW {P Q:Prop} (q:Q) (h:HidQ Q->P:=by
  intro q
  repeat (first
    | (apply zf3
       · exact hP
       · rfl)
    |refine zD ?_
    |refine zC ?_
    |refine za rfl ?_
    |refine z8 _ rfl ?_
    |refine zt tT ?_
    |refine zc tF ?_
    |refine zt tE ?_
    |refine zc tN ?_
    |refine zt (by assumption) ?_
    |refine zc (by assumption) ?_
    | (apply zCF
       · rfl
       · assumption)
    | (apply zI
       · first|assumption|(apply_assumption -exfalso -symm <;> exact hP))
    | (apply zBc
       · first|assumption|(apply_assumption -exfalso -symm <;> exact hP)
       · intro h;cases h)
    |fail)
  exact q.go):P:=h ⟨q⟩
theorem sX {P Q:Prop} (q:Q) (h:HidQ Q->P:=by
  intro q
  repeat (first
    | (apply zf3
       · exact hP
       · rfl)
    |refine zD ?_
    |refine zC ?_
    |refine za rfl ?_
    |refine z8 _ rfl ?_
    |refine zt tT ?_
    |refine zc tF ?_
    |refine zt tE ?_
    |refine zc tN ?_
    |refine zt (by assumption) ?_
    |refine zc (by assumption) ?_
    | (apply zCF
       · rfl
       · assumption)
    | (apply zAk
       · assumption
       · assumption)
    | (apply zBg
       · assumption
       · rfl
       · assumption)
    | (apply zAe
       · assumption
       · rfl)
    |refine za (by assumption) ?_
    | (apply zAV
       · rfl)
    | (apply zI
       · first|assumption|(apply_assumption -exfalso -symm <;> exact hP))
    | (apply zBc
       · first|assumption|(apply_assumption -exfalso -symm <;> exact hP)
       · intro h;cases h)
    |fail)
  exact q.go):P:=h ⟨q⟩
theorem sRv {P:Prop} (h:P:=by exact zAQ rfl rfl rfl rfl hO):P:=h
theorem sRo {P:Prop} (h:P:=by exact zQ9 _ (by first|rfl|assumption) rfl rfl rfl rfl hO rfl):P:=h
end Go.AM
