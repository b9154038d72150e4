/- Several texts of mine in one (Am30, Am24, Am35, Fp0, Fp1). Own work. -/
import Derived.Test.YtkeblfepjkdleaaGreatDoorGAm23Am29
import Derived.WideShapes
set_option maxRecDepth 20000
set_option linter.all false
namespace Go.AM
def Wk (x x':AV):Prop:=∀ (w:World) (M:AMap) (I:Nat->Prop) (n:Nat) (v:Value),Rel w M I n x v->Rel w M I n x' v
theorem Wk.refl (x:AV):Wk x x:=fun _ _ _ _ _ h=>h
theorem Wk.undef (x:AV):Wk x .undef:=fun _ _ _ _ _ _=>.undef _
theorem Wk.iface {t:TypeId} {x x':AV} (h:Wk x x'):Wk (.iface t x) (.iface t x'):=fun w M I n v hr=>by
  cases hr with
  |iface _ _ u hu=>exact .iface t x' u (h w M I n u hu)
def WkL (cs cs':List AV):Prop:=cs'.length=cs.length/\∀ (j:Nat) (c c':AV),cs[j]?=some c->cs'[j]?=some c'->Wk c c'
theorem WkL.refl (cs:List AV):WkL cs cs:=⟨rfl,fun j c c' h h'=>by rw [h] at h';cases h';exact .refl c⟩
theorem WkL.nil:WkL [] []:=.refl []
theorem WkL.cons {x x':AV} {cs cs':List AV} (h:Wk x x') (k:WkL cs cs'):WkL (x::cs) (x'::cs'):=by
  refine ⟨by simp [k.1],fun j c c' hc hc'=>?_⟩;cases j with
  |zero=>simp at hc hc';subst hc hc';exact h
  |succ j=>exact k.2 j c c' (by simpa using hc) (by simpa using hc')
theorem Wk.agg {cs cs':List AV} (h:WkL cs cs'):Wk (.agg cs) (.agg cs'):=fun w M I n v hr=>by
  cases hr with
  | agg _ vs hl hv=>
    refine .agg cs' vs (by rw [h.1,hl]) fun i c u hc hu=>?_;have hi:=(zl_ hc);have hi2:i<cs.length:=by rw [<-h.1];exact hi
    exact h.2 i _ c (zlI hi2) hc w M I n u (hv i _ u (zlI hi2) hu)
section
variable {GT:zG_} {w w0:World} {M M0:AMap} {I I0:Nat->Prop} {H H0:Heap} {b:Nat} {cs cs':List AV}
theorem zSr (hb:H[b]?=some (.box cs)) {c:Nat} {x:ABlk} (h:(H.set b (.box cs'))[c]?=some x) (hm:x.mut=true):∃ y,H[c]?=some y/\y.mut=true:=by
  by_cases e:b=c
  · subst e;exact ⟨_,hb,rfl⟩
  · rw [zlm e] at h;exact ⟨x,h,hm⟩
theorem Sim.weak (h:Sim GT w M I H) (hb:H[b]?=some (.box cs)) (hk:WkL cs cs'):Sim GT w M I (H.set b (.box cs')):=by
  refine ⟨h.glob,h.idom,fun c x hc=>?_,fun c c' x x' g o o' h1 m1 h2 m2 e1 e2=>?_,h.shp⟩
  · rw [zlP]
    by_cases e:b=c
    · subst e
      rw [zli (zl_ hb)] at hc;cases hc;obtain ⟨g,o,cur,h1,h2,h3,h4,h5⟩:=h.blk b _ hb;refine ⟨g,o,cur,h1,h2,h3,by rw [hk.1];exact h4,fun j c hj=>?_⟩;have hi:j<cs.length:=by rw [<-hk.1];exact (zl_ hj)
      obtain ⟨v,hv,hr⟩:=h5 j _ (zlI hi);exact ⟨v,hv,hk.2 j _ c (zlI hi) hj _ _ _ _ _ hr⟩
    · rw [zlm e] at hc
      exact h.blk c x hc
  · obtain ⟨y,h3,m3⟩:=zSr hb h1 m1
    obtain ⟨y',h4,m4⟩:=zSr hb h2 m2;exact h.inj c c' y y' g o o' h3 m3 h4 m4 e1 e2
theorem Grow.weak (h:Grow w0 M0 I0 H0 w M I H) (hb:H[b]?=some (.box cs)):Grow w0 M0 I0 H0 w M I (H.set b (.box cs')):=
  ⟨h.os,h.tape,h.output,h.size,h.map,h.imm,h.imm',h.frame,fun k hk ⟨c,x,o,h1,h2,h3⟩=>by
    obtain ⟨y,h4,m4⟩:=zSr hb h1 h2;exact h.live k hk ⟨c,y,o,h4,m4,h3⟩,h.shape,by rw [zlP];exact h.len⟩
end
theorem zn {b:Bool} {A B:Prop} (h:b=true) (a:A):condP b A B:=by subst h;exact zE a
theorem zi {b:Bool} {A B:Prop} (h:b=false) (a:B):condP b A B:=by subst h;exact zG a
theorem zSs {H:Heap} {b:Nat} {x:ABlk} (h:b<H.length):(H.set b x)[b]?=some x:=zli h
theorem hP {P:Prop} (h:P:=by first|(with_reducible (repeat' (first|assumption|exact zB|refine zD ?_|(apply zSs;exact tC)|refine zC tA ?_));done)|((repeat' (first|assumption|exact zB|exact zSs tC|refine zD ?_|refine zC tA ?_));done)):P:=h
theorem zMf {H:Heap} {b:Nat} {B:ABlk} (h:H[b]?=some B):H.set b B=H:=by
  apply znA;intro c;by_cases e:b=c
  · subst e;rw [zli (zl_ h),h]
  · rw [zlm e]
theorem zr {F:AF} {a s t:Nat} {ag:Bool} {H H1:Heap} {fr:Fr} {v v1:AV} {cs:List AV} {o:Nat} (hF:F.results=[.cell a s ag,.tmp t]) (hk:F.keep=false) (hp:zAD H1 (zL0 fr a)=some (cs,o)) (hpt:part cs o s ag=some v) (ht:zL0 fr t=v1)
    (hf:zEM H.length (.tup [v,v1]) H1=some (.tup [v,v1],H1)) (hb:(AV.tup [v,v1]).bel H.length=true) (ho:Old H H1):retP F H fr H1 (.tup [v,v1]) H:=by
  refine zAv hk ?_ hf hb ho;rw [zFl] at hp ht;simp only [hF,zBh,zLj,hp,hpt,ht,zlW];rfl
theorem zjm {GT:zG_} {fr:Fr} {g:Nat} {x:AV} {H:Heap} {s:Nat} {ag:Bool} {K:AV->Prop} (r:AV) (h:GT g=some x) (hr:part x.cells 0 s ag=some r) (k:K r):loadN s ag (evF GT fr (.glob g)) H K:=by
  have e:evF GT fr (.glob g)=.lref x 0:=by simp only [evF,h]
  rw [e];exact zA9 r hr k
structure OldB (H:Heap) (b:Nat) (B:ABlk) (H1:Heap):Prop where
  lt:b<H.length
  old:Old (H.set b B) H1
theorem OldB.start {H:Heap} {b:Nat} {B:ABlk} (h:H[b]?=some B):OldB H b B H:=by
  obtain ⟨h1,h2⟩:=zg h;refine ⟨h1,by rw [zlP];exact zlK _,fun c _=>?_⟩;by_cases e:b=c
  · subst e;rw [zli h1];exact h
  · rw [zlm e]
theorem OldB.push {H H1:Heap} {b:Nat} {B:ABlk} (h:OldB H b B H1) (x:List ABlk):OldB H b B (H1++x):=⟨h.lt,h.old.push x⟩
theorem OldB.set {H H1:Heap} {b:Nat} {B:ABlk} (h:OldB H b B H1) {c:Nat} (hc:H.length<=c) (x:ABlk):OldB H b B (H1.set c x):=⟨h.lt,h.old.set (by rw [zlP];exact hc) x⟩
theorem OldB.setB {H H1:Heap} {b:Nat} {B:ABlk} (h:OldB H b B H1) (B':ABlk):OldB H b B' (H1.set b B'):=by
  have hl:=h.old.1;rw [zlP] at hl;refine ⟨h.lt,by rw [zlP,zlP];exact hl,fun c hc=>?_⟩;rw [zlP] at hc;by_cases e:b=c
  · subst e;rw [zli h.lt,zli (by have:=h.lt;omega)]
  · have:=h.old.2 c (by rw [zlP];exact hc)
    rw [zlm e] at this;rw [zlm e,zlm e,this]
theorem OldB.ok {H H1:Heap} {b:Nat} {B:ABlk} (h:OldB H b B H1) (hc:zHi H.length B=true):zXw H H1:=fun c hc'=>by
  have:=h.old.2 c (by rw [zlP];exact hc');by_cases e:b=c
  · subst e
    rw [zli hc'] at this;exact .inr ⟨B,this,hc⟩
  · rw [zlm e] at this
    exact .inl this
theorem OldB.take {H H1:Heap} {b:Nat} {B:ABlk} (h:OldB H b B H1):H1.take H.length=H.set b B:=by
  have:=h.old.take
  rwa [zlP] at this
structure retR (F:AF) (H:Heap) (fr:Fr) (H1:Heap) (b:Nat) (r:Option (AV×ABlk)):Prop where
  h:∃ v B,r=some (v,B)/\zHj F H fr H1 v (H.set b B)
structure panR (F:AF) (H:Heap) (b:Nat) (cs':List AV) (x':AV) (r:Option (AV×ABlk)) (x0:AV) (H1:Heap):Prop where
  h:r=none/\∃ x cs,panF F H x0 H1 x (H.set b (.box cs))/\b<H.length/\WkL cs cs'/\Wk x x'
def zKo (F:AF) (H:Heap) (b:Nat) (cs':List AV) (x':AV) (r:Option (AV×ABlk)):Post:=fun e fr H1=>match e with
  |.normal=>retR F H fr H1 b r
  |.ret=>retR F H fr H1 b r
  |.pan x0=>panR F H b cs' x' r x0 H1
  |_=>False
def zCw (C:CSpec) (GT:zG_) (F:AF) (args:List AV) (H:Heap) (b:Nat) (cs':List AV) (x':AV) (r:Option (AV×ABlk)):Prop:=EW C GT F.body (zKo F H b cs' x' r) (zGi 0 args) H
theorem zAJ {C:CSpec} {GT:zG_} {F:AF} {args:List AV} {H:Heap} {b:Nat} {cs':List AV} {x':AV} {r:Option (AV×ABlk)} (h:EW C GT F.body (zKo F H b cs' x' r) (zGi 0 args) H):zCw C GT F args H b cs' x' r:=h
theorem zSt {F:AF} {H H1 H2:Heap} {fr:Fr} {b:Nat} {r:Option (AV×ABlk)} (v0:AV) {v:AV} {B:ABlk} (hr:r=some (v,B)) (hk:F.keep=false) (hs:(zBh fr H1 F.results).map tupled=some v0) (hf:zEM H.length v0 H1=some (v,H2))
    (hb:v.bel H.length=true) (ho:OldB H b B H2) (hc:zHi H.length B=true):retR F H fr H1 b r:=by
  refine ⟨v,B,hr, ?_⟩;unfold zHj;cases hs':zBh fr H1 F.results with
  |none=>rw [hs'] at hs;cases hs
  | some vs=>
    rw [hs'] at hs;simp only [zlW,zlJ] at hs;subst hs;simp only [hk,hf,zlO,zlj];exact ⟨hb,ho.ok hc,trivial,ho.take.symm⟩
theorem zAH {F:AF} {a s:Nat} {ag:Bool} {H H1 H2:Heap} {fr:Fr} {b:Nat} {r:Option (AV×ABlk)} (v0:AV) {v:AV} {B:ABlk} (hr:r=some (v,B)) (hF:F.results=[.cell a s ag]) (hk:F.keep=false) {cs:List AV} {o:Nat} (hp:zAD H1 (zL0 fr a)=some (cs,o)) (hpt:part cs o s ag=some v0)
    (hf:zEM H.length v0 H1=some (v,H2)) (hb:v.bel H.length=true) (ho:OldB H b B H2) (hc:zHi H.length B=true):retR F H fr H1 b r:=by
  refine zSt v0 hr hk ?_ hf hb ho hc;rw [zFl] at hp;simp only [hF,zBh,zLj,hp,hpt,zlW];rfl
theorem zjn {F:AF} {H H1:Heap} {b:Nat} {cs cs':List AV} {x x':AV} {r:Option (AV×ABlk)} (hr:r=none) (hk:F.keep=false) (hf:zEM H.length x H1=some (x,H1)) (hb:x.bel H.length=true) (ho:OldB H b (.box cs) H1) (hc:zHi H.length (.box cs)=true)
    (hw:WkL cs cs') (hx:Wk x x'):panR F H b cs' x' r x H1:=by
  refine ⟨hr,x,cs, ?_,ho.lt,hw,hx⟩;unfold panF;simp only [hk,hf,zlO,zlj];exact ⟨hb,ho.ok hc,trivial,ho.take.symm⟩
theorem zAs {P:Program} {GT:zG_} (hm:P.follows .mixedOrders=true) {f:FuncId} {F:AF} (hc:zt P f F=true) {args:List AV} {H:Heap} {b:Nat} {cs':List AV} {x':AV} {r:Option (AV×ABlk)} (h:zCw (Good P GT) GT F args H b cs' x' r) (hn:zKZ args=true:=by rfl) :
    (∀ v B,r=some (v,B)->Good P GT f args H v (H.set b B))/\(r=none->Good P GT f (.pan .undef::args) H x' (H.set b (.box cs'))):=by
  constructor
  · intro v B hr
    subst hr;refine zLG hm hc ?_ hn;unfold AFun;refine zF3 _ _ _ _ _ H rfl (fun e f f' H1 hf h=>?_) h;have:retR F H f H1 b (some (v,B))->zHj F H f' H1 v (H.set b B):=fun ⟨v',B',e,h⟩=>by
      cases e;unfold zHj at h ⊢;rw [<-zFb hf];exact h
    cases e with
    |normal=>exact this h
    |ret=>exact this h
    |pan x=>exact absurd h.h.1 zS_
    |_=>exact h
  · intro hr
    subst hr;have h1:AW (Good P GT) GT F.body (fun e fr H1=>match e with
        |.pan x0=>panR F H b cs' x' none x0 H1
        |_=>False) (zGi 0 args) H:=by
      refine zF3 _ _ _ _ _ H rfl (fun e f f' H1 hf h=>?_) h;have:retR F H f H1 b none->False:=fun ⟨v',B',e,h⟩=>by cases e
      cases e with
      |normal=>exact this h
      |ret=>exact this h
      |pan x=>exact h
      |_=>exact h
    unfold zt at hc;split at hc
    case h_2=>cases hc
    rename_i fn hfn;simp only [zlG,zmN] at hc;obtain ⟨hname,hc⟩:=hc;split at hc
    case h_2=>cases hc
    rename_i c hbody;simp only [zlG] at hc;show zjX P GT f args H x' (H.set b (.box cs'));intro w M I cargs hS hA;have h2:fn.name ≠ "runtime.NumGoroutine" := by simpa using hname
    have hrun:(callFunc f cargs.toArray).run P w=.ok (.enter f cargs.toArray) w:=by simp [callFunc,hfn,h2,hbody]
    rw [hrun];refine calls_of_wp hfn hbody ?_;refine zLu hm F.body c _ _ w M I H (zGi 0 args) _ hc.1 hS (zLv hS hA) h1 ?_;intro e E fr' H1 a' w' M' I' hG hS' hF' hE hK;cases e with
    | pan x0=>
      obtain ⟨xv,rfl,hr⟩:=hE;obtain ⟨_,x,cs,hp,hlt,hw,hx⟩:=hK.h;obtain ⟨I2,h3,h4,h5⟩:=zYI hS hG hS' hr hp;have hbk:(H.set b (.box cs))[b]?=some (.box cs):=zli hlt;have h6:=h4.weak hbk hw;have h7:=h3.weak (cs':=cs') hbk;rw [znj] at h6 h7;refine ⟨hF'.defers,xv,rfl,M',I2,h7,h6, ?_⟩;rw [zlP] at h5 ⊢;exact hx _ _ _ _ _ h5
    |_=>exact hK.elim
inductive Sh where
  |bool
  |int (k:IntKind)
  |str
  |sl (ag:Bool) (es:List Sh)
  deriving Inhabited
def formed (ag:Bool) (x:AV):Prop:=
  match ag with
  |true=>∃ cs,x=.agg cs
  |false=>x.cells=[x]
inductive Fits:Sh->AV->Prop where
  |bool (b:Bool):Fits .bool (.bool b)
  |int (k:IntKind) (n:Int) (h:(Lit.int k n).wf=true):Fits (.int k) (.int k n)
  |str (s:List UInt8) (h:s.length<=maxLen):Fits .str (.str s)
  |sl (ag:Bool) (es:List Sh) (q:Bool) (xs:List AV) (hl:xs.length<=maxLen) (hq:q=true->xs=[]) (h1:∀ x∈xs,x.cells.length=es.length/\formed ag x)
      (h2:∀ x∈xs,∀ (i:Nat) (s:Sh) (c:AV),es[i]?=some s->x.cells[i]?=some c->Fits s c):Fits (.sl ag es) (.lst (some q) es.length xs)
def zjo (r:TypeId->Option (Bool×List Sh)) (P:Program):List Field->Nat->Option (List Sh)
  |[],_=>some []
  | f::fs,o=>if f.offset=o then (match r f.type with
    |some (_,ss)=>if P.cellsOf f.type=ss.length then (zjo r P fs (o+ss.length)).map (ss++·) else none
    |none=>none) else none
def zdg (P:Program):Nat->TypeId->Option (Bool×List Sh)
  |0,_=>none
  | m+1,t=>match P.underlying t with
    |some .bool=>some (false,[.bool])
    |some (.int k)=>some (false,[.int k])
    |some .string=>some (false,[.str])
    | some (.slice e)=>(match zdg P m e with
      |some (ag,es)=>if P.cellsOf e=es.length/\0<es.length/\(ag=true\/es.length=1) then some (false,[.sl ag es]) else none
      |none=>none)
    | some (.struct fs)=>(match zjo (zdg P m) P fs.toList 0 with
      |some ss=>if P.cellsOf t=ss.length then some (true,ss) else none
      |none=>none)
    |_=>none
theorem zIG {α β:Type} {f:α->Option β}:∀ {l:List α} {r:List β},l.mapM f=some r->r.length=l.length/\∀ (i:Nat) (x:α),l[i]?=some x->∃ y,r[i]?=some y/\f x=some y
  | [],r,h=>by
    simp at h;subst h;exact ⟨rfl,fun i x hx=>by simp at hx⟩
  | a::l,r,h=>by
    simp only [znl,Option.bind_eq_bind,Option.pure_def] at h;obtain ⟨y,hy,h⟩:=zlq.1 h;obtain ⟨ys,hys,h⟩:=zlq.1 h;simp only [zlJ] at h;subst h;obtain ⟨h1,h2⟩:=zIG hys;refine ⟨by simp [h1],fun i x hx=>?_⟩;cases i with
    |zero=>simp at hx;subst hx;exact ⟨y,rfl,hy⟩
    |succ i=>simp at hx;obtain ⟨z,e1,e2⟩:=h2 i x hx;exact ⟨z,by simpa using e1,e2⟩
theorem zaP {p:Nat->AV->Prop}:∀ n,(∀ i,i<n->∃ x,p i x)->∃ xs:List AV,xs.length=n/\∀ i x,xs[i]?=some x->p i x
  |0,_=>⟨[],rfl,fun i x h=>by simp at h⟩
  | n+1,h=>by
    obtain ⟨xs,h1,h2⟩:=zaP n fun i hi=>h i tO;obtain ⟨x,hx⟩:=h n tO;refine ⟨xs++[x],by simp [h1],fun i y hy=>?_⟩;by_cases hi:i<n
    · rw [zlS tO] at hy;exact h2 i y hy
    · rw [zld tO] at hy
      have:i-xs.length=0:=by
        have:=(zl_ hy);simp at this;omega
      rw [this] at hy;simp at hy;subst hy;have:i=n:=by omega
      subst this;exact hx
theorem Fits.free {s:Sh} {x:AV} (h:Fits s x):x.noRef=true/\x.one=true/\x.cells=[x]:=by
  cases h <;> exact ⟨rfl,rfl,rfl⟩
theorem zJ6 {w:World} {a:Addr} {v:Value} (h:w.cell? a=some v):a.block<w.heap.size/\a.spot=none:=by
  unfold World.cell? at h;split at h
  · rename_i hb
    split at h
    · cases h
    · rename_i hs
      refine ⟨?_,by simpa using hs⟩;obtain ⟨hlt,_⟩:=zlZ.1 hb;exact hlt
  · cases h
structure Stands (w:World) (ss:List Sh) (xs:List AV) (cs:List Value):Prop where
  len:xs.length=ss.length
  clen:cs.length=ss.length
  fits:∀ (i:Nat) (s:Sh) (x:AV),ss[i]?=some s->xs[i]?=some x->Fits s x
  rel:∀ (i:Nat) (x:AV) (v:Value),xs[i]?=some x->cs[i]?=some v->Rel w (fun _=>none) (zHD w) 0 x v
theorem Stands.fits' {w:World} {ss:List Sh} {xs:List AV} {cs:List Value} (h:Stands w ss xs cs) {x:AV} (hx:x∈xs):∃ s,Fits s x:=by
  obtain ⟨i,hi⟩:=zmB hx;have hlt:=(zl_ hi);exact ⟨ss[i]'(by rw [<-h.len];exact hlt),h.fits i _ x (zlI _) hi⟩
theorem zIH {w:World} {s:Sh} {x:AV} {v:Value} (hf:Fits s x) (hr:Rel w (fun _=>none) (zHD w) 0 x v):Stands w [s] [x] [v] where
  len:=rfl
  clen:=rfl
  fits:=fun i s' x' h1 h2=>by
    cases i with
    |zero=>simp at h1 h2;subst h1;subst h2;exact hf
    |succ i=>simp at h1
  rel:=fun i x' v' h1 h2=>by
    cases i with
    |zero=>simp at h1 h2;subst h1;subst h2;exact hr
    |succ i=>simp at h1
section
variable {H:Type} {enc:TypeId×Value->H} {P:Program} {w:World} {held:Bool}
theorem zSu {fuel m:Nat} (ih:∀ (t:TypeId) (cs:List Value) (d:DataW H) (ps:List MemPlace) (ag:Bool) (ss:List Sh),DataW.trod enc P w 0 (fun _=>true) held fuel t cs=some (d,ps)->zdg P m t=some (ag,ss)->∃ xs,Stands w ss xs cs)
    (cs:List Value):∀ (fs:List Field) (o:Nat) (ss:List Sh) (r:List (DataW H×List MemPlace)),(fs.mapM fun f=>DataW.trod enc P w 0 (fun _=>true) held fuel f.type ((cs.drop f.offset).take (P.cellsOf f.type)))=some r->zjo (zdg P m) P fs o=some ss ->
    ∃ xs:List AV,xs.length=ss.length/\(∀ (i:Nat) (s:Sh) (x:AV),ss[i]?=some s->xs[i]?=some x->Fits s x)/\∀ (i:Nat) (x:AV) (v:Value),xs[i]?=some x->cs[o+i]?=some v->Rel w (fun _=>none) (zHD w) 0 x v:=by
  intro fs;induction fs with
  | nil=>
    intro o ss r _ hs;simp only [zjo,zlJ] at hs;subst hs;exact ⟨[],rfl,fun i s x h=>by simp at h,fun i x v h=>by simp at h⟩
  | cons f fs ihf=>
    intro o ss r h hs;unfold zjo at hs;split at hs
    case isFalse=>cases hs
    rename_i ho;split at hs
    case h_2=>cases hs
    rename_i ag ss1 h1;split at hs
    case isFalse=>cases hs
    rename_i hc;obtain ⟨ss2,h2,rfl⟩:=zlN.1 hs;simp only [znl,Option.bind_eq_bind,Option.pure_def] at h;obtain ⟨⟨d,p⟩,hy,h⟩:=zlq.1 h;obtain ⟨ys,hys,_⟩:=zlq.1 h;obtain ⟨xs1,S1⟩:=ih _ _ _ _ _ _ hy h1;obtain ⟨xs2,e1,e2,e3⟩:=ihf _ _ _ hys h2;refine ⟨xs1++xs2,by rw [zlH,zlH,S1.len,e1],fun i s x h3 h4=>?_,fun i x v h3 h4=>?_⟩
    · by_cases hi:i<ss1.length
      · rw [zlS hi] at h3
        rw [zlS (by rw [S1.len];exact hi)] at h4;exact S1.fits i s x h3 h4
      · rw [zld tO] at h3
        rw [zld (by rw [S1.len];omega),S1.len] at h4;exact e2 _ s x h3 h4
    · by_cases hi:i<ss1.length
      · rw [zlS (by rw [S1.len];exact hi)] at h3
        refine S1.rel i x v h3 ?_;rw [zlt,zlF (by rw [hc];exact hi),zlu,ho];exact h4
      · rw [zld (by rw [S1.len];omega),S1.len] at h3
        refine e3 _ x v h3 ?_;rw [<-h4];congr 1;omega
theorem zRk {a:Addr} {n:Nat} {cs:List Value} (h:w.cells? 0 a n=some cs):cs.length=n/\∀ j v,cs[j]?=some v->w.cell? (a.add j)=some v:=by
  unfold World.cells? at h;rw [zlF (zl6 _)] at h;obtain ⟨h1,h2⟩:=zIG h;rw [znP] at h1;refine ⟨h1,fun j v hj=>?_⟩;have hlt:j<n:=by rw [<-h1];exact (zl_ hj)
  obtain ⟨y,e1,e2⟩:=h2 j j (by rw [zmc hlt]);rw [e1] at hj;simp only [zlJ] at hj;subst hj;exact e2
theorem zRJ:∀ (fuel:Nat) (t:TypeId) (cs:List Value) (d:DataW H) (ps:List MemPlace) (m:Nat) (ag:Bool) (ss:List Sh),
    DataW.trod enc P w 0 (fun _=>true) held fuel t cs=some (d,ps)->zdg P m t=some (ag,ss)->∃ xs,Stands w ss xs cs:=by
  intro fuel;induction fuel with
  |zero=>intro t cs d ps m ag ss h;simp [DataW.trod] at h
  | succ fuel ih=>
    intro t cs d ps m ag ss h hs;cases m with
    |zero=>simp [zdg] at hs
    |succ m=>
    unfold zdg at hs;split at hs
    · -- bool
      rename_i hu;simp only [zlJ,zlT] at hs;obtain ⟨_,rfl⟩:=hs;rcases cs with _|⟨c,_|⟨c',cs⟩⟩
      · simp [DataW.trod,hu] at h
      · cases c <;> simp [DataW.trod,hu] at h
        exact ⟨_,zIH (.bool _) (.bool _)⟩
      · simp [DataW.trod,hu] at h
    · rename_i k hu
      simp only [zlJ,zlT] at hs;obtain ⟨_,rfl⟩:=hs;rcases cs with _|⟨c,_|⟨c',cs⟩⟩
      · simp [DataW.trod,hu] at h
      · cases c <;> simp [DataW.trod,hu] at h
        obtain ⟨⟨rfl,hw⟩,_⟩:=h;exact ⟨_,zIH (.int _ _ hw) (.int _ _)⟩
      · simp [DataW.trod,hu] at h
    · rename_i hu
      simp only [zlJ,zlT] at hs;obtain ⟨_,rfl⟩:=hs;rcases cs with _|⟨c,_|⟨c',cs⟩⟩
      · simp [DataW.trod,hu] at h
      · cases c <;> simp [DataW.trod,hu] at h
        rename_i s;have hl:s.data.toList.length<=maxLen:=by
          have h1:s.size<=maxLen:=h.1;exact h1
        exact ⟨_,zIH (.str s.data.toList hl) (zVt _ _ _ _ s)⟩
      · simp [DataW.trod,hu] at h
    · -- a slice
      rename_i e hu;split at hs
      case h_2=>cases hs
      rename_i ag' es he;split at hs
      case isFalse=>cases hs
      rename_i hk;obtain ⟨hk,hk0,hk1⟩:=hk;simp only [zlJ,zlT] at hs;obtain ⟨_,rfl⟩:=hs;rcases cs with _|⟨c,_|⟨c',cs⟩⟩
      · simp [DataW.trod,hu] at h
      rotate_left
      · simp [DataW.trod,hu] at h
      cases c
      case slice a len cap=>
        cases a with
        | none=>
          cases len <;> cases cap <;> simp [DataW.trod,hu] at h
          exact ⟨_,zIH (.sl ag' es true [] (zl6 _) (fun _=>rfl) (fun x hx=>absurd hx zS_) (fun x hx=>absurd hx zS_)) (.lnil _ _ zS_)⟩
        | some a=>
          simp only [DataW.trod,hu] at h;split at h
          case isFalse=>cases h
          rename_i hb;obtain ⟨elems,h1,h⟩:=zlq.1 h;obtain ⟨rest,h2,_⟩:=zlN.1 h;simp only [zlp] at h2;have at_:∀ (i:Nat) (y:DataW H×List MemPlace),((w.cells? 0 (a.add (i*P.cellsOf e)) (P.cellsOf e)).bind (DataW.trod enc P w 0 (fun _=>true) held fuel e))=some y ->
              ∃ xs ci,Stands w es xs ci/\∀ j v,ci[j]?=some v->w.cell? ((a.add (i*es.length)).add j)=some v:=by
            intro i y hy;obtain ⟨ci,e1,e2⟩:=zlq.1 hy;obtain ⟨xs,S⟩:=ih e ci y.1 y.2 m ag' es e2 he;obtain ⟨e3,e4⟩:=zRk e1;exact ⟨xs,ci,S,by rw [<-hk];exact e4⟩
          obtain ⟨l1,l2⟩:=zIG h1;obtain ⟨l3,l4⟩:=zIG h2;rw [znP] at l1 l3;have elem:∀ i,i<len->∃ x:AV,(x.cells.length=es.length/\formed ag' x)/\(∀ (j:Nat) (s:Sh) (c:AV),es[j]?=some s->x.cells[j]?=some c->Fits s c)/\x.elem es.length=true /\
              ∀ j c,x.cells[j]?=some c->∃ v,w.cell? ((a.add (i*es.length)).add j)=some v/\Rel w (fun _=>none) (zHD w) 0 c v:=by
            intro i hi;obtain ⟨y,_,hy⟩:=l2 i i (by rw [zmc hi]);obtain ⟨xs,ci,S,hci⟩:=at_ i y hy;have hrel:∀ j c,xs[j]?=some c->∃ v,w.cell? ((a.add (i*es.length)).add j)=some v/\Rel w (fun _=>none) (zHD w) 0 c v:=fun j c hj=>by
              have hlt:j<ci.length:=by rw [S.clen,<-S.len];exact (zl_ hj)
              exact ⟨ci[j],hci j _ (zlI hlt),S.rel j c _ hj (zlI hlt)⟩
            cases ag' with
            | true=>
              refine ⟨.agg xs,⟨S.len,xs,rfl⟩,S.fits,AV.elem_iff.2 ⟨S.len, ?_,fun c hc=>?_⟩,hrel⟩
              · simp only [AV.noRef,AV.bel,AV.belL_iff]
                intro c hc;obtain ⟨s,hs⟩:=S.fits' hc;exact hs.free.1
              · obtain ⟨s,hs⟩:=S.fits' hc
                exact hs.free.2.1
            | false=>
              have h1:es.length=1:=by
                rcases hk1 with h|h
                · cases h
                · exact h
              have hl:=S.len;rw [h1] at hl;obtain ⟨x,rfl⟩:=znq.1 hl;obtain ⟨s,hs⟩:=S.fits' (x:=x) zS_;obtain ⟨f1,f2,f3⟩:=hs.free;refine ⟨x,⟨by rw [f3,h1];rfl,f3⟩,by rw [f3];exact S.fits,AV.elem_iff.2 ⟨by rw [f3,h1];rfl,f1,fun c hc=>?_⟩,by rw [f3];exact hrel⟩;rw [f3] at hc;simp only [zls] at hc;rw [hc];exact f2
          obtain ⟨X,x1,x2⟩:=zaP len elem;have hmem:∀ x∈X,∃ i,X[i]?=some x:=fun x hx=>zmB hx;refine ⟨[.lst (some false) es.length X],zIH (.sl ag' es false X tO zS_ (fun x hx=>?_) (fun x hx=>?_)) ?_⟩
          · obtain ⟨i,hi⟩:=hmem x hx;exact (x2 i x hi).1
          · obtain ⟨i,hi⟩:=hmem x hx;exact (x2 i x hi).2.1
          · by_cases hc0:cap=0
            · have:len=0:=by omega
              subst this;subst hc0;obtain rfl:=zmm x1;exact .lemp _ _ a zS_
            · have hcell:∃ v,w.cell? a=some v:=by
                by_cases hl0:len=0
                · obtain ⟨y,_,hy⟩:=l4 0 0 (by rw [zmc tO])
                  obtain ⟨xs,ci,S,hci⟩:=at_ _ y hy;have hlt:0<ci.length:=by rw [S.clen];exact hk0
                  have h0:=hci 0 _ (zlI hlt);simp only [hl0,zm3,znQ,Addr.add,zlp] at h0;exact ⟨_,h0⟩
                · obtain ⟨y,_,hy⟩:=l2 0 0 (by rw [zmc tO])
                  obtain ⟨xs,ci,S,hci⟩:=at_ _ y hy;have hlt:0<ci.length:=by rw [S.clen];exact hk0
                  have h0:=hci 0 _ (zlI hlt);simp only [znQ,Addr.add,zlp] at h0;exact ⟨_,h0⟩
              obtain ⟨v0,hv0⟩:=hcell;obtain ⟨g1,g2⟩:=zJ6 hv0;obtain ⟨ab,ao,asp⟩:=a;simp only at g1 g2;subst g2;rw [<-x1];refine Rel.mk_lst zS_ tO hb.2.2 g1 (fun x hx=>?_) (fun i j x c hi hj=>?_)
              · obtain ⟨i,hi⟩:=hmem x hx;exact (x2 i x hi).2.2.1
              · obtain ⟨v,e1,e2⟩:=(x2 i x hi).2.2.2 j c hj
                simp only [Addr.add_lit] at e1;exact ⟨v,e1,e2⟩
      all_goals (simp [DataW.trod,hu] at h)
    · rename_i fs hu
      split at hs
      case h_2=>cases hs
      rename_i ss' hs';split at hs
      case isFalse=>cases hs
      rename_i hc;simp only [zlJ,zlT] at hs;obtain ⟨_,rfl⟩:=hs;simp only [DataW.trod,hu] at h;split at h
      case isFalse=>cases h
      rename_i hcl;obtain ⟨r,hr,_⟩:=zlN.1 h;obtain ⟨xs,e1,e2,e3⟩:=zSu (fun t cs d ps ag ss h1 h2=>ih t cs d ps m ag ss h1 h2) cs _ 0 ss' r hr hs';exact ⟨xs,e1,by rw [hcl,hc],e2,fun i x v h1 h2=>e3 i x v h1 (by rw [zlx];exact h2)⟩
    · cases hs
theorem zIt {t:TypeId} {m:Nat} {s:Sh} {v:Value} {d:DataW H} {ps:List MemPlace} {r:Reach} {b0:Nat} (hs:zdg P m t=some (false,[s])) (ho:Value.okWide P w r b0 t v) (h:DataW.Trod enc P w 0 (fun _=>true) held t v d ps) :
    ∃ x,Fits s x/\Rel w (fun _=>none) (zHD w) 0 x v:=by
  obtain ⟨fuel,h⟩:=h;obtain ⟨xs,S⟩:=zRJ fuel t _ d ps m false [s] h hs;have hl:=S.len;obtain ⟨x,rfl⟩:=znq.1 hl;have hv:v.cells.toList=[v]:=by
    cases m with
    |zero=>simp [zdg] at hs
    |succ m=>
    unfold zdg at hs;unfold Value.okWide at ho;split at hs
    all_goals first
      |(cases hs;done)
      |skip
    · rename_i hu;rw [hu] at ho;simp only [Cell.okWide,hu,Cell.ok] at ho
      cases v <;> first|rfl|(simp at ho)
    · rename_i hu;rw [hu] at ho;simp only [Cell.okWide,hu,Cell.ok] at ho
      cases v <;> first|rfl|(simp at ho)
    · rename_i hu;rw [hu] at ho;simp only [Cell.okWide,hu,Cell.ok] at ho
      cases v <;> first|rfl|(simp at ho)
    · rename_i hu;rw [hu] at ho;simp only [Cell.okWide,hu,Cell.ok] at ho
      cases v <;> first|rfl|(simp at ho)
    · split at hs
      · split at hs
        · cases hs
        · cases hs
      · cases hs
  rw [hv] at S;exact ⟨x,S.fits 0 s x rfl rfl,S.rel 0 x v rfl rfl⟩
end
abbrev zN (k n:Int) (t:List UInt8):List AV:=[.int .i64 k,.int .i64 n,.str t,.int .i64 0,.int .i64 0,.bool false,.bool false,.int .i64 0,.int .i64 0,.bool false,.bool false,.lst (some true) 0 []]
abbrev zP:List AV:=zV2
theorem zgh {b k o s:Nat} {ag:Bool} {H:Heap} {cs:List AV} {r:AV} {K:AV->Prop} (h:H[b]?=some (.box cs)) (hr:part cs o s ag=some r) (q:K r):loadN s ag (.ref b k 0 o) H K:=zA r h hr q
def zSv (H:Heap) (b:Nat) (H1:Heap):Prop:=∃ B,OldB H b B H1
theorem zSv.start {H:Heap} {b:Nat} {B:ABlk} (h:H[b]?=some B):zSv H b H:=⟨B,OldB.start h⟩
theorem zSv.of {H:Heap} {b:Nat} {B:ABlk} {H1:Heap} (h:OldB H b B H1):zSv H b H1:=⟨B,h⟩
theorem zSv.push {H H1:Heap} {b:Nat} (h:zSv H b H1) (x:List ABlk):zSv H b (H1++x):=⟨h.choose,h.choose_spec.push x⟩
theorem zSv.set {H H1:Heap} {b:Nat} (h:zSv H b H1) {c:Nat} (hc:H.length<=c) (x:ABlk):zSv H b (H1.set c x):=⟨h.choose,h.choose_spec.set hc x⟩
theorem zSv.setB {H H1:Heap} {b:Nat} (h:zSv H b H1) (x:ABlk):zSv H b (H1.set b x):=⟨x,h.choose_spec.setB x⟩
theorem OldB.setZ {H H1:Heap} {b:Nat} {B:ABlk} (h:zSv H b H1):OldB H b B (H1.set b B):=h.choose_spec.setB B
theorem hO {P:Prop} (h:P:=by (repeat' (first|assumption|exact Old.refl _|exact OldB.start hP|exact zSv.start hP|exact zSv.of (by assumption)|refine Old.push ?_ _|refine OldB.push ?_ _|refine zSv.push ?_ _|refine OldB.setZ ?_|refine zSv.setB ?_ _|refine Old.set ?_ tA _|refine OldB.set ?_ tA _|refine zSv.set ?_ tA _));done):P:=h
structure HidQ (Q:Prop):Prop where
  go:Q
def StG (v:AV) (cs':List AV) (P:Prop):Prop:=P
theorem stG {b k s o:Nat} {v:AV} {cs cs':List AV} {H:Heap} {K:AV->Heap->Prop} (h:H[b]?=some (.box cs)) (hl:v.cells.length=s) (h1:v.cells.all AV.one=true) (ho:Nat.ble (o+s) cs.length=true) (he:splice cs o v.cells=cs')
    (q:K .undef (H.set b (.box cs'))):StG v cs' (actP (.store s) [.ref b k 0 o,v] H K):=zL (v:=v) cs' h hl h1 ho he q
theorem sS {P Q:Prop} (v:AV) (cs':List AV) (q:Q) (h:HidQ Q->StG v cs' P:=by
  intro q;apply stG
  · exact hP
  · rfl
  · rfl
  · rfl
  · rfl
  exact q.go):P:=h ⟨q⟩
theorem sSA {P Q:Prop} (v:AV) (q:Q) (h:HidQ Q->StG v v.cells P:=by
  intro q;apply stG
  · exact hP
  · rfl
  · rfl
  · rfl
  · rfl
  exact q.go):P:=h ⟨q⟩
theorem sW {P Q:Prop} (q:Q) (h:HidQ Q->P:=by
  intro q
  repeat (first
    | (apply zgh
       · exact hP
       · rfl)
    |refine zE ?_
    |refine zG ?_
    |refine zx rfl ?_
    |refine zA9 _ rfl ?_
    |refine zn tT ?_
    |refine zi tF ?_
    |refine zn tE ?_
    |refine zi tN ?_
    |refine zn (by assumption) ?_
    |refine zi (by assumption) ?_
    | (apply zCF
       · rfl
       · assumption)
    | (apply zM
       · first|assumption|(apply_assumption -exfalso -symm <;> exact hP))
    | (apply zCI
       · first|assumption|(apply_assumption -exfalso -symm <;> exact hP)
       · intro h;cases h)
    |fail)
  exact q.go):P:=h ⟨q⟩
theorem sX {P Q:Prop} (q:Q) (h:HidQ Q->P:=by
  intro q
  repeat (first
    | (apply zgh
       · exact hP
       · rfl)
    |refine zE ?_
    |refine zG ?_
    |refine zx rfl ?_
    |refine zA9 _ rfl ?_
    |refine zn tT ?_
    |refine zi tF ?_
    |refine zn tE ?_
    |refine zi tN ?_
    |refine zn (by assumption) ?_
    |refine zi (by assumption) ?_
    | (apply zCF
       · rfl
       · assumption)
    | (apply zBH
       · assumption
       · assumption)
    | (apply zFD
       · assumption
       · rfl
       · assumption)
    | (apply zAt
       · assumption
       · rfl)
    |refine zx (by assumption) ?_
    | (apply zCR
       · rfl)
    | (apply zM
       · first|assumption|(apply_assumption -exfalso -symm <;> exact hP))
    | (apply zCI
       · first|assumption|(apply_assumption -exfalso -symm <;> exact hP)
       · intro h;cases h)
    |fail)
  exact q.go):P:=h ⟨q⟩
theorem sRv {P:Prop} (h:P:=by exact zAv rfl rfl rfl rfl hO):P:=h
theorem sRo {P:Prop} (h:P:=by exact zSt _ (by first|rfl|assumption) rfl rfl rfl rfl hO rfl):P:=h
abbrev Bs:=List UInt8
def zRK:Bs->Nat
  |[]=>0
  |c::r=>if c=32 then zRK r+1 else 0
def skip (s:Bs) (a:Nat):Nat:=a+zRK (s.drop a)
def zh (c:UInt8):Bool:=c.toNat==36||(decide (48<=c.toNat)&&decide (c.toNat<=57))||(decide (65<=c.toNat)&&decide (c.toNat<=90))||(decide (97<=c.toNat)&&decide (c.toNat<=122))
def zd5:Bs->Nat
  |[]=>0
  |c::r=>if zh c=true then zd5 r+1 else 0
def zDI (s:Bs) (a:Nat):Nat:=a+zd5 (s.drop a)
def sub (s:Bs) (a b:Nat):Bs:=(s.drop a).take (b-a)
theorem zBi {s:Bs} {a:Nat} {c:UInt8} (h:s[a]?=some c):s.drop a=c::s.drop (a+1):=by
  obtain ⟨h1,h2⟩:=zg h;rw [zmL h1,h2]
theorem zJ7 {s:Bs} {a:Nat} (h:s[a]?=none):s.drop a=[]:=zl3 (zm1.1 h)
theorem zNd {s:Bs} {a:Nat} (h:s[a]?=some 32):skip s a=skip s (a+1):=by
  unfold skip;rw [zBi h,zRK,zlF rfl];omega
theorem zDm {s:Bs} {a:Nat} (h:s[a]?≠some 32):skip s a=a:=by
  unfold skip;cases e:s[a]? with
  |none=>rw [zJ7 e];rfl
  |some c=>rw [zBi e,zRK,zlD (fun h'=>h (by rw [e,h']))];rfl
theorem zFt (s:Bs) (a:Nat):a<=skip s a:=Nat.le_add_right _ _
theorem zXC:∀ l:Bs,zRK l<=l.length
  |[]=>zlK _
  | c::r=>by
    simp only [zRK];have:=zXC r;split <;> simp only [zlE] <;> omega
theorem zCX {s:Bs} {a:Nat} (h:a<=s.length):skip s a<=s.length:=by
  unfold skip;have:=zXC (s.drop a);rw [zlg] at this;omega
theorem zXD:∀ l:Bs,l[zRK l]?≠some 32
  |[]=>by simp [zRK]
  | c::r=>by
    by_cases h:c=32
    · rw [zRK,zlF h,zm6];exact zXD r
    · rw [zRK,zlD h];simpa using h
theorem zVv (s:Bs) (a:Nat):s[skip s a]?≠some 32:=by
  have:=zXD (s.drop a)
  rwa [zlu] at this
theorem zGa (s:Bs) (a:Nat):skip s (skip s a)=skip s a:=zDm (zVv s a)
theorem zII {s:Bs} {a:Nat} {c:UInt8} (h:s[a]?=some c) (hc:zh c=true):zDI s a=zDI s (a+1):=by
  unfold zDI;rw [zBi h,zd5,zlF hc];omega
theorem zIJ {s:Bs} {a:Nat} (h:∀ c,s[a]?=some c->zh c=false):zDI s a=a:=by
  unfold zDI;cases e:s[a]? with
  |none=>rw [zJ7 e];rfl
  |some c=>rw [zBi e,zd5,zlD (by rw [h c e];simp)];rfl
theorem zLU (s:Bs) (a:Nat):a<=zDI s a:=Nat.le_add_right _ _
theorem zaQ:∀ l:Bs,zd5 l<=l.length
  |[]=>zlK _
  | c::r=>by
    simp only [zd5];have:=zaQ r;split <;> simp only [zlE] <;> omega
theorem zJ8 {s:Bs} {a:Nat} (h:a<=s.length):zDI s a<=s.length:=by
  unfold zDI;have:=zaQ (s.drop a);rw [zlg] at this;omega
def quo:Bs->Nat->Option (Bs×Nat)
  |[],_=>none
  |[c],i=>if c=34 then some ([],i+1) else none
  |c::d::r,i=>if c=34 then (if d=34 then (quo r (i+2)).map fun p=>(34::p.1,p.2) else some ([],i+1)) else (quo (d::r) (i+1)).map fun p=>(c::p.1,p.2)
def wrongs:List Bs:=[[35,68,73,86,33],[35,86,65,76,85,69,33],[35,82,69,70,33],[35,78,65,77,69,33],[35,78,85,77,33],[35,78,79,78,69,33]]
def zK1 (l:Bs):List Bs->Nat->Option (Nat×Nat)
  |[],_=>none
  |t::ts,k=>if l.take t.length=t then some (k,t.length) else zK1 l ts (k+1)
inductive Tok where
  |fin
  |word (e:Nat) (t:Bs)
  |txt (e:Nat) (t:Bs)
  |bad (e k:Nat)
  |sign (e:Nat) (t:Bs)
  |none
  deriving Inhabited
def zBk (s:Bs) (a:Nat):Tok:=
  match s[a]? with
  |.none=>.fin
  | some c=>
    if zh c=true then .word (zDI s a) (sub s a (zDI s a))
    else if c=34 then (match quo (s.drop (a+1)) (a+1) with
      |some (t,e)=>.txt e t
      |.none=>.none)
    else if c=35 then (match zK1 (s.drop a) wrongs 1 with
      |some (k,n)=>.bad (a+n) k
      |.none=>.none)
    else match s[a+1]? with
      |some d=>if (c=60/\d=62)\/(c=60/\d=61)\/(c=62/\d=61) then .sign (a+2) [c,d] else .sign (a+1) [c]
      |.none=>.sign (a+1) [c]
def tok (s:Bs) (a:Nat):Tok:=zBk s (skip s a)
theorem zMg (s:Bs) (a:Nat):tok s (skip s a)=tok s a:=by unfold tok;rw [zGa]
def Tok.endsBy (a:Nat):Tok->Nat->Prop
  |.word e _,n=>a<e/\e<=n
  |.txt e _,n=>a<e/\e<=n
  |.bad e _,n=>a<e/\e<=n
  |.sign e _,n=>a<e/\e<=n
  |_,_=>True
theorem zSw:∀ (l:Bs) (i:Nat) (t:Bs) (e:Nat),quo l i=some (t,e)->i<e/\e<=i+l.length
  |[],_,_,_,h=>by simp [quo] at h
  | [c],i,t,e,h=>by
    simp only [quo] at h;split at h
    · simp only [zlJ,zlT] at h;obtain ⟨_,rfl⟩:=h;simp
    · cases h
  | c::d::r,i,t,e,h=>by
    simp only [quo] at h;split at h
    · split at h
      · rw [zlN] at h
        obtain ⟨⟨t',e'⟩,h1,h2⟩:=h;simp only [zlT] at h2;have:=zSw r (i+2) t' e' h1;simp only [zlE];omega
      · simp only [zlJ,zlT] at h;obtain ⟨_,rfl⟩:=h;simp
    · rw [zlN] at h
      obtain ⟨⟨t',e'⟩,h1,h2⟩:=h;simp only [zlT] at h2;have:=zSw (d::r) (i+1) t' e' h1;simp only [zlE] at this ⊢;omega
theorem zQI (l:Bs):∀ (ts:List Bs) (k:Nat) (p:Nat×Nat),zK1 l ts k=some p->(∀ t∈ts,t≠[])->0<p.2/\p.2<=l.length
  |[],_,_,h,_=>by simp [zK1] at h
  | t::ts,k,p,h,ht=>by
    simp only [zK1] at h;split at h
    · rename_i he
      simp only [zlJ] at h;subst h;have h1:=ht t zS_;have h2:t.length≠0:=by simpa using h1
      have h3:=zlR List.length he;rw [zla] at h3;omega
    · exact zQI l ts _ p h fun t h=>ht t (by simp [h])
theorem zRl {s:Bs} {a:Nat}:(zBk s a).endsBy a s.length:=by
  unfold zBk;cases e:s[a]? with
  |none=>trivial
  | some c=>
    have ha:=(zl_ e);simp only;split
    · rename_i hw
      have h1:=zII e hw;have h2:=zLU s (a+1);have h3:=zJ8 (s:=s) (a:=a) tO;show a<zDI s a/\zDI s a<=s.length;omega
    · split
      · split
        · rename_i t e' hq
          have:=zSw _ _ _ _ hq;rw [zlg] at this;show a<e'/\e'<=s.length;omega
        · trivial
      · split
        · split
          · rename_i k n hb
            have:=zQI _ _ _ _ hb zD_;rw [zlg] at this;simp only at this;show a<a+n/\a+n<=s.length;omega
          · trivial
        · cases e2:s[a+1]? with
          |none=>show a<a+1/\a+1<=s.length;omega
          | some d=>
            have ha2:=(zl_ e2);simp only;split
            · show a<a+2/\a+2<=s.length;omega
            · show a<a+1/\a+1<=s.length;omega
theorem zB7 (s:Bs) (a:Nat):(tok s a).endsBy a s.length:=by
  have h:=zRl (s:=s) (a:=skip s a);have h2:=zFt s a;unfold tok;revert h;cases zBk s (skip s a) <;> simp only [Tok.endsBy] <;> first|exact fun _=>trivial|(intro h;omega)
structure RefP where
  col:Int
  row:Int
  fc:Bool
  fr:Bool
  deriving DecidableEq,Inhabited
def noRef:RefP:=⟨0,0,false,false⟩
inductive Nd where
  |mk (kind num:Int) (text:Bs) (ref to:RefP) (kids:List Nd)
  deriving Inhabited
namespace Nd
def kind:Nd->Int|mk a _ _ _ _ _=>a
def num:Nd->Int|mk _ a _ _ _ _=>a
def text:Nd->Bs|mk _ _ a _ _ _=>a
def ref:Nd->RefP|mk _ _ _ a _ _=>a
def to:Nd->RefP|mk _ _ _ _ a _=>a
def kids:Nd->List Nd|mk _ _ _ _ _ a=>a
def kq:Nd->Bool|mk _ _ _ _ _ []=>true|mk _ _ _ _ _ (_::_)=>false
def kk:Nd->Nat|mk _ _ _ _ _ []=>0|mk _ _ _ _ _ (_::_)=>12
end Nd
mutual
def kxs:Nd->List AV
  |.mk _ _ _ _ _ ks=>zd6 ks
def zd6:List Nd->List AV
  |[]=>[]
  |k::r=>.agg [.int .i64 k.kind,.int .i64 k.num,.str k.text,.int .i64 k.ref.col,.int .i64 k.ref.row,.bool k.ref.fc,.bool k.ref.fr,.int .i64 k.to.col,.int .i64 k.to.row,.bool k.to.fc,.bool k.to.fr,.lst (some k.kq) k.kk (kxs k)]::zd6 r
end
def ndC (k:Nd):List AV:=[.int .i64 k.kind,.int .i64 k.num,.str k.text,.int .i64 k.ref.col,.int .i64 k.ref.row,.bool k.ref.fc,.bool k.ref.fr,.int .i64 k.to.col,.int .i64 k.to.row,.bool k.to.fc,.bool k.to.fr,.lst (some k.kq) k.kk (kxs k)]
def ndV (k:Nd):AV:=.agg (ndC k)
theorem zKO:∀ ks:List Nd,zd6 ks=ks.map ndV
  |[]=>rfl
  |k::r=>by rw [zd6,zlU,zKO r];rfl
def zKP (n:Int):Nd:=.mk 1 n [] noRef noRef []
def zHd (t:Bs):Nd:=.mk 2 0 t noRef noRef []
def zFC (b:Bool):Nd:=.mk 3 (if b then 1 else 0) [] noRef noRef []
def zHg (k:Nat):Nd:=.mk 4 k [] noRef noRef []
def zB3 (r:RefP):Nd:=.mk 5 0 [] r noRef []
def zA2 (a b:RefP):Nd:=.mk 6 0 [] a b []
def zDO (n:Nd):Nd:=.mk 7 0 [] noRef noRef [n]
def zAr (op:Nat) (a b:Nd):Nd:=.mk 8 op [] noRef noRef [a,b]
def zA0 (name:Bs) (ks:List Nd):Nd:=.mk 9 0 name noRef noRef ks
def zZ:Nd:=.mk 0 0 [] noRef noRef []
def zHE (c:UInt8):Bool:=decide (48<=c.toNat)&&decide (c.toNat<=57)
def zDp (l:Bs):Nat:=l.foldl (fun n c=>n*10+(c.toNat-48)) 0
def zCQ (t:Bs):Option Int:=
  if t=[]\/(t.head?=some 48/\t≠[48]) then none
  else if t.all zHE=true then (if zDp t<=9223372036854775807 then some (zDp t:Int) else none) else none
def zQj (c:UInt8):Bool:=decide (65<=c.toNat)&&decide (c.toNat<=90)
def dollar:Bs->Bool×Bs
  |[]=>(false,[])
  |c::r=>if c=36 then (true,r) else (false,c::r)
def zd7 (fc:Bool) (col:Int) (p:Bool×Bs):Option RefP:=
  match zCQ p.2 with
  |some n=>if 1<=n/\n<=99 then some ⟨col,n,fc,p.1⟩ else none
  |none=>none
def zTb (p:Bool×Bs):Option RefP:=
  match p.2 with
  |[]=>none
  |c::r=>if zQj c=true then zd7 p.1 ((c.toNat:Int)-64) (dollar r) else none
def zFG (t:Bs):Option RefP:=zTb (dollar t)
def zGA:Bs:=[84,82,85,69]
def zDc:Bs:=[70,65,76,83,69]
def zIu (t:Bs):Option Nd:=
  match zCQ t with
  |some n=>some (zKP n)
  |none=>if t=zGA then some (zFC true) else if t=zDc then some (zFC false) else (zFG t).map zB3
def zA8 (t:Bs):Bool:=decide (2<=t.length)&&decide (t.length<=10)&&t.all zQj
def zCE (t:Bs):Nat:=
  if t=[61] then 1 else if t=[60,62] then 2 else if t=[60] then 3 else if t=[60,61] then 4 else if t=[62] then 5 else if t=[62,61] then 6
  else if t=[38] then 7 else if t=[43] then 8 else if t=[45] then 9 else if t=[42] then 10 else if t=[47] then 11 else 0
def tight (op:Nat):Nat:=if op<=6 then 1 else if op=7 then 2 else if op<=9 then 3 else 4
def zIK (s:Bs) (a:Nat):Option (Nat×Nat):=
  match tok s a with
  |.sign e t=>if zCE t=0 then none else some (zCE t,e)
  |_=>none
structure Ps where
  one:Nat->Nat->Option (Nd×Nat)
  loose:Nat->Nat->Nat->Option (Nd×Nat)
  ll:Nat->Nd->Nat->Nat->Option (Nd×Nat)
  args:Bs->List Nd->Nat->Nat->Option (Nd×Nat)
def zD1 (s:Bs) (a:Nat):Option (Option (Nd×Nat)):=
  match tok s a with
  | .word e t=>match zFG t with
    |some r=>if s[e]?=some 58 then
        (match zBk s (e+1) with
          |.word e2 t2=>some ((zFG t2).map fun r2=>(zA2 r r2,e2))
          |_=>some none)
        else none
    |none=>none
  |_=>none
def zB8 (s:Bs) (q:Ps) (a d:Nat):Option (Nd×Nat):=
  match tok s a with
  | .word e t=>
    if zA8 t=true/\s[e]?=some 40 then
      (if d=30 then none else match tok s (e+1) with
        |.sign e2 [41]=>some (zA0 t [],e2)
        |_=>q.args t [] (e+1) (d+1))
    else (zIu t).map fun n=>(n,e)
  |.txt e t=>some (zHd t,e)
  |.bad e k=>some (zHg k,e)
  |.sign e [45]=>if d=30 then none else (q.one e (d+1)).map fun p=>(zDO p.1,p.2)
  | .sign e [40]=>if d=30 then none else (q.loose 1 e (d+1)).bind fun p=>match tok s p.2 with
    |.sign e2 [41]=>some (p.1,e2)
    |_=>none
  |_=>none
def zEd (q:Ps) (least a d:Nat):Option (Nd×Nat):=(q.one a d).bind fun p=>q.ll least p.1 p.2 d
def zOz (s:Bs) (q:Ps) (least:Nat) (n:Nd) (a d:Nat):Option (Nd×Nat):=
  match zIK s a with
  |none=>some (n,a)
  |some (op,e)=>if tight op<least then some (n,a) else (q.loose (tight op+1) e d).bind fun p=>q.ll least (zAr op n p.1) p.2 d
def zFk (s:Bs) (q:Ps) (a d:Nat):Option (Nd×Nat):=
  match zD1 s a with
  |some r=>r
  |none=>q.loose 1 a d
def zF0 (s:Bs) (q:Ps) (name:Bs) (ks:List Nd) (a d:Nat):Option (Nd×Nat):=
  (zFk s q a d).bind fun p=>match tok s p.2 with
    |.sign e [44]=>q.args name (ks++[p.1]) e d
    |.sign e [41]=>some (zA0 name (ks++[p.1]),e)
    |_=>none
def ps (s:Bs):Nat->Ps
  |0=>⟨fun _ _=>none,fun _ _ _=>none,fun _ _ _ _=>none,fun _ _ _ _=>none⟩
  |n+1=>⟨zB8 s (ps s n),zEd (ps s n),zOz s (ps s n),zF0 s (ps s n)⟩
structure Ends (s:Bs) (q:Ps):Prop where
  one:∀ a d p,a<=s.length->q.one a d=some p->a<p.2/\p.2<=s.length
  loose:∀ l a d p,a<=s.length->q.loose l a d=some p->a<p.2/\p.2<=s.length
  ll:∀ l n a d p,a<=s.length->q.ll l n a d=some p->a<=p.2/\p.2<=s.length
  args:∀ nm ks a d p,a<=s.length->q.args nm ks a d=some p->a<p.2/\p.2<=s.length
theorem zDn {s:Bs} {a op e:Nat} (h:zIK s a=some (op,e)):a<e/\e<=s.length:=by
  have ht:=zB7 s a;unfold zIK at h;split at h
  · rename_i e' t hk
    rw [hk] at ht;split at h
    · cases h
    · simp only [zlJ,zlT] at h
      obtain ⟨_,rfl⟩:=h;exact ht
  · cases h
theorem zRm {s:Bs} {a:Nat} {p:Nd×Nat} (h:zD1 s a=some (some p)):a<p.2/\p.2<=s.length:=by
  have ht:=zB7 s a;unfold zD1 at h;split at h
  · rename_i e t hk
    rw [hk] at ht;simp only [Tok.endsBy] at ht;split at h
    · rename_i r hr
      split at h
      · rename_i hc
        have h2:=zRl (s:=s) (a:=e+1);split at h
        · rename_i e2 t2 hk2
          rw [hk2] at h2;simp only [Tok.endsBy] at h2;simp only [zlJ,zlN] at h;obtain ⟨r2,_,rfl⟩:=h;exact ⟨by show a<e2;omega,h2.2⟩
        · cases h
      · cases h
    · cases h
  · cases h
theorem zYW {s:Bs} {q:Ps} (hq:Ends s q) (a d:Nat) (p:Nd×Nat) (ha:a<=s.length) (h:zB8 s q a d=some p):a<p.2/\p.2<=s.length:=by
  have ht:=zB7 s a;unfold zB8 at h;split at h
  · rename_i e t hk
    rw [hk] at ht;simp only [Tok.endsBy] at ht;split at h
    · rename_i hc
      have he:=(zg hc.2).1;split at h
      · cases h
      · have ht2:=zB7 s (e+1)
        split at h
        · rename_i e2 hk2
          rw [hk2] at ht2;simp only [Tok.endsBy] at ht2;cases h;exact ⟨by show a<e2;omega,ht2.2⟩
        · have:=hq.args _ _ _ _ p tO h
          omega
    · simp only [zlN] at h
      obtain ⟨_,_,rfl⟩:=h;exact ht
  · rename_i e t hk
    rw [hk] at ht;cases h;exact ht
  · rename_i e t hk
    rw [hk] at ht;cases h;exact ht
  · rename_i e hk
    rw [hk] at ht;simp only [Tok.endsBy] at ht;split at h
    · cases h
    · simp only [zlN] at h
      obtain ⟨p',h1,rfl⟩:=h;have:=hq.one e (d+1) p' tO h1;exact ⟨by show a<p'.2;omega,this.2⟩
  · rename_i e hk
    rw [hk] at ht;simp only [Tok.endsBy] at ht;split at h
    · cases h
    · rw [zlq] at h
      obtain ⟨p',h1,h2⟩:=h;have:=hq.loose 1 e (d+1) p' tO h1;have ht2:=zB7 s p'.2;split at h2
      · rename_i e2 hk2
        rw [hk2] at ht2;simp only [Tok.endsBy] at ht2;cases h2;exact ⟨by show a<e2;omega,ht2.2⟩
      · cases h2
  · cases h
theorem zIL {s:Bs} {q:Ps} (hq:Ends s q) (a d:Nat) (p:Nd×Nat) (ha:a<=s.length) (h:zFk s q a d=some p):a<p.2/\p.2<=s.length:=by
  unfold zFk at h;split at h
  · rename_i r hb
    subst h;exact zRm hb
  · exact hq.loose 1 a d p ha h
theorem zLV (s:Bs):∀ n,Ends s (ps s n)
  |0=>⟨fun _ _ _ _ h=>by simp [ps] at h,fun _ _ _ _ _ h=>by simp [ps] at h,fun _ _ _ _ _ _ h=>by simp [ps] at h,fun _ _ _ _ _ _ h=>by simp [ps] at h⟩
  | n+1=>by
    have ih:=zLV s n;refine ⟨fun a d p ha h=>zYW ih a d p ha h,fun l a d p ha h=>?_,fun l nd a d p ha h=>?_,fun nm ks a d p ha h=>?_⟩
    · change zEd (ps s n) l a d=some p at h
      unfold zEd at h;rw [zlq] at h;obtain ⟨p',h1,h2⟩:=h;have e1:=ih.one a d p' ha h1;have e2:=ih.ll l p'.1 p'.2 d p tO h2;omega
    · change zOz s (ps s n) l nd a d=some p at h
      unfold zOz at h;split at h
      · cases h;exact ⟨zlK _,ha⟩
      · rename_i op e ho
        have he:=zDn ho;split at h
        · cases h;exact ⟨zlK _,ha⟩
        · rw [zlq] at h
          obtain ⟨p',h1,h2⟩:=h;have e1:=ih.loose _ e d p' tO h1;have e2:=ih.ll l _ p'.2 d p tO h2;omega
    · change zF0 s (ps s n) nm ks a d=some p at h
      unfold zF0 at h;rw [zlq] at h;obtain ⟨p',h1,h2⟩:=h;have e1:=zIL ih a d p' ha h1;have ht:=zB7 s p'.2;split at h2
      · rename_i e hk
        rw [hk] at ht;simp only [Tok.endsBy] at ht;have:=ih.args _ _ e d p tO h2;omega
      · rename_i e hk
        rw [hk] at ht;simp only [Tok.endsBy] at ht;cases h2;exact ⟨by show a<e;omega,ht.2⟩
      · cases h2
structure Agree (s:Bs) (q r:Ps) (K:Nat):Prop where
  one:∀ a d,a<=s.length->4*(s.length-a)+1<=K->q.one a d=r.one a d
  loose:∀ l a d,a<=s.length->4*(s.length-a)+2<=K->q.loose l a d=r.loose l a d
  ll:∀ l n a d,a<=s.length->4*(s.length-a)+1<=K->q.ll l n a d=r.ll l n a d
  args:∀ nm ks a d,a<=s.length->4*(s.length-a)+3<=K->q.args nm ks a d=r.args nm ks a d
theorem zEe {α β:Type} {x y:Option α} {f g:α->Option β} (h:x=y) (hf:∀ p,y=some p->f p=g p):x.bind f=y.bind g:=by
  subst h;cases x with
  |none=>rfl
  |some p=>exact hf p rfl
theorem zQJ {s:Bs} {q r:Ps} {K:Nat} (h:Agree s q r K) {a:Nat} (d:Nat) (ha:a<=s.length) (hK:4*(s.length-a)+1<=K+1):zB8 s q a d=zB8 s r a d:=by
  have ht:=zB7 s a;unfold zB8;cases hk:tok s a with
  | word e t=>
    rw [hk] at ht;simp only [Tok.endsBy] at ht;simp only;split
    · rename_i hc
      have he:=(zg hc.2).1;split
      · rfl
      · rw [h.args t [] (e+1) (d+1) tO tO]
    · rfl
  | sign e t=>
    rw [hk] at ht;simp only [Tok.endsBy] at ht;have e1:=h.one e (d+1) tO tO;have e2:=h.loose 1 e (d+1) tO tO;by_cases h1:t=[45]
    · subst h1;simp only [e1]
    · by_cases h2:t=[40]
      · subst h2;simp only [e2]
      · split <;> first|rfl|(rename_i heq;cases heq <;> first|exact absurd rfl h1|exact absurd rfl h2)
  |_=>rfl
theorem zRn {s:Bs} {q r:Ps} {K:Nat} (h:Agree s q r K) (hr:Ends s r) (l:Nat) (n:Nd) {a:Nat} (d:Nat) (ha:a<=s.length) (hK:4*(s.length-a)+1<=K+1):zOz s q l n a d=zOz s r l n a d:=by
  unfold zOz;split
  · rfl
  · rename_i op e ho
    have he:=zDn ho;split
    · rfl
    · refine zEe (h.loose _ e d tO tO) fun p hp=>?_
      have:=hr.loose _ e d p tO hp;exact h.ll _ _ _ _ tO tO
theorem zN6 {s:Bs} {q r:Ps} {K:Nat} (h:Agree s q r K) (hr:Ends s r) (nm:Bs) (ks:List Nd) {a:Nat} (d:Nat) (ha:a<=s.length) (hK:4*(s.length-a)+3<=K+1):zF0 s q nm ks a d=zF0 s r nm ks a d:=by
  unfold zF0;have e1:zFk s q a d=zFk s r a d:=by
    unfold zFk;split
    · rfl
    · exact h.loose _ _ _ ha tO
  refine zEe e1 fun p hp=>?_;have h1:=zIL hr a d p ha hp;have ht:=zB7 s p.2;split
  · rename_i e hk
    rw [hk] at ht;simp only [Tok.endsBy] at ht;exact h.args _ _ _ _ tO tO
  · rfl
  · rfl
theorem zMh {s:Bs} {q r:Ps} {K:Nat} (h:Agree s q r K) (hr:Ends s r) (l:Nat) {a:Nat} (d:Nat) (ha:a<=s.length) (hK:4*(s.length-a)+2<=K+1):zEd q l a d=zEd r l a d:=by
  unfold zEd;refine zEe (h.one a d ha tO) fun p hp=>?_;have:=hr.one a d p ha hp;exact h.ll _ _ _ _ tO tO
theorem zXE (s:Bs):∀ K N M,K<=N->K<=M->Agree s (ps s N) (ps s M) K
  |0,_,_,_,_=>⟨fun _ _ _ h=>by omega,fun _ _ _ _ h=>by omega,fun _ _ _ _ _ h=>by omega,fun _ _ _ _ _ h=>by omega⟩
  | K+1,N,M,hN,hM=>by
    obtain ⟨n,rfl⟩:∃ n,N=n+1:=⟨N-1,by omega⟩;obtain ⟨m,rfl⟩:∃ m,M=m+1:=⟨M-1,by omega⟩;have ih:=zXE s K n m tO tO;have hr:=zLV s m;exact ⟨fun a d ha h=>zQJ ih d ha h,fun l a d ha h=>zMh ih hr l d ha h,fun l nd a d ha h=>zRn ih hr l nd d ha h,fun nm ks a d ha h=>zN6 ih hr nm ks d ha h⟩
def zVw (s:Bs):Nat:=4*s.length+3
def P (s:Bs):Ps:=ps s (zVw s+1)
theorem zDA (s:Bs):Ends s (P s):=zLV s _
theorem zSx (s:Bs):Agree s (ps s (zVw s)) (P s) (zVw s):=zXE s _ _ _ (zlK _) (Nat.le_succ _)
theorem zRL {s:Bs} {a:Nat} (d:Nat) (ha:a<=s.length):(P s).one a d=zB8 s (P s) a d:=zQJ (zSx s) d ha (by unfold zVw;omega)
theorem zJ9 {s:Bs} {a:Nat} (l d:Nat) (ha:a<=s.length):(P s).loose l a d=zEd (P s) l a d:=zMh (zSx s) (zDA s) l d ha (by unfold zVw;omega)
theorem zVR {s:Bs} {a:Nat} (l:Nat) (n:Nd) (d:Nat) (ha:a<=s.length):(P s).ll l n a d=zOz s (P s) l n a d:=zRn (zSx s) (zDA s) l n d ha (by unfold zVw;omega)
theorem zN7 {s:Bs} {a:Nat} (nm:Bs) (ks:List Nd) (d:Nat) (ha:a<=s.length):(P s).args nm ks a d=zF0 s (P s) nm ks a d:=zN6 (zSx s) (zDA s) nm ks d ha (by unfold zVw;omega)
def zAn (s:Bs):Option Nd:=
  if s.length<=200/\s.head?=some 61 then ((P s).loose 1 1 0).bind fun p=>match tok s p.2 with
    |.fin=>some p.1
    |_=>none
  else none
theorem zQK (s:Bs) (a:Nat):zIK s (skip s a)=zIK s a:=by unfold zIK;rw [zMg]
theorem zd8 {s:Bs} {a:Nat} (d:Nat) (ha:a<=s.length):(P s).one (skip s a) d=(P s).one a d:=by
  rw [zRL d (zCX ha),zRL d ha];unfold zB8;rw [zMg]
theorem zRo {s:Bs} {a:Nat} (l d:Nat) (ha:a<=s.length):(P s).loose l (skip s a) d=(P s).loose l a d:=by
  rw [zJ9 l d (zCX ha),zJ9 l d ha];unfold zEd;rw [zd8 d ha]
def bl (s:Bs) (r:Option (Nd×Nat)):Option (Nd×Nat):=r.map fun p=>(p.1,skip s p.2)
theorem zaR {s:Bs} {a:Nat} (l:Nat) (n:Nd) (d:Nat) (ha:a<=s.length):bl s ((P s).ll l n (skip s a) d)=bl s ((P s).ll l n a d):=by
  rw [zVR l n d (zCX ha),zVR l n d ha];unfold zOz;rw [zQK];split
  · simp only [bl,zlW,zGa]
  · split
    · simp only [bl,zlW,zGa]
    · rfl
theorem zd9 {s:Bs} (l d:Nat):∀ (k:Nat) (n:Nd) (a:Nat),a<=s.length->s.length-a<=k->(P s).ll l n a d=((P s).ll (l+1) n a d).bind fun p=>(P s).ll l p.1 p.2 d:=by
  intro k;induction k with
  | zero=>
    intro n a ha hk;have h0:zIK s a=none:=by
      cases h:zIK s a with
      |none=>rfl
      |some p=>obtain ⟨op,e⟩:=p;have:=zDn h;omega
    have h1:(P s).ll (l+1) n a d=some (n,a):=by rw [zVR _ n d ha];unfold zOz;rw [h0]
    rw [h1];rfl
  | succ k ih=>
    intro n a ha hk;cases h:zIK s a with
    | none=>
      have h1:(P s).ll (l+1) n a d=some (n,a):=by rw [zVR _ n d ha];unfold zOz;rw [h]
      rw [h1];rfl
    | some p=>
      obtain ⟨op,e⟩:=p;have he:=zDn h;by_cases ht:tight op<l+1
      · have h1:(P s).ll (l+1) n a d=some (n,a):=by rw [zVR _ n d ha];unfold zOz;rw [h];simp only;rw [zlF ht]
        rw [h1];rfl
      · have h1:∀ l',l'<=l+1->(P s).ll l' n a d=((P s).loose (tight op+1) e d).bind fun p=>(P s).ll l' (zAr op n p.1) p.2 d:=fun l' hl=>by
          rw [zVR _ n d ha];unfold zOz;rw [h];simp only;rw [zlD tO]
        rw [h1 l tO,h1 (l+1) (zlK _),Option.bind_assoc];refine zEe rfl fun p hp=>?_;have:=(zDA s).loose _ e d p tO hp;exact ih _ _ tO tO
theorem zhK {s:Bs} (l d:Nat):∀ (k:Nat) (n:Nd) (a:Nat) (p:Nd×Nat),a<=s.length->s.length-a<=k->(P s).ll l n a d=some p->∀ op e,zIK s p.2=some (op,e)->tight op<l:=by
  intro k;induction k with
  | zero=>
    intro n a p ha hk h op e ho;have:=(zDA s).ll _ _ _ _ p ha h;have:=zDn ho;omega
  | succ k ih=>
    intro n a p ha hk h op e ho;rw [zVR _ n d ha] at h;unfold zOz at h;split at h
    · rename_i h0
      cases h;rw [h0] at ho;cases ho
    · rename_i op' e' h0
      have he:=zDn h0;split at h
      · rename_i ht
        cases h;rw [h0] at ho;cases ho;exact ht
      · rw [zlq] at h
        obtain ⟨p',h1,h2⟩:=h;have:=(zDA s).loose _ e' d p' tO h1;exact ih _ _ p tO tO h2 op e ho
theorem zVx {s:Bs} {a:Nat} (l d:Nat) (ha:a<=s.length):(P s).loose l a d=((P s).loose (l+1) a d).bind fun p=>(P s).ll l p.1 p.2 d:=by
  rw [zJ9 l d ha,zJ9 (l+1) d ha];unfold zEd;rw [Option.bind_assoc];refine zEe rfl fun p hp=>?_;have:=(zDA s).one a d p ha hp;exact zd9 l d _ _ _ this.2 (zlK _)
theorem zYX {s:Bs} {a:Nat} (l d:Nat) (ha:a<=s.length) {p:Nd×Nat} (h:(P s).loose l a d=some p):∀ op e,zIK s p.2=some (op,e)->tight op<l:=by
  rw [zJ9 l d ha] at h;unfold zEd at h;rw [zlq] at h;obtain ⟨p',h1,h2⟩:=h;have:=(zDA s).one a d p' ha h1;exact zhK l d _ _ _ p this.2 (zlK _) h2
theorem zSy (op:Nat):1<=tight op/\tight op<=4:=by unfold tight;split;omega;split;omega;split <;> omega
theorem zaS {s:Bs} {a:Nat} (d:Nat) (ha:a<=s.length):(P s).loose 5 a d=(P s).one a d:=by
  rw [zJ9 5 d ha];unfold zEd;cases h:(P s).one a d with
  |none=>rfl
  | some p=>
    have:=(zDA s).one a d p ha h;show (P s).ll 5 p.1 p.2 d=some p;rw [zVR _ _ d this.2];unfold zOz;split
    · rfl
    · rename_i op e ho
      rw [zlF (by have:=(zSy op).2;omega)]
end Go.AM
