/- Several texts of mine in one (Am23, Err, Am25, Am27, Am29). Own work. -/
import Derived.Test.YtkeblfepjkdleaaGreatDoorGAm22An
import Derived.Below
import Derived.Test.YtkeblfepjkdleaaGreatDoorAc
set_option linter.all false
namespace Go.AM
open Go.RowKit
theorem zSn {P:Program} {GT:zG_} {w:World} {M:AMap} {I:Nat->Prop} {H H':Heap} {f:FuncId} {fn:Func} {args:List AV} {cargs:List Value} {v:AV}
  (hf:P.funcs[f]?=some fn) (hname:(fn.name == "runtime.NumGoroutine")=false) (hb:fn.body.isSome=true) (hg:Good P GT f args H v H') (hS:Sim GT w M I H) (hA:zEV w M I H.length args cargs) :
  Calls P f cargs.toArray w fun e w'=>∃ v',e=.returned v'/\∃ M' I',Grow w M I H w' M' I' H'/\Sim GT w' M' I' H'/\Rel w' M' I' H'.length v v':=by
 have h1:fn.name ≠ "runtime.NumGoroutine" := by simpa using hname
 obtain ⟨c,hb⟩:=zmH.1 hb;have hrun:(callFunc f cargs.toArray).run P w=.ok (.enter f cargs.toArray) w:=by simp [callFunc,hf,h1,hb]
 have h:=hg.n hA w M I cargs hS hA;rw [hrun] at h;exact h
def zHD (w:World):Nat->Prop:=fun k=>k<w.heap.size
theorem zSo {w w':World} {M M':AMap} {I I':Nat->Prop} {H':Heap} (h:Grow w M I [] w' M' I' H'):Below w.heap.size w w':=
 ⟨h.os,h.tape,h.output,h.size,fun k hk=>h.frame k hk (by rintro ⟨b,x,o,hb,_⟩;simp at hb)⟩
theorem zd4 (w:World) (M:AMap) (I:Nat->Prop) (n:Nat):zEV w M I n [] []:=⟨rfl,fun i c v h=>by simp at h⟩
theorem zMd {w:World} {M:AMap} {I:Nat->Prop} {n:Nat} {x:AV} {v:Value} {xs:List AV} {vs:List Value} (h:Rel w M I n x v) (hs:zEV w M I n xs vs):zEV w M I n (x::xs) (v::vs):=
 ⟨by rw [zlE,zlE,hs.1],fun i c u hc hu=>by
  cases i with
  |zero=>simp only [zmW,zlJ] at hc hu;subst hc;subst hu;exact h
  |succ i=>simp only [zm6] at hc hu;exact hs.2 i c u hc hu⟩
theorem zVt (w:World) (M:AMap) (I:Nat->Prop) (n:Nat) (s:ByteArray):Rel w M I n (.str s.data.toList) (.string s):=.str s.data.toList
theorem zMe {w:World} {M:AMap} {I:Nat->Prop} {n:Nat} {s:List UInt8} {v:Value} (h:Rel w M I n (.str s) v):v=.string ⟨s.toArray⟩:=by cases h;rfl
theorem zIq {w:World} {M:AMap} {I:Nat->Prop} {n:Nat} {k:IntKind} {m:Int} {v:Value} (h:Rel w M I n (.int k m) v):v=.int k m:=by cases h;rfl
theorem zKN {w:World} {M:AMap} {I:Nat->Prop} {n:Nat} {x:AV} {vs:List Value} (h:zEV w M I n [x] vs):∃ v,vs=[v]/\Rel w M I n x v:=by
 obtain ⟨hl,h⟩:=h;obtain ⟨v,rfl⟩:=znq.1 hl.symm;exact ⟨v,rfl,h 0 x v rfl rfl⟩
theorem zSp {w:World} {M:AMap} {I:Nat->Prop} {n:Nat} {x y:AV} {vs:List Value} (h:zEV w M I n [x,y] vs):∃ v u,vs=[v,u]/\Rel w M I n x v/\Rel w M I n y u:=by
 obtain ⟨hl,h⟩:=h
 match vs,hl with
 |[v,u],_=>exact ⟨v,u,rfl,h 0 x v rfl rfl,h 1 y u rfl rfl⟩
theorem zIr {GT:zG_} {w w':World} {M:AMap} {I:Nat->Prop} {H:Heap} (hS:Sim GT w M I H) (h:Below w.heap.size w w'):Grow w M I H w' M I H/\Sim GT w' M I H:=by
 have hb:∀ k,k<w.heap.size->w'.heap[k]?=w.heap[k]?:=fun k hk=>h.block k hk;have hs:∀ g s,w.shape? g=some s->w'.shape? g=some s:=fun g s hg=>by
  have hlt:g<w.heap.size:=by
   unfold World.shape? at hg;split at hg
   ·rename_i e;exact (zlZ.1 e).1
   ·cases hg
  rw [zBm (hb g hlt)];exact hg
 refine ⟨⟨h.os,h.tape,h.output,h.size,fun _ _=>rfl,fun _ h=>h,fun _ h _=>.inl h,fun k hk _=>hb k hk,fun _ _ h=>h,hs,zlK _⟩, ?_⟩;refine ⟨fun g x hg=>(hS.glob g x hg).mono (fun _ h=>h) (fun k hk=>hb k (hS.idom k hk)) (fun _ _=>rfl) (zlK _) hs,fun k hk=>zl4 (hS.idom k hk) h.size,fun b x hx=>?_,hS.inj,fun g x hg=>(hS.shp g x hg).imp fun e h=>hs g _ h⟩;exact (hS.blk b x hx).mono (zl_ hx) (fun _ h=>h) (fun k hk=>hb k (hS.idom k hk)) (fun _ _=>rfl) (zlK _) hs (fun g o hM hm=>hb g (hS.live_lt ⟨b,x,o,hx,hm,hM⟩)) (fun _ _ _ _ h=>h)
theorem zE3 {P:Program} {GT:zG_} {f:FuncId} {fn:Func} {args:List AV} {H:Heap} {v:AV} (hf:P.funcs[f]?=some fn) (hname:(fn.name == "runtime.NumGoroutine")=false) (hb:fn.body.isSome=true)
  (h:∀ (w:World) (M:AMap) (I:Nat->Prop) (cargs:List Value),Sim GT w M I H->zEV w M I H.length args cargs->Calls P f cargs.toArray w fun e w'=>∃ v',e=.returned v'/\Below w.heap.size w w'/\Rel w' M I H.length v v') (hn:zKZ args=true:=by first|rfl|exact Go.AM.zHp (by assumption)|exact Go.AM.zPV (by assumption)|exact Go.AM.zPW (by assumption)):Good P GT f args H v H:=by
 refine zJh hn ?_;intro w M I cargs hS hA;have h1:fn.name ≠ "runtime.NumGoroutine" := by simpa using hname
 obtain ⟨c,hb⟩:=zmH.1 hb;have hrun:(callFunc f cargs.toArray).run P w=.ok (.enter f cargs.toArray) w:=by simp [callFunc,hf,h1,hb]
 rw [hrun];exact (h w M I cargs hS hA).mono fun e w' ⟨v',he,hB,hR⟩=>⟨v',he,M,I,(zIr hS hB).1,(zIr hS hB).2,hR⟩
theorem zXB {w:World} {M:AMap} {I:Nat->Prop} {n:Nat} {a v:Value} (h:Rel w M I n (.raw a) v):v=a:=by cases h;rfl
theorem zaN {P:Program} {f:FuncId} {fn:Func} {args:Array Value} {w:World} (hf:P.funcs[f]?=some fn) (hname:(fn.name == "runtime.NumGoroutine")=false) (hb:fn.body.isSome=true):(callFunc f args).run P w=.ok (.enter f args) w:=by
 have h1:fn.name ≠ "runtime.NumGoroutine" := by simpa using hname
 obtain ⟨c,hb⟩:=zmH.1 hb;simp [callFunc,hf,h1,hb]
theorem zVu {GT:zG_} {w:World} {M:AMap} {I:Nat->Prop} {H:Heap} (hS:Sim GT w M I H) {b g o:Nat} {c x:AV} {v:Value} (hb:H[b]?=some (.box [c])) (hM:M b=some (g,o)) (hr:∀ w,Rel w M I H.length x v) :
  Grow w M I H (w.setCell ⟨g,o,none⟩ v) M I (H.set b (.box [x]))/\Sim GT (w.setCell ⟨g,o,none⟩ v) M I (H.set b (.box [x])):=by
 obtain ⟨g',o',cur,h1,⟨e,fz,hg,hfz⟩,h3,h4,h5⟩:=hS.blk b _ hb;rw [hM] at h1;simp only [zlJ,zlT] at h1;obtain ⟨rfl,rfl⟩:=h1;have hlt:=(zlZ.1 hg).1;have hh:(w.setCell ⟨g,o,none⟩ v).heap=w.heap.setIfInBounds g (.cells (cur.setIfInBounds o v) e fz):=by
  apply zmo;intro i;simp only [World.setCell,zmd,zlh];by_cases hi:g=i
  ·subst hi;have hg':w.heap[g]=.cells cur e fz:=(zlZ.1 hg).2;simp [hlt,hg']
  ·simp [hi]
 refine Sim.write hS hb rfl hM hg zS_ hh rfl rfl rfl ⟨g,o,cur.setIfInBounds o v,hM,⟨e,fz, ?_, ?_⟩,h3, ?_,fun j c' hj=>?_⟩
 ·rw [hh,zlh,zlF rfl,zlF hlt]
 ·simpa using hfz
 ·simpa using h4
 ·cases j with
  |zero=>
   simp only [zmW,zlJ] at hj;subst hj;refine ⟨v, ?_,hr _⟩;simp only [zlE,zlL] at h4;rw [zm3,zlh,zlF rfl,zlF tO]
  |succ j=>simp at hj
def zJG (n:Int):AV:=.iface zO (.int .i64 n)
def zH (n:Int):AV:=.int .i64 n
def zjl (x:AV) (n:Int):Prop:=(x=.nili/\n=0)\/x=zJG n
structure retQ (F:AF) (H:Heap) (fr:Fr) (H1:Heap) (Q:AV->Heap->Prop):Prop where
 h:∃ v H',zHj F H fr H1 v H'/\Q v H'
theorem zNc {F:AF} {H:Heap} {fr:Fr} {H1:Heap} {Q:AV->Heap->Prop} {v:AV} {H':Heap} (h:retP F H fr H1 v H') (q:Q v H'):retQ F H fr H1 Q:=⟨v,H',zW4.1 h,q⟩
def zaO (F:AF) (H:Heap) (v:AV) (H':Heap):Post:=fun e fr H1=>match e with
  |.normal=>retP F H fr H1 v H'
  |.ret=>retP F H fr H1 v H'
  |_=>False
theorem zJ {C:CSpec} {GT:zG_} {F:AF} {args:List AV} {H:Heap} {v:AV} {H':Heap} (h:EW C GT F.body (zaO F H v H') (zGi 0 args) H):EFun C GT F args H v H':=h
def finQ (F:AF) (H:Heap) (Q:AV->Heap->Prop):Post:=fun e fr H1=>match e with
  |.normal=>retQ F H fr H1 Q
  |.ret=>retQ F H fr H1 Q
  |_=>False
def zE4 (C:CSpec) (GT:zG_) (F:AF) (args:List AV) (H:Heap) (Q:AV->Heap->Prop):Prop:=EW C GT F.body (finQ F H Q) (zGi 0 args) H
def AC.rest:AC->AC
 |.seq _ b=>b
 |c=>c
def AC.first:AC->AC
 |.seq a _=>a
 |c=>c
def AC.body:AC->AC
 |.block _ _ c=>c
 |.loop _ c=>c
 |c=>c
def AC.behind (c:AC):Nat->AC
 |0=>c
 |n+1=>(c.behind n).rest
theorem zSq {C:CSpec} {GT:zG_} {F:AF} {args:List AV} {H:Heap} {Q:AV->Heap->Prop} (hd:det F.body=true) (h:zE4 C GT F args H Q):∃ v H',Q v H'/\AFun C GT F args H v H':=by
 have h1:AW C GT F.body (fun e fr H1=>match e with
   |.normal=>∃ v H',zHj F H fr H1 v H'/\Q v H'
   |.ret=>∃ v H',zHj F H fr H1 v H'/\Q v H'
   |_=>False) (zGi 0 args) H:=by
  refine zF3 _ _ _ _ _ H rfl (fun e f f' H1 hf h=>?_) h;have:retQ F H f H1 Q->∃ v H',zHj F H f' H1 v H'/\Q v H':=fun ⟨v,H',h,q⟩=>⟨v,H',by
   unfold zHj at h ⊢;rw [<-zFb hf];exact h,q⟩
  cases e with
  |normal=>exact this h
  |ret=>exact this h
  |_=>exact h
 obtain ⟨e,fr',H1,hk,hall⟩:=zZ7 _ hd _ _ _ h1;cases e with
 |normal=>obtain ⟨v,H',hr,hq⟩:=hk;exact ⟨v,H',hq,hall _ hr⟩
 |exit id=>exact hk.elim
 |goto l=>exact hk.elim
 |pan x=>exact hk.elim
 |ret=>obtain ⟨v,H',hr,hq⟩:=hk;exact ⟨v,H',hq,hall _ hr⟩
theorem zIs {P:Program} {GT:zG_} (hm:P.follows .mixedOrders=true) {f:FuncId} {F:AF} (hc:zt P f F=true) {args:List AV} {H:Heap} {Q:AV->Heap->Prop} (h:zE4 (Good P GT) GT F args H Q) (hn:zKZ args=true:=by first|rfl|exact Go.AM.zHp (by assumption)|exact Go.AM.zPV (by assumption)|exact Go.AM.zPW (by assumption)) (hd:det F.body=true:=by rfl):∃ v H',Q v H'/\Good P GT f args H v H':=by
 obtain ⟨v,H',hq,ha⟩:=zSq hd h;exact ⟨v,H',hq,zLG hm hc ha hn⟩
theorem zEI {x:Int} {r:Nat} {K:Int->Prop} (h:x=r) (hr:r<=9223372036854775807) (k:K (r:Int)):valP (IntKind.wrap .u64 x) K:=
 zDh (by rw [IntWalk.u64_in x tO,h]) k
theorem Owns.apart {H0 H:Heap} {v w:AV} {k k':Nat} {xs ys:List AV} (h:Owns H0 H v k xs) (g:Owns H0 H w k' ys) (hne:∀ x y,x∈xs->y∈ys->x≠y) {b:Nat} (hb:w.blk=some b):v.blk≠some b:=by
 intro e;rcases h with ⟨rfl,_⟩|⟨b1,rfl,_,h2,h3⟩
 ·cases e
 ·rcases g with ⟨rfl,_⟩|⟨b2,rfl,_,g2,g3⟩
  ·cases hb
  ·simp only [AV.blk,zlJ] at e hb;subst e;subst hb;rw [h2] at g2;simp only [zlJ,ABlk.row.injEq] at g2;obtain ⟨_,rfl⟩:=g2;cases xs with
   |nil=>exact h3 rfl
   |cons x xs=>exact hne x x zS_ zS_ rfl
theorem Owns.after {H0 H H':Heap} {v w:AV} {k:Nat} {ys:List AV} (hw:Owns H0 H w k ys) (hap:∀ b,w.blk=some b->v.blk≠some b) (hfr:∀ c x,v.blk≠some c->H[c]?=some x->H'[c]?=some x):Owns H0 H' w k ys:=
 hw.keep fun b x hb hx=>hfr b x (hap b hb) hx
def zUQ:AC->Option (List Nat)
 |.reg L _ _=>some L
 |.seq a _=>zUQ a
 |.block _ _ c=>zUQ c
 |.loop L _=>some L
 |.regt L _ _ _=>some L
 |.scope _ _ c _=>zUQ c
 |_=>none
theorem zhJ {C:CSpec} {GT:zG_} {fr F:Fr} {H:Heap} {L:List Nat} (hr:zT fr L=zT F L):∀ (c:AC) (K:Post),zUQ c=some L->EW C GT c K F H->EW C GT c K fr H:=by
 intro c;induction c with
 |reg L' d ops=>
  intro K h g;simp only [zUQ,zlJ] at h;subst h;replace g:EWops C GT ops [] (zT F L') H (fun fr' H'=>K .normal fr' H'):=g;rw [<-hr] at g;exact g
 |seq a b iha ihb=>intro K h g;exact iha (zXv (EW C GT b K) K) h g
 |block id L' c ih=>intro K h g;exact ih (zJi id L' K) h g
 |loop L' c ih=>
  intro K h g;simp only [zUQ,zlJ] at h;subst h;replace g:loopP C GT L' c K (zT F L') H:=g;rw [<-hr] at g;exact g
 |regt L' d ops t=>
  intro K h g;simp only [zUQ,zlJ] at h;subst h;replace g:EWT C GT ops t [] (zT F L') H (fun fr' H'=>K .normal fr' H') (fun x H'=>K (.pan x) [] H'):=g;rw [<-hr] at g;exact g
 |scope L' l c r ihc ihr=>intro K h g;exact ihc (zSE l (fun fr' H'=>gotoP C GT L' l r K (zT fr' L') H') K) h g
 |label=>intro K h;cases h
 |goto=>intro K h;cases h
 |skip=>intro K h;cases h
 |cond=>intro K h;cases h
 |exit=>intro K h;cases h
 |ret=>intro K h;cases h
 |stuck=>intro K h;cases h
theorem zFM {C:CSpec} {GT:zG_} {c:AC} {K:Post} {L:List Nat} {fr F:Fr} {H:Heap} (hc:zUQ c=some L) (g:EW C GT c K F H) (hr:zT fr L=zT F L):zXv (EW C GT c K) K .normal fr H:=
 zhJ hr c K hc g
def zK (k:Nat):AV:=.int .i64 k
theorem zL {b k s o:Nat} {v:AV} {cs:List AV} (cs':List AV) {H:Heap} {K:AV->Heap->Prop} (h:H[b]?=some (.box cs)) (hl:v.cells.length=s) (h1:v.cells.all AV.one=true) (ho:Nat.ble (o+s) cs.length=true) (he:splice cs o v.cells=cs')
  (q:K .undef (H.set b (.box cs'))):actP (.store s) [.ref b k 0 o,v] H K:=
 zaJ h hl h1 (Nat.le_of_ble_eq_true ho) (by rw [he];exact q)
theorem zDe.one {v:AV} {k:Nat} {xs:List AV} (h:zDe v k xs):v.cells=[v]/\v.one=true:=by obtain ⟨q,k',rfl,_⟩:=h;exact ⟨rfl,rfl⟩
theorem Owns.one {H0 H:Heap} {v:AV} {k:Nat} {xs:List AV} (h:Owns H0 H v k xs):v.cells=[v]/\v.one=true:=by
 rcases h with ⟨rfl,_⟩|⟨b',rfl,_⟩ <;> exact ⟨rfl,rfl⟩
theorem zAa {F:AF} {a s:Nat} {ag:Bool} {H H1:Heap} {fr:Fr} {v:AV} {cs:List AV} {o:Nat} (hF:F.results=[.cell a s ag]) (hk:F.keep=false) (hp:zAD H1 (zL0 fr a)=some (cs,o)) (hpt:part cs o s ag=some v)
  (hf:zEM H.length v H1=some (v,H1)) (hb:v.bel H.length=true) (ho:Old H H1):retP F H fr H1 v H:=by
 refine zAv hk ?_ hf hb ho;rw [zFl] at hp;simp only [hF,zBh,zLj,hp,hpt,zlW];rfl
end Go.AM
