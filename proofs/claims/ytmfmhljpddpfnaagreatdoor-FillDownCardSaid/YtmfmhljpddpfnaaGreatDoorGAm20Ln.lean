/- Several texts of mine in one (Am20, Am21, Am22, Ln). Own work. -/
import Derived.Test.YtmfmhljpddpfnaaGreatDoorGAm13Am19
import Derived.IntWalk
set_option linter.all false
namespace Go.AM
def zPw (b:Bool) (A B:Prop):Prop:=match b with|true=>A|false=>B
structure condP (b:Bool) (A B:Prop):Prop where
 h:zPw b A B
theorem zLH (b:Bool) (A B:Prop):condP b A B=zPw b A B:=propext ⟨fun x=>x.h,fun x=>⟨x⟩⟩
def zc6 {α:Type} (o:Option α) (K:α->Prop):Prop:=∃ v,o=some v/\K v
structure optP {α:Type} (o:Option α) (K:α->Prop):Prop where
 h:zc6 o K
theorem zVG {α:Type} (o:Option α) (K:α->Prop):optP o K=zc6 o K:=propext ⟨fun x=>x.h,fun x=>⟨x⟩⟩
def zVH (p K:Prop):Prop:=p/\K
structure needP (p K:Prop):Prop where
 h:zVH p K
theorem zSB (p K:Prop):needP p K=zVH p K:=propext ⟨fun x=>x.h,fun x=>⟨x⟩⟩
def zc7 (x:Int) (K:Int->Prop):Prop:=K x
structure valP (x:Int) (K:Int->Prop):Prop where
 h:zc7 x K
theorem zVI (x:Int) (K:Int->Prop):valP x K=zc7 x K:=propext ⟨fun x=>x.h,fun x=>⟨x⟩⟩
def zc8 (k:AK) (vs:List AV) (H:Heap) (K:AV->Heap->Prop):Prop:=∃ v H',astep k vs H=some (v,H')/\K v H'
structure actP (k:AK) (vs:List AV) (H:Heap) (K:AV->Heap->Prop):Prop where
 h:zc8 k vs H K
theorem zVJ (k:AK) (vs:List AV) (H:Heap) (K:AV->Heap->Prop):actP k vs H K=zc8 k vs H K:=propext ⟨fun x=>x.h,fun x=>⟨x⟩⟩
def zSC (C:CSpec) (f:FuncId) (vs:List AV) (rd:Bool) (H:Heap) (K:AV->Heap->Prop):Prop:=∃ v H',C f vs H v H'/\(rd=true->H'=H)/\K v H'
structure callP (C:CSpec) (f:FuncId) (vs:List AV) (rd:Bool) (H:Heap) (K:AV->Heap->Prop):Prop where
 h:zSC C f vs rd H K
theorem zN0 (C:CSpec) (f:FuncId) (vs:List AV) (rd:Bool) (H:Heap) (K:AV->Heap->Prop):callP C f vs rd H K=zSC C f vs rd H K:=propext ⟨fun x=>x.h,fun x=>⟨x⟩⟩
def zc9 (xs:List AV) (n:Int) (K:AV->Prop):Prop:=∃ x,0<=n/\xs[n.toNat]?=some x/\K x
structure idxP (xs:List AV) (n:Int) (K:AV->Prop):Prop where
 h:zc9 xs n K
theorem zVK (xs:List AV) (n:Int) (K:AV->Prop):idxP xs n K=zc9 xs n K:=propext ⟨fun x=>x.h,fun x=>⟨x⟩⟩
def zdA (s:List UInt8) (n:Int) (K:UInt8->Prop):Prop:=∃ c,0<=n/\s[n.toNat]?=some c/\K c
structure chrP (s:List UInt8) (n:Int) (K:UInt8->Prop):Prop where
 h:zdA s n K
theorem zVL (s:List UInt8) (n:Int) (K:UInt8->Prop):chrP s n K=zdA s n K:=propext ⟨fun x=>x.h,fun x=>⟨x⟩⟩
def zdB (F:AF) (H:Heap) (fr:Fr) (H1:Heap) (v:AV) (H':Heap):Prop:=zHM F H fr H1 v H'
structure retP (F:AF) (H:Heap) (fr:Fr) (H1:Heap) (v:AV) (H':Heap):Prop where
 h:zdB F H fr H1 v H'
theorem zVM (F:AF) (H:Heap) (fr:Fr) (H1:Heap) (v:AV) (H':Heap):retP F H fr H1 v H'=zdB F H fr H1 v H':=propext ⟨fun x=>x.h,fun x=>⟨x⟩⟩
theorem zD {A B:Prop} (h:A):condP true A B:=by rw [zLH];unfold zPw;exact h
theorem zC {A B:Prop} (h:B):condP false A B:=by rw [zLH];unfold zPw;exact h
theorem zEO {b:Bool} {A B:Prop} (ht:b=true->A) (hf:b=false->B):condP b A B:=by
 rw [zLH];unfold zPw;cases b
 ·exact hf rfl
 ·exact ht rfl
theorem za {α:Type} {o:Option α} {K:α->Prop} {v:α} (h:o=some v) (k:K v):optP o K:=by rw [zVG];unfold zc6;exact ⟨v,h,k⟩
theorem zBA {p K:Prop} (h:p) (k:K):needP p K:=by rw [zSB];unfold zVH;exact ⟨h,k⟩
theorem zCl {x r:Int} {K:Int->Prop} (h:x=r) (k:K r):valP x K:=by rw [zVI];unfold zc7;subst h;exact k
theorem zMj {k:AK} {vs:List AV} {H H':Heap} {K:AV->Heap->Prop} {v:AV} (h:astep k vs H=some (v,H')) (hk:K v H'):actP k vs H K:=by rw [zVJ];unfold zc8;exact ⟨v,H',h,hk⟩
theorem zBc {C:CSpec} {f:FuncId} {vs:List AV} {rd:Bool} {H H':Heap} {K:AV->Heap->Prop} {v:AV} (h:C f vs H v H') (hr:rd=true->H'=H) (k:K v H'):callP C f vs rd H K:=by rw [zN0];unfold zSC;exact ⟨v,H',h,hr,k⟩
theorem zI {C:CSpec} {f:FuncId} {vs:List AV} {rd:Bool} {H:Heap} {K:AV->Heap->Prop} {v:AV} (h:C f vs H v H) (k:K v H):callP C f vs rd H K:=by rw [zN0];unfold zSC;exact ⟨v,H,h,fun _=>rfl,k⟩
theorem sIdxP {xs:List AV} {n:Int} {i:Nat} {x:AV} {K:AV->Prop} (hn:n=(i:Int)) (h:xs[i]?=some x) (k:K x):idxP xs n K:=by rw [zVK];unfold zc9;subst hn;exact ⟨x,zoI i,by simpa using h,k⟩
theorem zCF {s:List UInt8} {n:Int} {i:Nat} {c:UInt8} {K:UInt8->Prop} (hn:n=(i:Int)) (h:s[i]?=some c) (k:K c):chrP s n K:=by rw [zVL];unfold zdA;subst hn;exact ⟨c,zoI i,by simpa using h,k⟩
theorem zcs {F:AF} {H H1 H':Heap} {fr:Fr} {v:AV} (h:zHM F H fr H1 v H'):retP F H fr H1 v H':=by rw [zVM];unfold zdB;exact h
def intN (op:BinOp) (k:IntKind) (a b:Int) (K:AV->Prop):Prop:=
 match op with
 |.add=>valP (k.wrap (a+b)) fun r=>K (.int k r)
 |.sub=>valP (k.wrap (a-b)) fun r=>K (.int k r)
 |.mul=>valP (k.wrap (a*b)) fun r=>K (.int k r)
 |.quo=>needP (b≠0) (valP (k.wrap (a.tdiv b)) fun r=>K (.int k r))
 |.rem=>needP (b≠0) (valP (a.tmod b) fun r=>K (.int k r))
 |.eql=>K (.bool (a==b))
 |.neq=>K (.bool (a != b))
 |.lss=>K (.bool (decide (a<b)))
 |.leq=>K (.bool (decide (a<=b)))
 |.gtr=>K (.bool (decide (a>b)))
 |.geq=>K (.bool (decide (a>=b)))
 |op=>optP (zIS op k a b) K
def zQn:BinOp->Bool
 |.shl=>true
 |.shr=>true
 |_=>false
def strN (op:BinOp) (a b:List UInt8) (K:AV->Prop):Prop:=
 match op with
 |.add=>needP (a.length+b.length<=9223372036854775807) (K (.str (a++b)))
 |.eql=>K (.bool (a==b))
 |.neq=>K (.bool (!(a==b)))
 |.lss=>K (.bool (Op.bytesLess a b))
 |op=>optP (zPg op a b) K
def zVN (a b:IntKind):Bool:=decide (a=b)
def binN (op:BinOp) (x y:AV) (K:AV->Prop):Prop:=
 match x with
 |.int k a=>(match y with
  |.int k' b=>(match zQn op with
   |true=>optP (zCT op k a b) K
   |false=>(match zVN k k' with
    |true=>intN op k a b K
    |false=>False))
  |_=>False)
 |.str a=>(match y with
  |.str b=>strN op a b K
  |_=>False)
 |_=>False
def zTu (x:AV) (K:Bool->Prop):Prop:=
 match x with
 |.bool b=>K b
 |_=>False
def zL9 (neg:Bool) (b:Bool):Bool:=match neg with|true=>!b|false=>b
def unN (op:UnOp) (x:AV) (K:AV->Prop):Prop:=
 match x with
 |.bool b=>(match op with
  |.not=>K (.bool (!b))
  |_=>False)
 |x=>optP (aUn op x) K
def zY7 (x:AV) (K:Int->Prop):Prop:=
 match x with
 |.lst _ _ xs=>K (xs.length:Int)
 |.sl _ _ _ _ n=>K (n:Int)
 |_=>False
structure lenP (x:AV) (K:Int->Prop):Prop where
 h:zY7 x K
theorem zQo (x:AV) (K:Int->Prop):lenP x K=zY7 x K:=propext ⟨fun x=>x.h,fun x=>⟨x⟩⟩
def lenN (s:Bool) (x:AV) (K:Int->Prop):Prop:=
 match s with
 |true=>(match x with
  |.str t=>K (t.length:Int)
  |_=>False)
 |false=>lenP x K
def zSD (x:AV) (K:Int->Prop):Prop:=
 match x with
 |.int _ n=>K n
 |_=>False
def zSE (k:Nat) (x:AV) (n:Int) (K:AV->Prop):Prop:=
 match x with
 |.lst _ k' xs=>needP (k'=k) (idxP xs n fun x=>K (.lref x 0))
 |.sl _ b k' off len=>needP (k'=k/\0<=n/\n<(len:Int)) (K (.ref b k (off+n.toNat) 0))
 |_=>False
structure idxN (k:Nat) (x:AV) (n:Int) (K:AV->Prop):Prop where
 h:zSE k x n K
theorem zJe (k:Nat) (x:AV) (n:Int) (K:AV->Prop):idxN k x n K=zSE k x n K:=propext ⟨fun x=>x.h,fun x=>⟨x⟩⟩
def zVO (s:Nat) (ag:Bool) (p:AV) (H:Heap) (K:AV->Prop):Prop:=
 match p with
 |.lref x o=>optP (part x.cells o s ag) K
 |p=>optP (zy H p) fun co=>optP (part co.1 co.2 s ag) K
structure loadN (s:Nat) (ag:Bool) (p:AV) (H:Heap) (K:AV->Prop):Prop where
 h:zVO s ag p H K
theorem zSF (s:Nat) (ag:Bool) (p:AV) (H:Heap) (K:AV->Prop):loadN s ag p H K=zVO s ag p H K:=propext ⟨fun x=>x.h,fun x=>⟨x⟩⟩
def slcN (k:Option Nat) (lo hi:Bool) (vs:List AV) (K:AV->Prop):Prop:=
 match vs with
 |[]=>False
 |x::ys=>(match lo with
  |true=>(match hi with
   |true=>(match ys with
    |[l,h]=>optP (zCm k x (some l) (some h)) K
    |_=>False)
   |false=>(match ys with
    |[l]=>optP (zCm k x (some l) none) K
    |_=>False))
  |false=>(match hi with
   |true=>(match ys with
    |[h]=>optP (zCm k x none (some h)) K
    |_=>False)
   |false=>(match ys with
    |[]=>optP (zCm k x none none) K
    |_=>False)))
def zi7 (o:Nat) (x:AV) (K:AV->Prop):Prop:=
 match x with
 |.ref b k i oo=>K (.ref b k i (oo+o))
 |.lref x oo=>K (.lref x (oo+o))
 |_=>False
def tyN (t:TypeId) (x:AV) (K:AV->Prop):Prop:=
 match x with
 |.iface t' y=>needP (t'=t) (K (.tup [y,.bool true]))
 |_=>False
def extN (i:Nat) (x:AV) (K:AV->Prop):Prop:=
 match x with
 |.tup vs=>optP (vs[i]?) K
 |_=>False
def eqsN (neg:Bool) (sh:List Sc) (x y:AV) (K:AV->Prop):Prop:=
 match x with
 |.agg x=>(match y with
  |.agg y=>optP (zBe sh x y) fun b=>K (.bool (zL9 neg b))
  |_=>False)
 |_=>False
def chkN (x:AV) (K:AV->Prop):Prop:=
 match x with
 |.ref b k i o=>K (.ref b k i o)
 |.lref y o=>K (.lref y o)
 |.fn f a b=>K (.fn f a b)
 |_=>False
def zgb (x:AV) (K:List UInt8->Prop):Prop:=
 match x with
 |.str s=>K s
 |_=>False
def aggN (x:AV) (K:List AV->Prop):Prop:=
 match x with
 |.agg cs=>K cs
 |_=>False
def zSG (C:CSpec) (k:AK) (vs:List AV) (H:Heap) (K:AV->Heap->Prop):Prop:=
 match k with
 |.mv=>(match vs with
  |[x]=>K x H
  |_=>False)
 |.pick=>(match vs with
  |[c,x,y]=>zTu c fun c=>condP c (K x H) (K y H)
  |_=>False)
 |.bin op=>(match vs with
  |[x,y]=>binN op x y fun v=>K v H
  |_=>False)
 |.eqs neg sh=>(match vs with
  |[x,y]=>eqsN neg sh x y fun v=>K v H
  |_=>False)
 |.eqb neg=>(match vs with
  |[x,y]=>zTu x fun a=>zTu y fun b=>K (.bool (zL9 neg (a==b))) H
  |_=>False)
 |.eqn e neg lit=>(match vs with
  |[x,y]=>optP (zcw e lit x y) fun b=>K (.bool (zL9 neg b)) H
  |_=>False)
 |.un op=>(match vs with
  |[x]=>unN op x fun v=>K v H
  |_=>False)
 |.convInt k=>(match vs with
  |[x]=>zSD x fun n=>valP (k.wrap n) fun r=>K (.int k r) H
  |_=>False)
 |.convRune=>(match vs with
  |[x]=>zSD x fun n=>K (.str (Utf8.encode n).data.toList) H
  |_=>False)
 |.mkIface t=>(match vs with
  |[x]=>K (.iface t x) H
  |_=>False)
 |.tyAs t=>(match vs with
  |[x]=>tyN t x fun v=>K v H
  |_=>False)
 |.mkFn f m=>K (.fn f (vs.take m) (vs.drop m)) H
 |.len s=>(match vs with
  |[x]=>lenN s x fun n=>K (.int .i64 n) H
  |_=>False)
 |.slc k lo hi=>slcN k lo hi vs fun v=>K v H
 |.fieldAddr o=>(match vs with
  |[x]=>zi7 o x fun v=>K v H
  |_=>False)
 |.idxAddr k=>(match vs with
  |[x,n]=>zSD n fun n=>idxN k x n fun v=>K v H
  |_=>False)
 |.idxArr k m=>(match vs with
  |[x,n]=>zSD n fun n=>needP (0<=n/\n<(m:Int)) (zi7 (n.toNat*k) x fun v=>K v H)
  |_=>False)
 |.idxStr=>(match vs with
  |[x,n]=>zgb x fun s=>zSD n fun n=>chrP s n fun c=>K (zq c) H
  |_=>False)
 |.idxAgg k m ag=>(match vs with
  |[x,n]=>aggN x fun cs=>zSD n fun n=>needP (0<=n/\n<(m:Int)) (optP (part cs (n.toNat*k) k ag) fun v=>K v H)
  |_=>False)
 |.nilchk=>(match vs with
  |[x]=>chkN x fun v=>K v H
  |_=>False)
 |.extract i=>(match vs with
  |[x]=>extN i x fun v=>K v H
  |_=>False)
 |.load s ag=>(match vs with
  |[p]=>loadN s ag p H fun v=>K v H
  |_=>False)
 |.alloc z=>(match vs with
  |[]=>K (.ref H.length 0 0 0) (H++[.box z])
  |_=>False)
 |.build z pl=>optP (zFY z pl vs) fun cs=>K (.agg cs) H
 |.call f rd=>callP C f vs rd H K
 |.callv rd=>(match vs with
  |[]=>False
  |x::args=>(match x with
   |.fn f first caps=>callP C f (first++args++caps) rd H K
   |_=>False))
 |.stuck=>False
 |k=>actP k vs H K
def zG1:List (Nat×Option Bool)->Nat->Option Bool
 |[],_=>none
 |(j,b)::r,i=>match Nat.beq j i with
  |true=>b
  |false=>zG1 r i
def zVP (x:AV) (S:Prop) (K:Bool->Prop):Prop:=
 match x with
 |.bool b=>K b
 |.tup vs=>(match vs with
  |[]=>S
  |_=>False)
 |_=>False
def undec (dec:List (Nat×Option Bool)):Option Nat->List (Nat×Option Bool)
 |some d=>(d,none)::dec
 |none=>dec
def zMk:Fr->Nat->AV
 |[],_=>.undef
 |p::r,i=>match Nat.beq p.1 i with
  |true=>p.2
  |false=>zMk r i
def zT (fr:Fr):List Nat->Fr
 |[]=>[]
 |i::L=>(i,zMk fr i)::zT fr L
def evF (GT:zG_) (fr:Fr):Opd->AV
 |.tmp t=>zMk fr t
 |.const v=>v
 |.glob g=>match GT g with
  |some x=>.lref x 0
  |none=>.undef
 |.fn f=>.fn f [] []
def zN1 (GT:zG_) (fr:Fr):List Opd->List AV
 |[]=>[]
 |x::xs=>evF GT fr x::zN1 GT fr xs
def zLI (id:Nat) (L:List Nat) (K:Post):Post:=fun e fr H=>match e with
 |.normal=>K .normal (zT fr L) H
 |.exit j=>match Nat.beq j id with
  |true=>K .normal (zT fr L) H
  |false=>K (.exit j) fr H
 |.ret=>K .ret fr H
 |.goto l=>K (.goto l) fr H
 |.pan x=>K (.pan x) fr H
def zY8 (C:CSpec) (GT:zG_) (i:AI) (next:List (Nat×Option Bool)->Fr->Heap->(Fr->Heap->Prop)->Prop) (dec:List (Nat×Option Bool)) (fr:Fr) (H:Heap) (K:Fr->Heap->Prop):Prop:=
 match i.g with
 |none=>zSG C i.k (zN1 GT fr i.xs) H fun v H'=>next (undec dec i.dst) (put fr i.dst v) H' K
 |some (s,want)=>match zG1 dec s with
  |some b=>(match b==want with
   |true=>zSG C i.k (zN1 GT fr i.xs) H fun v H'=>next (undec dec i.dst) (put fr i.dst v) H' K
   |false=>next (undec dec i.dst) (put fr i.dst (.tup [])) H K)
  |none=>zVP (zMk fr s) (next (undec dec i.dst) (put fr i.dst (.tup [])) H K) fun b=>(match want with
   | true=>condP b (zSG C i.k (zN1 GT fr i.xs) H fun v H'=>next (undec ((s,some true)::dec) i.dst) (put ((s,.bool true)::fr) i.dst v) H' K)
     (next (undec ((s,some false)::dec) i.dst) (put ((s,.bool false)::fr) i.dst (.tup [])) H K)
   | false=>condP b (next (undec ((s,some true)::dec) i.dst) (put ((s,.bool true)::fr) i.dst (.tup [])) H K)
     (zSG C i.k (zN1 GT fr i.xs) H fun v H'=>next (undec ((s,some false)::dec) i.dst) (put ((s,.bool false)::fr) i.dst v) H' K))
def EWops (C:CSpec) (GT:zG_) (is:List AI):List (Nat×Option Bool)->Fr->Heap->(Fr->Heap->Prop)->Prop:=
 List.rec (motive:=fun _=>List (Nat×Option Bool)->Fr->Heap->(Fr->Heap->Prop)->Prop) (fun _ fr H K=>K fr H) (fun i _ ih dec fr H K=>zY8 C GT i ih dec fr H K) is
theorem zW2 {C:CSpec} {GT:zG_} {i:AI} {is:List AI} {dec:List (Nat×Option Bool)} {fr:Fr} {H:Heap} {K:Fr->Heap->Prop}:EWops C GT (i::is) dec fr H K=zY8 C GT i (EWops C GT is) dec fr H K:=rfl
def zN2 (K:Post):Post:=fun e f H=>∃ f',get f'=get f/\K e f' H
def zY9 (C:CSpec) (GT:zG_) (L:List Nat) (c:AC) (K:Post) (fr:Fr) (H:Heap):Prop:=AWL C GT L c (zN2 K) fr H
structure loopP (C:CSpec) (GT:zG_) (L:List Nat) (c:AC) (K:Post) (fr:Fr) (H:Heap):Prop where
 h:zY9 C GT L c K fr H
theorem zZA (C:CSpec) (GT:zG_) (L:List Nat) (c:AC) (K:Post) (fr:Fr) (H:Heap):loopP C GT L c K fr H=zY9 C GT L c K fr H:=propext ⟨fun x=>x.h,fun x=>⟨x⟩⟩
def zQp (C:CSpec) (f:FuncId) (vs:List AV) (H:Heap) (K KP:AV->Heap->Prop):Prop:=(∃ v H',C f vs H v H'/\K v H')\/(∃ x H',C f (.pan .undef::vs) H x H'/\KP x H')
structure callPP (C:CSpec) (f:FuncId) (vs:List AV) (H:Heap) (K KP:AV->Heap->Prop):Prop where
 h:zQp C f vs H K KP
theorem zMA (C:CSpec) (f:FuncId) (vs:List AV) (H:Heap) (K KP:AV->Heap->Prop):callPP C f vs H K KP=zQp C f vs H K KP:=propext ⟨fun x=>x.h,fun x=>⟨x⟩⟩
def zi8 (A B:Prop):Prop:=A/\B
structure altP (A B:Prop):Prop where
 h:zi8 A B
theorem zVQ (A B:Prop):altP A B=zi8 A B:=propext ⟨fun x=>x.h,fun x=>⟨x⟩⟩
theorem zCP {C:CSpec} {f:FuncId} {vs:List AV} {H H':Heap} {K KP:AV->Heap->Prop} {v:AV} (h:C f vs H v H') (k:K v H'):callPP C f vs H K KP:=by rw [zMA];unfold zQp;exact .inl ⟨v,H',h,k⟩
theorem zAz {C:CSpec} {f:FuncId} {vs:List AV} {H H':Heap} {K KP:AV->Heap->Prop} {x:AV} (h:C f (.pan .undef::vs) H x H') (k:KP x H'):callPP C f vs H K KP:=by rw [zMA];unfold zQp;exact .inr ⟨x,H',h,k⟩
theorem zG2 {A B:Prop} (a:A) (b:B):altP A B:=by rw [zVQ];exact ⟨a,b⟩
def zLJ (C:CSpec) (k:AK) (vs:List AV) (H:Heap) (K KP:AV->Heap->Prop):Prop:=
 match k with
 |.callp f=>callPP C f vs H K KP
 |.callvp=>(match vs with
  |[]=>False
  |x::args=>(match x with
   |.fn f first caps=>callPP C f (first++args++caps) H K KP
   |_=>False))
 |.panic=>(match vs with
  |[x]=>(match x with
   |.iface t y=>KP (.iface t y) H
   |_=>False)
  |_=>False)
 |k=>zSG C k vs H K
def zTv (C:CSpec) (GT:zG_) (i:AI) (next:List (Nat×Option Bool)->Fr->Heap->(Fr->Heap->Prop)->(AV->Heap->Prop)->Prop) (dec:List (Nat×Option Bool)) (fr:Fr) (H:Heap) (K:Fr->Heap->Prop) (KP:AV->Heap->Prop):Prop:=
 match i.g with
 |none=>zLJ C i.k (zN1 GT fr i.xs) H (fun v H'=>next (undec dec i.dst) (put fr i.dst v) H' K KP) KP
 |some (s,want)=>match zG1 dec s with
  |some b=>(match b==want with
   |true=>zLJ C i.k (zN1 GT fr i.xs) H (fun v H'=>next (undec dec i.dst) (put fr i.dst v) H' K KP) KP
   |false=>next (undec dec i.dst) (put fr i.dst (.tup [])) H K KP)
  |none=>zVP (zMk fr s) (next (undec dec i.dst) (put fr i.dst (.tup [])) H K KP) fun b=>(match want with
   | true=>condP b (zLJ C i.k (zN1 GT fr i.xs) H (fun v H'=>next (undec ((s,some true)::dec) i.dst) (put ((s,.bool true)::fr) i.dst v) H' K KP) KP)
     (next (undec ((s,some false)::dec) i.dst) (put ((s,.bool false)::fr) i.dst (.tup [])) H K KP)
   | false=>condP b (next (undec ((s,some true)::dec) i.dst) (put ((s,.bool true)::fr) i.dst (.tup [])) H K KP)
     (zLJ C i.k (zN1 GT fr i.xs) H (fun v H'=>next (undec ((s,some false)::dec) i.dst) (put ((s,.bool false)::fr) i.dst v) H' K KP) KP))
def zTw:List AI->Nat->Option AI
 |[],_=>none
 |i::_,0=>some i
 |_::is,n+1=>zTw is n
def EWT (C:CSpec) (GT:zG_) (is:List AI) (t:OT):List (Nat×Option Bool)->Fr->Heap->(Fr->Heap->Prop)->(AV->Heap->Prop)->Prop:=
 OT.rec (motive:=fun _=>List (Nat×Option Bool)->Fr->Heap->(Fr->Heap->Prop)->(AV->Heap->Prop)->Prop) (fun _ fr H K _=>K fr H)
  (fun j _ ih dec fr H K KP=>match zTw is j with
   |none=>False
   |some i=>zTv C GT i ih dec fr H K KP)
  (fun _ _ iha ihb dec fr H K KP=>altP (iha dec fr H K KP) (ihb dec fr H K KP)) t
def zfz (C:CSpec) (GT:zG_) (L:List Nat) (l:Nat) (r:AC) (K:Post) (fr:Fr) (H:Heap):Prop:=∃ m,zK2 (AW C GT r) L l (zN2 K) m fr H
structure gotoP (C:CSpec) (GT:zG_) (L:List Nat) (l:Nat) (r:AC) (K:Post) (fr:Fr) (H:Heap):Prop where
 h:zfz C GT L l r K fr H
theorem zZB (C:CSpec) (GT:zG_) (L:List Nat) (l:Nat) (r:AC) (K:Post) (fr:Fr) (H:Heap):gotoP C GT L l r K fr H=zfz C GT L l r K fr H:=propext ⟨fun x=>x.h,fun x=>⟨x⟩⟩
def EW (C:CSpec) (GT:zG_) (c:AC):Post->Fr->Heap->Prop:=
 AC.rec (motive:=fun _=>Post->Fr->Heap->Prop)
  (fun K fr H=>K .normal fr H)
  (fun L _ ops K fr H=>EWops C GT ops [] (zT fr L) H fun fr' H'=>K .normal fr' H')
  (fun _ _ iha ihb K fr H=>iha (zWb (ihb K) K) fr H)
  (fun c _ _ iha ihb K fr H=>zTu (evF GT fr c) fun t=>condP t (iha K (learn fr c true) H) (ihb K (learn fr c false) H))
  (fun id L _ ih K fr H=>ih (zLI id L K) fr H)
  (fun L c _ K fr H=>loopP C GT L c K (zT fr L) H)
  (fun id K fr H=>K (.exit id) fr H)
  (fun K fr H=>K .ret fr H)
  (fun _ _ _=>False)
  (fun L _ ops t K fr H=>EWT C GT ops t [] (zT fr L) H (fun fr' H'=>K .normal fr' H') (fun x H'=>K (.pan x) [] H'))
  (fun K fr H=>K .normal fr H)
  (fun l K fr H=>K (.goto l) fr H)
  (fun L l _ r ihc _ K fr H=>ihc (zQe l (fun fr' H'=>gotoP C GT L l r K (zT fr' L) H') K) fr H) c
theorem zLK {b:Bool} {A B:Prop}:condP b A B↔(if b=true then A else B):=by rw [zLH];unfold zPw;cases b <;> simp
theorem zDq {α:Type} {o:Option α} {K:α->Prop}:optP o K↔∃ v,o=some v/\K v:=by rw [zVG];unfold zc6;exact zml
theorem zF6 {p K:Prop}:needP p K↔p/\K:=by rw [zSB];unfold zVH;exact zml
theorem zVR {x:Int} {K:Int->Prop}:valP x K↔K x:=by rw [zVI];unfold zc7;exact zml
theorem zdC {k:AK} {vs:List AV} {H:Heap} {K:AV->Heap->Prop}:actP k vs H K↔∃ v H',astep k vs H=some (v,H')/\K v H':=by rw [zVJ];unfold zc8;exact zml
theorem zSH {C:CSpec} {f:FuncId} {vs:List AV} {rd:Bool} {H:Heap} {K:AV->Heap->Prop}:callP C f vs rd H K↔∃ v H',C f vs H v H'/\(rd=true->H'=H)/\K v H':=by rw [zN0];unfold zSC;exact zml
theorem zdD {xs:List AV} {n:Int} {K:AV->Prop}:idxP xs n K↔∃ x,0<=n/\xs[n.toNat]?=some x/\K x:=by rw [zVK];unfold zc9;exact zml
theorem zdE {s:List UInt8} {n:Int} {K:UInt8->Prop}:chrP s n K↔∃ c,0<=n/\s[n.toNat]?=some c/\K c:=by rw [zVL];unfold zdA;exact zml
theorem zVS {F:AF} {H H1 H':Heap} {fr:Fr} {v:AV}:retP F H fr H1 v H'↔zHM F H fr H1 v H':=by rw [zVM];unfold zdB;exact zml
theorem zSI {C:CSpec} {GT:zG_} {c:AC} {L:List Nat} {K:Post} {fr:Fr} {H:Heap}:loopP C GT L c K fr H↔AWL C GT L c (zN2 K) fr H:=by rw [zZA];unfold zY9;exact zml
theorem zLL {x:AV} {K:Bool->Prop}:zTu x K↔∃ b,x=.bool b/\K b:=by
 unfold zTu;cases x <;> simp
theorem zPx {x:AV} {S:Prop} {K:Bool->Prop}:zVP x S K↔(x=.tup []/\S)\/∃ b,x=.bool b/\K b:=by
 unfold zVP;cases x with
 |tup vs=>cases vs <;> simp
 |_=>simp
theorem zHT {x:AV} {K:Int->Prop}:zSD x K↔∃ k n,x=.int k n/\K n:=by
 unfold zSD;cases x <;> simp
 exact ⟨fun h=>⟨_,_,⟨rfl,rfl⟩,h⟩,fun ⟨_,_,⟨_,h1⟩,h2⟩=>h1 ▸ h2⟩
theorem zZC {x:AV} {K:List UInt8->Prop}:zgb x K↔∃ s,x=.str s/\K s:=by
 unfold zgb;cases x <;> simp
theorem zdF {x:AV} {K:List AV->Prop}:aggN x K↔∃ s,x=.agg s/\K s:=by
 unfold aggN;cases x <;> simp
theorem zCQ {k:AK} {vs:List AV} {H H':Heap} {K:AV->Heap->Prop} {v:AV} (h:astep k vs H=some (v,H')) (hk:K v H'):actP k vs H K:=zMj h hk
theorem zW3 {op:BinOp} {k:IntKind} {a b:Int} {K:AV->Prop} (h:intN op k a b K):∃ v,zIS op k a b=some v/\K v:=by
 unfold intN at h;unfold zIS;cases op <;> simp only [zVR,zF6,zDq] at h ⊢
 all_goals first
  |exact ⟨_,rfl,h⟩
  |(obtain ⟨h1,h2⟩:=h;rw [zWl h1];exact ⟨_,rfl,h2⟩)
  |exact h
theorem zW4 {op:BinOp} {a b:List UInt8} {K:AV->Prop} (h:strN op a b K):∃ v,zPg op a b=some v/\K v:=by
 unfold strN at h;cases op <;> simp only [zF6,zDq] at h
 all_goals first
  |exact h
  |exact ⟨_,rfl,h⟩
  |(obtain ⟨h1,h2⟩:=h;exact ⟨_,by simp only [zPg];rw [zoQ h1],h2⟩)
theorem zW5 {op:BinOp} {x y:AV} {K:AV->Prop} (h:binN op x y K):∃ v,zi0 op x y=some v/\K v:=by
 unfold binN at h;cases x <;> try exact h.elim
 case int k a=>
  cases y <;> try exact h.elim
  rename_i k' b;simp only at h;simp only [zi0];have hs:zQn op=true↔op=.shl\/op=.shr:=by cases op <;> simp [zQn]
  cases hsh:zQn op with
  |true=>
   rw [hsh] at h;rw [zoQ (hs.1 hsh)];exact zDq.1 h
  |false=>
   rw [hsh] at h;rw [zWl (fun e=>by rw [hs.2 e] at hsh;cases hsh)];simp only [zVN] at h;by_cases hk:k=k'
   ·rw [zoQ hk];simp only [hk,decide_true] at h;rw [hk];exact zW3 h
   ·simp [hk] at h
 case str a=>
  cases y <;> try exact h.elim
  exact zW4 h
theorem zZD (neg b:Bool):zL9 neg b=if neg then !b else b:=by cases neg <;> rfl
theorem zW6 {s:Bool} {x:AV} {K:Int->Prop} (h:lenN s x K):∃ n:Nat,aLen s x=some n/\K (n:Int):=by
 unfold lenN at h;cases s
 ·simp only at h;rw [zQo] at h;unfold zY7 at h;cases x <;> first|exact h.elim|exact ⟨_,rfl,h⟩
 ·cases x <;> first|exact h.elim|exact ⟨_,rfl,h⟩
theorem zW7 {k:Option Nat} {lo hi:Bool} {vs:List AV} {H:Heap} {K:AV->Heap->Prop} (h:slcN k lo hi vs fun v=>K v H):actP (.slc k lo hi) vs H K:=by
 unfold slcN at h;cases vs with
 |nil=>exact h.elim
 |cons x ys=>
  cases lo <;> cases hi <;> simp only at h <;> split at h
  all_goals first
   |exact h.elim
   |(obtain ⟨v,h1,h2⟩:=zDq.1 h;exact zCQ (by simp only [astep,h1,zoe]) h2)
theorem zPy {o:Nat} {x:AV} {K:AV->Prop} (h:zi7 o x K):(∃ b k i oo,x=.ref b k i oo/\K (.ref b k i (oo+o)))\/∃ y oo,x=.lref y oo/\K (.lref y (oo+o)):=by
 unfold zi7 at h;cases x <;> first|exact h.elim|exact .inl ⟨_,_,_,_,rfl,h⟩|exact .inr ⟨_,_,rfl,h⟩
theorem zW8 {k:Nat} {x:AV} {n:Int} {kk:IntKind} {H:Heap} {K:AV->Heap->Prop} (h:idxN k x n fun v=>K v H):actP (.idxAddr k) [x,.int kk n] H K:=by
 rw [zJe] at h;unfold zSE at h;cases x <;> try exact h.elim
 case lst q k' xs=>
  simp only [zF6,zdD] at h;obtain ⟨hk,x,h0,h1,h2⟩:=h;exact zCQ (by simp only [astep];rw [zWl tO,h1];simp only;rw [zoQ hk]) h2
 case sl q b k' off len=>
  simp only [zF6] at h;obtain ⟨⟨hk,h0,h1⟩,h2⟩:=h;exact zCQ (by simp only [astep];rw [zWl tO,zoQ ⟨h1,hk⟩]) h2
theorem zN3 {C:CSpec} {k:AK} {vs:List AV} {H:Heap} {K:AV->Heap->Prop} (h:zSG C k vs H K):zL2 C k vs H K:=by
 have fin:∀ {k},(∀ f rd,k≠.call f rd)->(∀ rd,k≠.callv rd)->actP k vs H K->zL2 C k vs H K:=by
  intro k h1 h2 ha;obtain ⟨v,H',hs,hk⟩:=zdC.1 ha;refine zHS.2 ⟨v,H', ?_,hk⟩;cases k <;> first|exact hs|exact absurd rfl (h1 _ _)|exact absurd rfl (h2 _)
 unfold zSG at h;cases k
 case call f rd=>exact zSH.1 h
 case callv rd=>
  simp only at h;split at h
  ·exact h.elim
  ·split at h
   ·exact zSH.1 h
   ·exact h.elim
 case append=>exact fin zS_ zS_ h
 case appT=>exact fin zS_ zS_ h
 case stuck=>exact False.elim h
 case callp=>exact fin zS_ zS_ h
 case callvp=>exact fin zS_ zS_ h
 case panic=>exact fin zS_ zS_ h
 case bytesToStr=>exact fin zS_ zS_ h
 case strToBytes=>exact fin zS_ zS_ h
 case store=>exact fin zS_ zS_ h
 case box=>exact fin zS_ zS_ h
 case allocT=>exact fin zS_ zS_ h
 case bslice=>exact fin zS_ zS_ h
 case make=>exact fin zS_ zS_ h
 case mkmap=>exact fin zS_ zS_ h
 case mget=>exact fin zS_ zS_ h
 case mset=>exact fin zS_ zS_ h
 case slc=>exact fin zS_ zS_ (zW7 h)
 case mkFn=>exact fin zS_ zS_ (zCQ rfl h)
 case build=>
  obtain ⟨v,h1,h2⟩:=zDq.1 h;exact fin zS_ zS_ (zCQ (by simp only [astep,h1,zoe]) h2)
 all_goals
  refine fin zS_ zS_ ?_;clear fin;simp only at h
  (rcases vs with _|⟨v1,_|⟨v2,_|⟨v3,_|⟨v4,vs⟩⟩⟩⟩ <;> try exact h.elim)
  try simp only at h
 case mv=>exact zCQ rfl h
 case pick=>
  replace h:=zLL.1 h;obtain ⟨c,rfl,h⟩:=h;rw [zLK] at h;cases c
  ·exact zCQ rfl h
  ·exact zCQ rfl h
 case bin=>
  obtain ⟨v,h1,h2⟩:=zW5 h;exact zCQ (by simp only [astep,h1,zoe]) h2
 case eqs=>
  unfold eqsN at h;cases v1 <;> try exact h.elim
  cases v2 <;> try exact h.elim
  obtain ⟨v,h1,h2⟩:=zDq.1 h;exact zCQ (by simp only [astep,h1,zoe,<-zZD]) h2
 case eqb=>
  replace h:=zLL.1 h;obtain ⟨a,rfl,h⟩:=h;replace h:=zLL.1 h;obtain ⟨b,rfl,h⟩:=h;exact zCQ (by simp only [astep,<-zZD]) h
 case eqn=>
  obtain ⟨v,h1,h2⟩:=zDq.1 h;exact zCQ (by simp only [astep,h1,zoe,<-zZD]) h2
 case un=>
  unfold unN at h;split at h
  ·split at h
   ·exact zCQ rfl h
   ·exact h.elim
  ·obtain ⟨v,h1,h2⟩:=zDq.1 h;exact zCQ (by simp only [astep,h1,zoe]) h2
 case convInt=>
  replace h:=zHT.1 h;obtain ⟨k,n,rfl,h⟩:=h;exact zCQ rfl (zVR.1 h)
 case convRune=>
  replace h:=zHT.1 h;obtain ⟨k,n,rfl,h⟩:=h;exact zCQ rfl h
 case mkIface=>exact zCQ rfl h
 case tyAs=>
  unfold tyN at h;split at h
  ·obtain ⟨he,h2⟩:=zF6.1 h;subst he;exact zCQ (by simp only [astep,zoz]) h2
  ·exact h.elim
 case len=>
  obtain ⟨n,h1,h2⟩:=zW6 h;exact zCQ (by simp only [astep,h1,zoe]) h2
 case fieldAddr=>
  rcases zPy h with ⟨b,k,i,oo,rfl,h⟩|⟨y,oo,rfl,h⟩ <;> exact zCQ rfl h
 case idxAddr=>
  replace h:=zHT.1 h;obtain ⟨kk,n,rfl,h⟩:=h;exact zW8 h
 case idxArr=>
  replace h:=zHT.1 h;obtain ⟨kk,n,rfl,h⟩:=h;obtain ⟨hn,h⟩:=zF6.1 h;rcases zPy h with ⟨b,k,i,oo,rfl,h⟩|⟨y,oo,rfl,h⟩ <;> exact zCQ (by simp only [astep];rw [zoQ hn]) h
 case idxStr=>
  replace h:=zZC.1 h;obtain ⟨s,rfl,h⟩:=h;replace h:=zHT.1 h;obtain ⟨kk,n,rfl,h⟩:=h;obtain ⟨c,h0,h1,h2⟩:=zdE.1 h;exact zCQ (by simp only [astep];rw [zWl tO,h1]) h2
 case idxAgg=>
  replace h:=zdF.1 h;obtain ⟨cs,rfl,h⟩:=h;replace h:=zHT.1 h;obtain ⟨kk,n,rfl,h⟩:=h;obtain ⟨hn,h⟩:=zF6.1 h;obtain ⟨v,h1,h2⟩:=zDq.1 h;exact zCQ (by simp only [astep];rw [zoQ hn,h1];rfl) h2
 case nilchk=>
  unfold chkN at h;split at h <;> first|exact h.elim|exact zCQ rfl h
 case extract=>
  unfold extN at h;split at h
  ·obtain ⟨v,h1,h2⟩:=zDq.1 h;exact zCQ (by simp only [astep,h1,zoe]) h2
  ·exact h.elim
 case load=>
  rw [zSF] at h;unfold zVO at h;split at h
  ·obtain ⟨v,h1,h2⟩:=zDq.1 h;exact zCQ (by simp only [astep,zy,h1,zoe]) h2
  ·obtain ⟨⟨cs,o⟩,h0,h⟩:=zDq.1 h;obtain ⟨v,h1,h2⟩:=zDq.1 h;exact zCQ (by simp only [astep,h0];simp only at h1;simp only [h1,zoe]) h2
 case alloc=>exact zCQ rfl h
theorem zW9 {C:CSpec} {k:AK} {vs:List AV} {H:Heap} {K K':AV->Heap->Prop} (h:zL2 C k vs H K) (hk:∀ v H,K v H->K' v H):zL2 C k vs H K':=by
 obtain ⟨v,H',h1,h2⟩:=zHS.1 h;exact zHS.2 ⟨v,H',h1,hk _ _ h2⟩
section
variable {C:CSpec} {GT:zG_}
theorem zFr {fr fr':Fr} (h:get fr=get fr') (d:Option Nat) (v:AV):get (put fr d v)=get (put fr' d v):=by
 rw [zGz,zGz,h]
theorem zNT {fr:Fr} {s:Nat} {b:Bool} (h:get fr s=.bool b):get ((s,.bool b)::fr)=get fr:=by
 funext t
 simp only [get];split
 ·rename_i e;subst e;exact h.symm
 ·rfl
theorem zTx {dec:List (Nat×Option Bool)} {d:Option Nat} {s:Nat} {b:Bool} (h:zG1 (undec dec d) s=some b):zG1 dec s=some b/\d≠some s:=by
 cases d with
 |none=>exact ⟨h,by simp⟩
 |some d=>
  simp only [undec,zG1] at h;split at h
  ·cases h
  ·rename_i e;refine ⟨h,fun e'=>?_⟩;cases e';simp at e
theorem zQq {dec:List (Nat×Option Bool)} {fr:Fr} (h:∀ s b,zG1 dec s=some b->get fr s=.bool b) (d:Option Nat) (v:AV):∀ s b,zG1 (undec dec d) s=some b->get (put fr d v) s=.bool b:=by
 intro s b hs;obtain ⟨h1,h2⟩:=zTx hs;cases d with
 |none=>exact h s b h1
 |some d=>
  simp only [put,get];rw [zWl (fun e=>h2 (by rw [e]))];exact h s b h1
theorem zVT {dec:List (Nat×Option Bool)} {fr:Fr} (h:∀ s b,zG1 dec s=some b->get fr s=.bool b) {s:Nat} {b:Bool} (hs:get fr s=.bool b):∀ t c,zG1 ((s,some b)::dec) t=some c->get fr t=.bool c:=by
 intro t c ht;simp only [zG1] at ht;split at ht
 ·(simp_all;done)
 ·exact h t c ht
theorem zFA:∀ fr,zMk fr=get fr
 |[]=>rfl
 |p::r=>by
  funext i
  simp only [zMk,get,zFA r];cases h:Nat.beq p.1 i with
  |true=>(simp_all;done)
  |false=>simp only;rw [zWl (fun e=>by rw [e] at h;simp at h)]
theorem zBl (fr:Fr):∀ L,zT fr L=restrict fr L
 |[]=>rfl
 |i::L=>by
  simp only [zT,zBl fr L,zFA];rfl
theorem zf0 (GT:zG_) (fr:Fr):evF GT fr=ev GT fr:=by
 funext x
 cases x with
 |tmp t=>simp only [evF,ev,zFA]
 |const v=>rfl
 |glob g=>simp only [evF,ev];cases GT g <;> rfl
 |fn f=>rfl
theorem zQr (GT:zG_) (fr:Fr):∀ xs,zN1 GT fr xs=xs.map (ev GT fr)
 |[]=>rfl
 |x::xs=>by simp only [zN1,zQr GT fr xs,zf0,zoa]
theorem zSJ (id:Nat) (L:List Nat) (K:Post):zLI id L K=zIT id L K:=by
 funext e fr H
 cases e with
 |exit j=>
  simp only [zLI,zIT,zBl];cases h:Nat.beq j id with
  |true=>simp only;rw [zoQ (Nat.eq_of_beq_eq_true h)]
  |false=>simp only;rw [zWl (fun e=>by rw [e] at h;simp at h)]
 |_=>simp only [zLI,zIT,zBl]
theorem zZE:∀ (is:List AI) (dec:List (Nat×Option Bool)) (fr fr':Fr) (H:Heap) (K K':Fr->Heap->Prop),get fr=get fr'->(∀ s b,zG1 dec s=some b->get fr s=.bool b) ->
  (∀ f f' H,get f=get f'->K f H->K' f' H)->EWops C GT is dec fr H K->AWops C GT is fr' H K'
 |[],_,fr,fr',H,K,K',hf,_,hk,h=>hk _ _ _ hf h
 |i::is,dec,fr,fr',H,K,K',hf,hd,hk,h=>by
  have hev:ev GT fr=ev GT fr':=by rw [zF5,zF5,hf]
  have go:∀ (dec:List (Nat×Option Bool)) (fr:Fr),get fr=get fr'->(∀ s b,zG1 dec s=some b->get fr s=.bool b)->ev GT fr=ev GT fr' ->
    zSG C i.k (i.xs.map (ev GT fr')) H (fun v H'=>EWops C GT is (undec dec i.dst) (put fr i.dst v) H' K)->zL2 C i.k (i.xs.map (ev GT fr')) H fun v H'=>AWops C GT is (put fr' i.dst v) H' K':=by
   intro dec fr hf hd hev h;exact zW9 (zN3 h) fun v H' h=>zZE is _ _ _ H' K K' (zFr hf _ _) (zQq hd _ _) hk h
  have no:∀ (dec:List (Nat×Option Bool)) (fr:Fr),get fr=get fr'->(∀ s b,zG1 dec s=some b->get fr s=.bool b)->EWops C GT is (undec dec i.dst) (put fr i.dst (.tup [])) H K->AWops C GT is (put fr' i.dst (.tup [])) H K':=
   fun dec fr hf hd h=>zZE is _ _ _ H K K' (zFr hf _ _) (zQq hd _ _) hk h
  rw [zW2] at h;unfold zY8 at h;simp only [zQr,zFA] at h;unfold AWops;split at h
  ·rename_i hg;rw [hg];rw [hev] at h;exact go dec fr hf hd hev h
  ·rename_i s want hg;rw [hg];simp only;split at h
   ·rename_i b hb;have hs:get fr' s=.bool b:=by rw [<-hf];exact hd s b hb
    rw [hs];simp only [gd];split at h
    ·rename_i e;rw [zoQ e];rw [hev] at h;exact go dec fr hf hd hev h
    ·grind
   ·rcases zPx.1 h with ⟨hb,h⟩|⟨b,hb,h⟩
    ·have hs:get fr' s=.tup []:=by rw [<-hf];exact hb
     rw [hs];simp only [gd];rw [zWl zS_];exact no dec fr hf hd h
    have hs:get fr' s=.bool b:=by rw [<-hf];exact hb
    rw [hs];simp only [gd];have hf2:get ((s,.bool b)::fr)=get fr':=by rw [zNT hb,hf]
    have hev2:ev GT ((s,.bool b)::fr)=ev GT fr':=by rw [zF5,zF5,hf2]
    have hd2:∀ t c,zG1 ((s,some b)::dec) t=some c->get ((s,.bool b)::fr) t=.bool c:=by
     rw [zNT hb];exact zVT hd hb
    cases want <;> cases b <;> simp only [zLK,zoz,zoZ,zot] at h
    ·rw [zoQ (by rfl)];rw [hev] at h;exact go _ _ hf2 hd2 hev2 h
    ·grind
    ·grind
    ·rw [zoQ (by rfl)];rw [hev] at h;exact go _ _ hf2 hd2 hev2 h
theorem zPz {C:CSpec} {f:FuncId} {vs:List AV} {H:Heap} {K KP:AV->Heap->Prop}:callPP C f vs H K KP↔((∃ v H',C f vs H v H'/\K v H')\/(∃ x H',C f (.pan .undef::vs) H x H'/\KP x H')):=by rw [zMA];exact zml
theorem zdG {A B:Prop}:altP A B↔A/\B:=by rw [zVQ];exact zml
theorem zSK {k:AK} {vs:List AV} {H:Heap} {K KP:AV->Heap->Prop} (h:zLJ C k vs H K KP):zGa C k vs H K KP:=by
 cases k
 case callp f=>exact zPz.1 h
 case callvp=>
  simp only [zLJ] at h;simp only [zGa];split at h
  ·exact h.elim
  ·split at h
   ·exact zPz.1 h
   ·exact h.elim
 case panic=>
  simp only [zLJ] at h;simp only [zGa];split at h
  ·split at h
   ·exact h
   ·exact h.elim
  ·exact h.elim
 all_goals
  simp only [zLJ] at h;exact zN3 h
theorem zTy {k:AK} {vs:List AV} {H:Heap} {K K' KP KP':AV->Heap->Prop} (h:zGa C k vs H K KP) (hk:∀ v H,K v H->K' v H) (hp:∀ x H,KP x H->KP' x H):zGa C k vs H K' KP':=by
 rcases zF1.1 h with ⟨v,H',h1,h2⟩|⟨x,H',h1,h2⟩
 ·exact zF1.2 (.inl ⟨v,H',h1,hk _ _ h2⟩)
 ·exact zF1.2 (.inr ⟨x,H',h1,hp _ _ h2⟩)
theorem zVU:∀ (is:List AI) (j:Nat),zTw is j=is[j]?
 |[],j=>by simp [zTw]
 |i::is,0=>by simp [zTw]
 |i::is,j+1=>by simp [zTw,zVU is j]
theorem zIv (is:List AI):∀ (t:OT) (dec:List (Nat×Option Bool)) (fr fr':Fr) (H:Heap) (K K':Fr->Heap->Prop) (KP KP':AV->Heap->Prop),get fr=get fr'->(∀ s b,zG1 dec s=some b->get fr s=.bool b) ->
  (∀ f f' H,get f=get f'->K f H->K' f' H)->(∀ x H,KP x H->KP' x H)->EWT C GT is t dec fr H K KP->AWT C GT is t fr' H K' KP'
 |.done,_,fr,fr',H,K,K',KP,KP',hf,_,hk,hp,h=>hk _ _ _ hf h
 |.alt a b,dec,fr,fr',H,K,K',KP,KP',hf,hd,hk,hp,h=>by
  replace h:altP (EWT C GT is a dec fr H K KP) (EWT C GT is b dec fr H K KP):=h;have h:=zdG.1 h;exact ⟨zIv is a dec fr fr' H K K' KP KP' hf hd hk hp h.1,zIv is b dec fr fr' H K K' KP KP' hf hd hk hp h.2⟩
 |.step j t,dec,fr,fr',H,K,K',KP,KP',hf,hd,hk,hp,h=>by
  replace h:(match zTw is j with
   |none=>False
   |some i=>zTv C GT i (EWT C GT is t) dec fr H K KP):=h
  rw [zVU] at h;unfold AWT;split at h
  ·exact h.elim
  rename_i i hi;simp only [hi];have hev:ev GT fr=ev GT fr':=by rw [zF5,zF5,hf]
  have go:∀ (dec:List (Nat×Option Bool)) (fr:Fr),get fr=get fr'->(∀ s b,zG1 dec s=some b->get fr s=.bool b)->ev GT fr=ev GT fr' ->
    zLJ C i.k (i.xs.map (ev GT fr')) H (fun v H'=>EWT C GT is t (undec dec i.dst) (put fr i.dst v) H' K KP) KP->zGa C i.k (i.xs.map (ev GT fr')) H (fun v H'=>AWT C GT is t (put fr' i.dst v) H' K' KP') KP':=by
   intro dec fr hf hd hev h;exact zTy (zSK h) (fun v H' h=>zIv is t _ _ _ H' K K' KP KP' (zFr hf _ _) (zQq hd _ _) hk hp h) hp
  have no:∀ (dec:List (Nat×Option Bool)) (fr:Fr),get fr=get fr'->(∀ s b,zG1 dec s=some b->get fr s=.bool b)->EWT C GT is t (undec dec i.dst) (put fr i.dst (.tup [])) H K KP->AWT C GT is t (put fr' i.dst (.tup [])) H K' KP':=
   fun dec fr hf hd h=>zIv is t _ _ _ H K K' KP KP' (zFr hf _ _) (zQq hd _ _) hk hp h
  unfold zTv at h;simp only [zQr,zFA] at h;split at h
  ·rename_i hg;rw [hg];rw [hev] at h;exact go dec fr hf hd hev h
  ·rename_i s want hg;rw [hg];simp only;split at h
   ·rename_i b hb;have hs:get fr' s=.bool b:=by rw [<-hf];exact hd s b hb
    rw [hs];simp only [gd];split at h
    ·rename_i e;rw [zoQ e];rw [hev] at h;exact go dec fr hf hd hev h
    ·grind
   ·rcases zPx.1 h with ⟨hb,h⟩|⟨b,hb,h⟩
    ·have hs:get fr' s=.tup []:=by rw [<-hf];exact hb
     rw [hs];simp only [gd];rw [zWl zS_];exact no dec fr hf hd h
    have hs:get fr' s=.bool b:=by rw [<-hf];exact hb
    rw [hs];simp only [gd];have hf2:get ((s,.bool b)::fr)=get fr':=by rw [zNT hb,hf]
    have hev2:ev GT ((s,.bool b)::fr)=ev GT fr':=by rw [zF5,zF5,hf2]
    have hd2:∀ t c,zG1 ((s,some b)::dec) t=some c->get ((s,.bool b)::fr) t=.bool c:=by
     rw [zNT hb];exact zVT hd hb
    cases want <;> cases b <;> simp only [zLK,zoz,zoZ,zot] at h
    ·rw [zoQ (by rfl)];rw [hev] at h;exact go _ _ hf2 hd2 hev2 h
    ·grind
    ·grind
    ·rw [zoQ (by rfl)];rw [hev] at h;exact go _ _ hf2 hd2 hev2 h
theorem zSL {L:List Nat} {l:Nat} {r:AC} {K:Post} {fr:Fr} {H:Heap}:gotoP C GT L l r K fr H↔∃ m,zK2 (AW C GT r) L l (zN2 K) m fr H:=by rw [zZB];exact zml
theorem zP0 {L:List Nat} {l:Nat} {r:AC} {K K':Post} (hk:∀ e fr H,K e fr H->K' e fr H):∀ (m:Nat) (fr:Fr) (H:Heap),zK2 (AW C GT r) L l K m fr H->zK2 (AW C GT r) L l K' m fr H
 |0,_,_,h=>h.elim
 |m+1,fr,H,h=>zY3 h fun e fr H h=>by
  cases e with
  |goto l'=>exact ⟨h.1,zP0 hk m _ H h.2⟩
  |_=>exact hk _ _ _ h
def zi9 (K K':Post):Prop:=∀ e f f' H,get f=get f'->K e f H->K' e f' H
theorem zBX {fr fr':Fr} (h:get fr=get fr') (L:List Nat):restrict fr L=restrict fr' L:=by
 unfold restrict;rw [h]
theorem zFs:∀ (ac:AC) (K K':Post) (fr fr':Fr) (H:Heap),get fr=get fr'->zi9 K K'->EW C GT ac K fr H->AW C GT ac K' fr' H:=by
 intro ac;induction ac with
 |skip=>intro K K' fr fr' H hf hk h;exact hk _ _ _ _ hf h
 |ret=>intro K K' fr fr' H hf hk h;exact hk _ _ _ _ hf h
 |stuck=>intro K K' fr fr' H hf hk h;exact False.elim h
 |label=>intro K K' fr fr' H hf hk h;exact hk _ _ _ _ hf h
 |goto l=>intro K K' fr fr' H hf hk h;exact hk _ _ _ _ hf h
 |regt L d is t=>
  intro K K' fr fr' H hf hk h;rw [zgY];replace h:EWT C GT is t [] (zT fr L) H (fun fr' H'=>K .normal fr' H') (fun x H'=>K (.pan x) [] H'):=h;rw [zBl,zBX hf] at h;exact zIv is t _ _ _ H _ _ _ _ rfl (fun s b h=>by simp [zG1] at h) (fun f f' H hf h=>hk _ _ _ _ hf h) (fun x H h=>hk _ _ _ _ rfl h) h
 |scope L l c r ihc ihr=>
  intro K K' fr fr' H hf hk h;replace h:EW C GT c (zQe l (fun fr' H'=>gotoP C GT L l r K (zT fr' L) H') K) fr H:=h;rw [zc4];refine ihc _ _ _ _ H hf (fun e f f' H hf h=>?_) h;cases e with
  |goto l'=>
   obtain ⟨hl,hg⟩:=h;obtain ⟨m,hg⟩:=zSL.1 hg;rw [zBl,zBX hf] at hg;exact ⟨hl,m,zP0 (fun e f H ⟨f',h1,h2⟩=>hk _ _ _ _ h1 h2) m _ _ hg⟩
  |_=>exact hk _ _ _ _ hf h
 |exit id=>intro K K' fr fr' H hf hk h;exact hk _ _ _ _ hf h
 |reg L d is=>
  intro K K' fr fr' H hf hk h;rw [zi6];replace h:EWops C GT is [] (zT fr L) H (fun fr' H'=>K .normal fr' H'):=h;rw [zBl,zBX hf] at h;exact zZE is _ _ _ H _ _ rfl (fun s b h=>by simp [zG1] at h) (fun f f' H hf h=>hk _ _ _ _ hf h) h
 |seq a b iha ihb=>
  intro K K' fr fr' H hf hk h;replace h:EW C GT a (zWb (EW C GT b K) K) fr H:=h;rw [zi5];refine iha _ _ _ _ H hf (fun e f f' H hf h=>?_) h;cases e with
  |normal=>exact ihb _ _ _ _ _ hf hk h
  |_=>exact hk _ _ _ _ hf h
 |cond c a b iha ihb=>
  intro K K' fr fr' H hf hk h;replace h:zTu (evF GT fr c) (fun t=>condP t (EW C GT a K (learn fr c true) H) (EW C GT b K (learn fr c false) H)):=h;rw [zf0] at h;obtain ⟨t,ht,h⟩:=zLL.1 h;rw [zF5,hf,<-zF5] at ht;rw [zga ht];have he:∀ b,get (learn fr c b)=get (learn fr' c b):=by
   intro b;cases c <;> simp only [learn] <;> first|exact hf|(funext t;simp only [get,hf])
  rw [zLK] at h;cases t
  ·grind
  ·grind
 |block id L c ih=>
  intro K K' fr fr' H hf hk h;replace h:EW C GT c (zLI id L K) fr H:=h;rw [zSJ] at h;rw [zc5];refine ih _ _ _ _ H hf (fun e f f' H hf h=>?_) h;cases e with
  |normal=>exact hk _ _ _ _ (by rw [zBX hf]) h
  |exit j=>
   simp only [zIT] at h ⊢;split at h
   ·rename_i e;rw [zoQ e];exact hk _ _ _ _ (by rw [zBX hf]) h
   ·rename_i e;rw [zWl e];exact hk _ _ _ _ hf h
  |_=>exact hk _ _ _ _ hf h
 |loop L c ih=>
  intro K K' fr fr' H hf hk h;replace h:loopP C GT L c K (zT fr L) H:=h;rw [zgZ];have h:=zSI.1 h;rw [zBl,zBX hf] at h;exact zc3 h fun e f H ⟨f',h1,h2⟩=>hk _ _ _ _ h1 h2
theorem zTz {fr fr':Fr} (h:get fr=get fr') (H:Heap):∀ r,zKS fr H r=zKS fr' H r:=by
 intro r;cases r <;> simp only [zKS,h]
theorem zFQ {fr fr':Fr} (h:get fr=get fr') (H:Heap):∀ rs,zBd fr H rs=zBd fr' H rs
 |[]=>rfl
 |r::rs=>by simp only [zBd,zTz h,zFQ h H rs]
def EFun (C:CSpec) (GT:zG_) (F:AF) (args:List AV) (H:Heap) (v:AV) (H':Heap):Prop:=
 EW C GT F.body (fun e fr H1=>match e with
  |.normal=>retP F H fr H1 v H'
  |.ret=>retP F H fr H1 v H'
  |_=>False) (zGR 0 args) H
theorem zSM {F:AF} {args:List AV} {H:Heap} {v:AV} {H':Heap} (h:EFun C GT F args H v H'):AFun C GT F args H v H':=by
 unfold EFun at h;unfold AFun;refine zFs _ _ _ _ _ H rfl (fun e f f' H1 hf h=>?_) h;have:retP F H f H1 v H'->zHM F H f' H1 v H':=fun h=>by
  have:=zVS.1 h;unfold zHM at this ⊢;rw [<-zFQ hf];exact this
 cases e with
 |normal=>exact this h
 |ret=>exact this h
 |_=>exact h
end
theorem zHU {H:Heap} {k:Nat} {v:AV} {xs r:List AV} (h:view H k v=some xs):zIt (v::r)=true:=by cases v <;> first|rfl|simp [view] at h
theorem zN4 {H:Heap} {k:Nat} {v:AV} {r:List AV} {p:List AV->Prop} (h:∃ xs,view H k v=some xs/\p xs):zIt (v::r)=true:=by obtain ⟨_,h,_⟩:=h;exact zHU h
theorem zN5 {k:Nat} {v:AV} {xs r:List AV} (h:∃ q k',v=.lst q k' xs/\(k'=k\/xs=[])):zIt (v::r)=true:=by obtain ⟨_,_,rfl,_⟩:=h;rfl
theorem zF {P:Program} {GT:zG_} (hm:P.follows .mixedOrders=true) {f:FuncId} {F:AF} (hc:zCU P f F=true) {args:List AV} {H:Heap} {v:AV} {H':Heap} (h:EFun (Good P GT) GT F args H v H')
  (hn:zIt args=true:=by first|rfl|exact Go.AM.zHU (by assumption)|exact Go.AM.zN4 (by assumption)|exact Go.AM.zN5 (by assumption)):Good P GT f args H v H':=
 zKd hm hc (zSM h) hn
section
variable {C:CSpec} {GT:zG_} {L:List Nat} {c:AC} {K:Post}
def zZF {σ:Type} (L:List Nat) (mk:σ->Fr) (inv:σ->Heap->Prop) (μ:σ->Nat) (s:σ) (fr:Fr) (H:Heap):Prop:=∃ s',zT fr L=mk s'/\inv s' H/\μ s'<μ s
structure nextP {σ:Type} (L:List Nat) (mk:σ->Fr) (inv:σ->Heap->Prop) (μ:σ->Nat) (s:σ) (fr:Fr) (H:Heap):Prop where
 h:zZF L mk inv μ s fr H
theorem zZG {σ:Type} (L:List Nat) (mk:σ->Fr) (inv:σ->Heap->Prop) (μ:σ->Nat) (s:σ) (fr:Fr) (H:Heap):nextP L mk inv μ s fr H=zZF L mk inv μ s fr H:=propext ⟨fun x=>x.h,fun x=>⟨x⟩⟩
theorem zN6 {σ:Type} {L:List Nat} {mk:σ->Fr} {inv:σ->Heap->Prop} {μ:σ->Nat} {s:σ} {fr:Fr} {H:Heap}:nextP L mk inv μ s fr H↔∃ s',zT fr L=mk s'/\inv s' H/\μ s'<μ s:=by rw [zZG];unfold zZF;exact zml
theorem zAJ {σ:Type} {L:List Nat} {mk:σ->Fr} {inv:σ->Heap->Prop} {μ:σ->Nat} {s:σ} {fr:Fr} {H:Heap} (s':σ) (h1:zT fr L=mk s') (h2:inv s' H) (h3:μ s'<μ s):nextP L mk inv μ s fr H:=zN6.2 ⟨s',h1,h2,h3⟩
def zjA {σ:Type} (L:List Nat) (mk:σ->Fr) (inv:σ->Heap->Prop) (μ:σ->Nat) (s:σ) (K:Post):Post:=fun e fr' H'=>match e with
 |.normal=>nextP L mk inv μ s fr' H'
 |.exit j=>K (.exit j) fr' H'
 |.ret=>K .ret fr' H'
 |.goto l=>K (.goto l) fr' H'
 |.pan x=>K (.pan x) fr' H'
theorem zAr {σ:Type} (mk:σ->Fr) (inv:σ->Heap->Prop) (μ:σ->Nat) (s0:σ) {fr:Fr} {H:Heap} (hf:fr=mk s0) (h0:inv s0 H)
  (step:∀ s H,inv s H->EW C GT c (zjA L mk inv μ s K) (mk s) H):loopP C GT L c K fr H:=by
 subst hf;rw [zSI];refine ⟨μ s0+1, ?_⟩;have key:∀ n s H,μ s<n->inv s H->zQd (AW C GT c) L (zN2 K) n (mk s) H:=by
  intro n;induction n with
  |zero=>grind
  |succ n ih=>
   intro s H hn hi;refine zFs c _ _ _ _ H rfl (fun e f f' H' hf h=>?_) (step s H hi);cases e with
   |normal=>
    obtain ⟨s',h1,h2,h3⟩:=zN6.1 h;simp only;rw [<-zBX hf,<-zBl,h1];exact ih s' H' tO h2
   |_=>exact ⟨f,hf,h⟩
 exact key _ s0 H (Nat.lt_succ_self _) h0
def zjB {σ:Type} (L:List Nat) (l:Nat) (mk:σ->Fr) (inv:σ->Heap->Prop) (μ:σ->Nat) (s:σ) (K:Post):Post:=fun e fr' H'=>match e with
 |.normal=>K .normal fr' H'
 |.exit j=>K (.exit j) fr' H'
 |.ret=>K .ret fr' H'
 |.goto l'=>l'=l/\nextP L mk inv μ s fr' H'
 |.pan x=>K (.pan x) fr' H'
theorem sGoto {σ:Type} {l:Nat} {r:AC} (mk:σ->Fr) (inv:σ->Heap->Prop) (μ:σ->Nat) (s0:σ) {fr:Fr} {H:Heap} (hf:fr=mk s0) (h0:inv s0 H)
  (step:∀ s H,inv s H->EW C GT r (zjB L l mk inv μ s K) (mk s) H):gotoP C GT L l r K fr H:=by
 subst hf;rw [zSL];refine ⟨μ s0+1, ?_⟩;have key:∀ n s H,μ s<n->inv s H->zK2 (AW C GT r) L l (zN2 K) n (mk s) H:=by
  intro n;induction n with
  |zero=>grind
  |succ n ih=>
   intro s H hn hi;refine zFs r _ _ _ _ H rfl (fun e f f' H' hf h=>?_) (step s H hi);cases e with
   |goto l'=>
    obtain ⟨hl,h⟩:=h;obtain ⟨s',h1,h2,h3⟩:=zN6.1 h;refine ⟨hl, ?_⟩;show zK2 (AW C GT r) L l (zN2 K) n (restrict f' L) H';rw [<-zBX hf,<-zBl,h1];exact ih s' H' tO h2
   |_=>exact ⟨f,hf,h⟩
 exact key _ s0 H (Nat.lt_succ_self _) h0
end
theorem zjC {x:Int} {K:Int->Prop} (h:-9223372036854775808<=x/\x<=9223372036854775807) (k:K x):valP (IntKind.wrap .i64 x) K:=
 zCl (IntWalk.i64_in x h) k
theorem zQ {x:Int} {r:Nat} {K:Int->Prop} (h:x=r) (hr:r<=9223372036854775807) (k:K (r:Int)):valP (IntKind.wrap .i64 x) K:=
 zCl (by rw [IntWalk.i64_in x tO,h]) k
def AV.plain:AV->Bool
 |.sl ..=>false
 |.agg _=>false
 |.tup _=>false
 |.iface _ _=>false
 |.mp _=>false
 |_=>true
theorem zSN {n:Nat} {v:AV} {H:Heap} (h:v.plain=true):zDm n v H=some (v,H):=by
 cases v <;> first|rfl|(simp [AV.plain] at h)
theorem zAe {p:AV} {H:Heap} {s o:Nat} {ag:Bool} {cs:List AV} {K:AV->Prop} (r:AV) (hp:zy H p=some (cs,o)) (hr:part cs o s ag=some r) (q:K r):loadN s ag p H K:=by
 rw [zSF];unfold zVO;split
 ·simp only [zy,zoS,zob] at hp;obtain ⟨rfl,rfl⟩:=hp;exact za hr q
 ·exact za hp (za hr q)
theorem z8 {x:AV} {H:Heap} {s o:Nat} {ag:Bool} {K:AV->Prop} (r:AV) (hr:part x.cells o s ag=some r) (q:K r):loadN s ag (.lref x o) H K:=zAe r rfl hr q
theorem zT0 {b k i o:Nat} {H:Heap} {xs:List AV} {x:AV} (h:H[b]?=some (.row k xs)) (hx:xs[i]?=some x):zy H (.ref b k i o)=some (x.cells,o):=by
 simp only [zy,h,zoz,hx,zoe]
theorem zJ {b k o:Nat} {H:Heap} {cs:List AV} (h:H[b]?=some (.box cs)):zy H (.ref b k 0 o)=some (cs,o):=by
 simp only [zy,h,zoz]
theorem zCs {b k i o s:Nat} {ag:Bool} (j:Nat) {H:Heap} {xs:List AV} (x r:AV) {K:AV->Prop} (hi:i=j) (h:H[b]?=some (.row k xs)) (hx:xs[j]?=some x) (hr:part x.cells o s ag=some r) (q:K r):loadN s ag (.ref b k i o) H K:=
 zAe r (zT0 h (by rw [hi];exact hx)) hr q
theorem zA {b k o s:Nat} {ag:Bool} {H:Heap} {cs:List AV} (r:AV) {K:AV->Prop} (h:H[b]?=some (.box cs)) (hr:part cs o s ag=some r) (q:K r):loadN s ag (.ref b k 0 o) H K:=
 zAe r (zJ h) hr q
theorem zIU {q:Option Bool} {b k off n:Nat} {K:Int->Prop} (h:K (n:Int)):lenP (.sl q b k off n) K:=by rw [zQo];unfold zY7;exact h
theorem zPC {q:Option Bool} {k:Nat} {xs:List AV} {K:Int->Prop} (h:K (xs.length:Int)):lenP (.lst q k xs) K:=by rw [zQo];unfold zY7;exact h
theorem zDU {v:AV} {H:Heap} {k:Nat} {xs:List AV} {K:Int->Prop} (hv:view H k v=some xs) (q:K (xs.length:Int)):lenP v K:=by
 unfold view at hv;split at hv
 ·refine zPC ?_;split at hv
  ·cases hv;exact q
  ·grind
 ·refine zIU ?_;split at hv
  ·grind
  ·cases hv
 ·cases hv
theorem zjD {v:AV} {H:Heap} {k:Nat} {xs:List AV} {K:Int->Prop} (n:Nat) (hv:view H k v=some xs) (hn:xs.length=n) (q:K (n:Int)):lenP v K:=zDU hv (by rw [hn];exact q)
theorem zSO {q':Option Bool} {k i:Nat} {xs:List AV} {n:Int} {x:AV} {K:AV->Prop} (hn:n=(i:Int)) (hx:xs[i]?=some x) (q:K (.lref x 0)):idxN k (.lst q' k xs) n K:=by
 rw [zJe];unfold zSE;exact zBA rfl (sIdxP hn hx q)
theorem zLM {v:AV} {H:Heap} {k:Nat} {xs:List AV} {n:Int} {K:AV->Prop} (i:Nat) (x:AV) (hv:view H k v=some xs) (hn:n=(i:Int)) (hx:xs[i]?=some x) (q:∀ p,zy H p=some (x.cells,0)->K p):idxN k v n K:=by
 have hlt:=(zl_ hx);unfold view at hv;split at hv
 ·split at hv
  ·rename_i hk;cases hv;subst hk;exact zSO hn hx (q _ rfl)
  ·grind
 ·rw [zJe];unfold zSE;simp only;split at hv
  ·rename_i hk;subst hk;split at hv
   ·rename_i hb;split at hv
    ·rename_i hc;cases hv;rw [zon,zok] at hlt;rw [zo5,zoQ tO,zo1] at hx;subst hn;rw [hc.1] at hb;refine zBA ⟨rfl,by omega,by omega⟩ (q _ (zT0 hb hx))
    ·cases hv
   ·rename_i hb;split at hv
    ·rename_i hc;cases hv;rw [zon,zok] at hlt;rw [zo5,zoQ tO,zo1] at hx;subst hn;rw [hc.1] at hb;refine zBA ⟨rfl,by omega,by omega⟩ (q _ ?_);show zy H (.ref _ _ _ _)=_;simp only [zy,hb,zoz,zoq,hx,zoe]
    ·cases hv
   ·cases hv
  ·cases hv
 ·cases hv
theorem sAt {q':Option Bool} {b k off len:Nat} {n:Int} {K:AV->Prop} (h:0<=n/\n<(len:Int)) (q:K (.ref b k (off+n.toNat) 0)):idxN k (.sl q' b k off len) n K:=by
 rw [zJe];unfold zSE;exact zBA ⟨rfl,h⟩ q
theorem zJ6 {b k i:Nat} (j:Nat) (v:AV) {x:AV} {H:Heap} {xs:List AV} {K:AV->Heap->Prop} (hi:i=j) (h:H[b]?=some (.row k xs)) (hx:xs[j]?=some x) (hp:v.plain=true) (h0:0<k) (he:v.elem k=true) (hn:∀ cs,x≠.agg cs)
  (q:K .undef (H.set b (.row k (xs.set j v)))):actP (.store k) [.ref b k i 0,v] H K:=by
 subst hi;refine zMj ?_ q;have hc:v.cells.length=k/\v.cells.all AV.one=true:=by
  simp only [AV.elem,zTo,zol] at he;exact ⟨he.1.1,he.2⟩
 have hu:zHr x 0 v=v:=by cases x <;> first|rfl|exact absurd rfl (hn _)
 simp only [astep,zoQ hc,h,zSN hp,hx];rw [zoQ ⟨trivial,by omega,h0,he⟩,hu]
theorem zdH {k bytes:Nat} {z:AV} {l c:Int} {n:Nat} {k1 k2:IntKind} {H:Heap} {K:AV->Heap->Prop} (hl:l=n) (hlc:l<=c) (hb:(bytes:Int)*c<=281474976710656/\c<=9223372036854775807) (hz:z.elem k=true)
  (q:K (.sl (some false) H.length k 0 n) (H++[.row k (List.replicate n z)])):actP (.make k bytes z) [.int k1 l,.int k2 c] H K:=by
 refine zMj ?_ q;subst hl;simp only [astep];rw [zoQ ⟨by omega,hlc,hb.1,hb.2,hz⟩];rfl
def zVV (n:Nat) (f:Nat->AV):List AV:=(List.range n).map f
def upd {α:Type} (f:Nat->α) (i:Nat) (v:α):Nat->α:=fun j=>if j=i then v else f j
theorem zVW (n:Nat) (f:Nat->AV):(zVV n f).length=n:=by simp [zVV]
theorem zVX {n i:Nat} {f:Nat->AV} (h:i<n):(zVV n f)[i]?=some (f i):=by simp [zVV,h]
theorem zVY {n i:Nat} {f:Nat->AV} {v:AV}:(zVV n f).set i v=zVV n (upd f i v):=by
 apply zm8;intro j;simp only [zVV,List.getElem?_set,zoX,zoU,znV];by_cases hj:j<n
 ·grind +locals
 ·grind
theorem zJf {n:Nat} {f g:Nat->AV} (h:∀ i,i<n->f i=g i):zVV n f=zVV n g:=by
 unfold zVV;exact znh fun i hi=>h i (znL.1 hi)
def fB (f:Nat->Bool):Nat->AV:=fun j=>.bool (f j)
theorem zKe:∀ u:List UInt8,zGy (u.map zq)=some u
 |[]=>rfl
 |c::u=>by simp [zGy,zq,zKe u]
def Old (H0 H:Heap):Prop:=H0.length<=H.length/\∀ c,c<H0.length->H[c]?=H0[c]?
theorem Old.refl (H:Heap):Old H H:=⟨zoR _,fun _ _=>rfl⟩
theorem Old.push {H0 H:Heap} (h:Old H0 H) (x:List ABlk):Old H0 (H++x):=
 ⟨by rw [zoP];have:=h.1;omega,fun c hc=>by rw [zof (zo3 hc h.1)];exact h.2 c hc⟩
theorem Old.set {H0 H:Heap} (h:Old H0 H) {b:Nat} (hb:H0.length<=b) (x:ABlk):Old H0 (H.set b x):=
 ⟨by rw [zoW];exact h.1,fun c hc=>by rw [zo7 tO];exact h.2 c hc⟩
theorem Old.trans {H0 H1 H2:Heap} (h:Old H0 H1) (k:Old H1 H2):Old H0 H2:=
 ⟨zmK h.1 k.1,fun c hc=>(k.2 c (zo3 hc h.1)).trans (h.2 c hc)⟩
theorem Old.take {H0 H:Heap} (h:Old H0 H):H.take H0.length=H0:=by
 apply zm8;intro i;rw [zo5];split
 ·rename_i hi;exact h.2 i hi
 ·grind
theorem Old.ok {H0 H:Heap} (h:Old H0 H):zWc H0 H:=fun b hb=>.inl (h.2 b hb)
theorem zB {H:Heap} {x:ABlk}:(H++[x])[H.length]?=some x:=by simp
theorem zG {H:Heap} {x:ABlk} {b:Nat} {y:ABlk} (h:H[b]?=some y):(H++[x])[b]?=some y:=by grind
theorem zS {H:Heap} {b:Nat} {x y:ABlk} (h:H[b]?=some y):(H.set b x)[b]?=some x:=by grind
theorem zE {H:Heap} {b c:Nat} {x y:ABlk} (hn:b≠c) (h:H[c]?=some y):(H.set b x)[c]?=some y:=by
 rw [zo7 hn];exact h
abbrev oR (L:List Nat) (ops:List AI):AC:=.reg L false ops
abbrev oC (t:Nat) (a b:AC):AC:=.cond (.tmp t) a b
abbrev oA (d:Nat) (z:List AV):AI:=⟨some d,none,.alloc z,[]⟩
abbrev oE (d:Nat) (o:BinOp) (a:Nat) (n:Int):AI:=⟨some d,none,.bin o,[.tmp a,.const (.int .i64 n)]⟩
abbrev oX (d:Nat) (o:BinOp) (a b:Nat):AI:=⟨some d,none,.bin o,[.tmp a,.tmp b]⟩
abbrev oV (d g:Nat) (b:Bool) (a:Nat):AI:=⟨some d,some (g,b),.mv,[.tmp a]⟩
abbrev oW (d g:Nat) (b:Bool) (k:AK) (a:Nat):AI:=⟨some d,some (g,b),k,[.tmp a]⟩
abbrev oY (d g:Nat) (b:Bool) (k:AK) (a c:Nat):AI:=⟨some d,some (g,b),k,[.tmp a,.tmp c]⟩
abbrev oEG (d g:Nat) (b:Bool) (o:BinOp) (a:Nat) (n:Int):AI:=⟨some d,some (g,b),.bin o,[.tmp a,.const (.int .i64 n)]⟩
abbrev oXG (d g:Nat) (b:Bool) (o:BinOp) (a c:Nat):AI:=⟨some d,some (g,b),.bin o,[.tmp a,.tmp c]⟩
abbrev oXI (d k a b:Nat):AI:=⟨some d,none,.idxAddr k,[.tmp a,.tmp b]⟩
abbrev oYI (d g:Nat) (b:Bool) (k a c:Nat):AI:=⟨some d,some (g,b),.idxAddr k,[.tmp a,.tmp c]⟩
abbrev oLen (d:Nat) (a:Nat):AI:=⟨some d,none,.len false,[.tmp a]⟩
abbrev oO (d a:Nat):AI:=⟨some d,none,.load 1 false,[.tmp a]⟩
abbrev oQ (L:List Nat) (ops:List AI) (c:AC):AC:=.seq (.reg L false ops) c
abbrev oP (d g:Nat) (c:Bool) (b:Nat):AI:=⟨some d,none,.pick,[.tmp g,.const (.bool c),.tmp b]⟩
abbrev oZ:List AV:=zV1
abbrev oM (d s:Nat):AI:=⟨some d,none,.mv,[.tmp s]⟩
abbrev oL (d k:Nat) (b:Bool) (s:Nat):AI:=⟨some d,none,.load k b,[.tmp s]⟩
abbrev oF (d k s:Nat):AI:=⟨some d,none,.fieldAddr k,[.tmp s]⟩
abbrev oS (k a b:Nat):AI:=⟨none,none,.store k,[.tmp a,.tmp b]⟩
abbrev oN (d s:Nat):AI:=⟨some d,none,.nilchk,[.tmp s]⟩
abbrev oI (d:Nat) (k:AK) (xs:List Opd):AI:=⟨some d,none,k,xs⟩
abbrev oJ (k:AK) (xs:List Opd):AI:=⟨none,none,k,xs⟩
abbrev oG (d g:Nat) (b:Bool) (k:AK) (xs:List Opd):AI:=⟨some d,some (g,b),k,xs⟩
abbrev oT (d:Nat) (k:AK) (s:Nat):AI:=⟨some d,none,k,[.tmp s]⟩
abbrev oD (d:Nat) (k:AK) (a b:Nat):AI:=⟨some d,none,k,[.tmp a,.tmp b]⟩
abbrev oK (n:Int):Opd:=.const (.int .i64 n)
abbrev oB (b:Bool):Opd:=.const (.bool b)
theorem tA {P:Prop} (h:P:=by first|assumption|exact zoR _|omega|(simp only [zoW,zoP,zoN,zoT];omega)|(simp;done)|(simp;omega)):P:=h
theorem tC {P:Prop} (h:P:=by first|exact zoR _|omega|(simp only [zoW,zoP,zoN,zoT];omega)|(simp;done)|(simp;omega)):P:=h
theorem sBlk {id:Nat} {L:List Nat} {K:Post} {fr F:Fr} {H:Heap} (h:zT fr L=F) (k:K .normal F H):zLI id L K (.exit id) fr H:=by
 rw [zSJ];simp only [zIT,zoz,<-zBl,h];exact k
def AV.blk:AV->Option Nat
 |.sl _ b _ _ _=>some b
 |_=>none
def Owns (H0 H:Heap) (v:AV) (k:Nat) (xs:List AV):Prop:=
 (v=.lst (some true) 0 []/\xs=[])\/∃ b,v=.sl (some true) b k 0 xs.length/\H0.length<=b/\H[b]?=some (.row k xs)/\xs≠[]
theorem Owns.nil (H0 H:Heap) (k:Nat):Owns H0 H (.lst (some true) 0 []) k []:=.inl ⟨rfl,rfl⟩
theorem Owns.lt {H0 H:Heap} {v:AV} {k:Nat} {xs:List AV} (h:Owns H0 H v k xs) {b:Nat} (hb:v.blk=some b):H0.length<=b/\b<H.length:=by grind +locals
theorem Owns.keep {H0 H H':Heap} {v:AV} {k:Nat} {xs:List AV} (h:Owns H0 H v k xs) (hk:∀ b x,v.blk=some b->H[b]?=some x->H'[b]?=some x):Owns H0 H' v k xs:=by grind +locals
theorem Owns.push {H0 H:Heap} {v:AV} {k:Nat} {xs:List AV} (h:Owns H0 H v k xs) (x:ABlk):Owns H0 (H++[x]) v k xs:=
 h.keep fun _ _ _ hx=>zG hx
theorem Owns.view {H0 H:Heap} {v:AV} {k:Nat} {xs:List AV} (h:Owns H0 H v k xs):view H k v=some xs:=by
 rcases h with ⟨rfl,rfl⟩|⟨b,rfl,_,h2,_⟩
 ·simp [Go.AM.view]
 ·simp [Go.AM.view,h2]
theorem zAR {H:Heap} {k:Nat} {q:Option Bool} {xs:List AV}:view (H++[.row k xs]) k (.sl q H.length k 0 xs.length)=some xs:=by
 simp [Go.AM.view]
theorem zAA {k:Nat} {vs vs':List AV} {H:Heap} {K:AV->Heap->Prop} (hf:zKR 0 vs H=some (vs',H)) (he:vs'.all (fun v=>v.elem k)=true)
  (q:K (.sl (some false) H.length k 0 vs'.length) (H++[.row k vs'])):actP (.bslice k) vs H K:=
 zMj (by simp only [astep,hf];rw [zoQ he]) q
theorem zHV {n:Nat} {a a':AV} {r r':List AV} {H H1 H2:Heap} (h1:zDm n a H=some (a',H1)) (h2:zKR n r H1=some (r',H2)):zKR n (a::r) H=some (a'::r',H2):=by
 simp only [zKR,h1,h2]
theorem zGc {k:Nat} {vs:List AV} (vs':List AV) {H:Heap} (H':Heap) {K:AV->Heap->Prop} (hf:zKR 0 vs H=some (vs',H')) (he:vs'.all (fun v=>v.elem k)=true)
  (q:K (.sl (some false) H'.length k 0 vs'.length) (H'++[.row k vs'])):actP (.bslice k) vs H K:=
 zMj (by simp only [astep,hf];rw [zoQ he]) q
theorem zA0 {H0 H:Heap} {v y:AV} {k bytes:Nat} {xs ys:List AV} {K:AV->Heap->Prop} (ho:Owns H0 H v k xs) (hH:Old H0 H) (hy:view H k y=some ys) (hb:bytes<=1024) (hl:xs.length+ys.length<=137438953472) (h0:ys≠[])
  (q:∀ v' H',Owns H0 H' v' k (xs++ys)->Old H0 H'->v'.blk=some H.length->(∀ c x,v.blk≠some c->H[c]?=some x->H'[c]?=some x)->K v' H'):actP (.append k bytes) [v,y] H K:=by
 have hm:(xs.length+ys.length)*bytes<=137438953472*1024:=znv hl hb;rcases ho with ⟨rfl,rfl⟩|⟨b,rfl,h1,h2,_⟩
 ·simp only [zoT,zl7] at hl hm;refine zMj (v:=.sl (some true) H.length k 0 ys.length) (H':=H++[.row k ys]) ?_ ?_
  ·simp only [astep,hy];rw [zoQ ⟨by omega,by omega⟩]
  ·grind +locals
 ·refine zMj (v:=.sl (some true) H.length k 0 (xs.length+ys.length)) (H':=H.set b .dead++[.row k (xs++ys)]) ?_ ?_
  ·simp only [astep,hy,h2];rw [zoQ ⟨trivial,trivial,by omega,by omega,by omega⟩];simp
  ·refine q _ _ (.inr ⟨_,by rw [zoP],hH.1, ?_,by simp [h0]⟩) ((hH.set h1 _).push _) rfl fun c x hc hx=>?_
   ·grind
   ·grind +locals
theorem zHW {H0 H:Heap} {v:AV} {u:List UInt8} {K:AV->Heap->Prop} (ho:Owns H0 H v 1 (u.map zq)) (q:K (.str u) H):actP .bytesToStr [v] H K:=
 zMj (by simp only [astep,ho.view,zKe,zoe]) q
def zCS (x:AV) (k:Nat) (xs:List AV):Prop:=∃ q k',x=.lst q k' xs/\(k'=k\/xs=[])
theorem zCS.view {x:AV} {k:Nat} {xs:List AV} (h:zCS x k xs) (H:Heap):view H k x=some xs:=by
 obtain ⟨q,k',rfl,rfl|rfl⟩:=h
 ·simp [Go.AM.view]
 ·simp [Go.AM.view]
theorem zCS.cells {x:AV} {k:Nat} {xs:List AV} (h:zCS x k xs):x.cells=[x]:=by obtain ⟨q,k',rfl,_⟩:=h;rfl
theorem zHx {H H':Heap} (hO:Old H H') {k:Nat} {v:AV} {xs:List AV} (h:view H k v=some xs):view H' k v=some xs:=by
 unfold view at h ⊢;split at h
 ·exact h
 ·grind +locals
 ·cases h
theorem zFB {H H':Heap} (hO:Old H H') {b:Nat} {x:ABlk} (h:H[b]?=some x):H'[b]?=some x:=by grind +locals
theorem zBg {v:AV} {k:Nat} {xs:List AV} {n:Int} {K:AV->Prop} (i:Nat) (x:AV) (hv:zCS v k xs) (hn:n=(i:Int)) (hx:xs[i]?=some x) (q:K (.lref x 0)):idxN k v n K:=by
 obtain ⟨qq,k',rfl,rfl|rfl⟩:=hv
 ·exact zSO hn hx q
 ·simp at hx
theorem zAk {v:AV} {k:Nat} {xs:List AV} {K:Int->Prop} (n:Nat) (hv:zCS v k xs) (hn:xs.length=n) (q:K (n:Int)):lenP v K:=zjD n (hv.view []) hn q
theorem zAV {x:AV} {H:Heap} {K:AV->Heap->Prop} (h:x.cells.all AV.one=true) (q:K (.ref H.length 0 0 0) (H++[.box x.cells])):actP .box [x] H K:=
 zMj (by simp only [astep];rw [zoQ h]) q
theorem zZH {b k s o:Nat} {v:AV} {cs:List AV} {H:Heap} {K:AV->Heap->Prop} (h:H[b]?=some (.box cs)) (hl:v.cells.length=s) (h1:v.cells.all AV.one=true) (ho:o+s<=cs.length)
  (q:K .undef (H.set b (.box (splice cs o v.cells)))):actP (.store s) [.ref b k 0 o,v] H K:=by
 refine zMj ?_ q;simp only [astep];rw [zoQ ⟨hl,h1⟩,h];simp only;rw [zoQ ⟨trivial,ho⟩]
theorem Owns.weaken {H0 H1 H:Heap} {v:AV} {k:Nat} {xs:List AV} (h:Owns H1 H v k xs) (hl:H0.length<=H1.length):Owns H0 H v k xs:=by grind +locals
theorem Owns.set {H0 H:Heap} {v:AV} {k:Nat} {xs:List AV} (h:Owns H0 H v k xs) {c:Nat} (hc:v.blk≠some c) (x:ABlk):Owns H0 (H.set c x) v k xs:=
 h.keep fun b _ hb hx=>zE (fun e=>hc (by rw [e];exact hb)) hx
theorem Owns.pushSet {H0 H:Heap} {v:AV} {k:Nat} {xs:List AV} (h:Owns H0 H v k xs) (x y:ABlk):Owns H0 ((H++[x]).set H.length y) v k xs:=
 (h.push x).set (fun e=>by have:=(h.lt e).2;omega) y
theorem Old.pushSet {H0 H:Heap} (h:Old H0 H) (x y:ABlk):Old H0 ((H++[x]).set H.length y):=(h.push [x]).set h.1 y
def zJ7 (k:Nat):List AV->AV
 |[]=>.lst (some true) 0 []
 |x::xs=>.lst (some false) k (x::xs)
theorem zQs (k:Nat) (xs:List AV):zCS (zJ7 k xs) k xs:=by
 cases xs
 ·exact ⟨_,_,rfl,.inr rfl⟩
 ·exact ⟨_,_,rfl,.inl rfl⟩
theorem zNU (n k:Nat) (xs:List AV):(zJ7 k xs).bel n=true:=by cases xs <;> rfl
theorem Owns.frz {H0 H:Heap} {v:AV} {k:Nat} {xs:List AV} (h:Owns H0 H v k xs) (hO:Old H0 H):∃ H',zDm H0.length v H=some (zJ7 k xs,H')/\Old H0 H'/\∀ c x,v.blk≠some c->H[c]?=some x->H'[c]?=some x:=by
 rcases h with ⟨rfl,rfl⟩|⟨b,rfl,h1,h2,h3⟩
 ·exact ⟨H,rfl,hO,fun _ _ _ h=>h⟩
 ·refine ⟨H.set b (.frz k xs), ?_,hO.set h1 _,fun c x hc hx=>zE (fun e=>hc (by rw [e];rfl)) hx⟩;cases xs with
  |nil=>exact absurd rfl h3
  |cons x xs=>
   simp only [zDm];rw [zWl tO,h2];simp [zJ7,zTb]
theorem zIw {F:AF} {H H1 H2:Heap} {fr:Fr} {v0 v:AV} (hk:F.keep=false) (hr:(zBd fr H1 F.results).map tupled=some v0) (hf:zDm H.length v0 H1=some (v,H2)) (hb:v.bel H.length=true) (ho:Old H H2):retP F H fr H1 v H:=by
 refine zcs ?_;unfold zHM;cases hs:zBd fr H1 F.results with
 |none=>rw [hs] at hr;cases hr
 |some vs=>
  rw [hs] at hr;simp only [zoe,zoS] at hr;subst hr;simp only [hk,hf,zoZ,zot];exact ⟨hb,ho.ok,trivial,ho.take.symm⟩
theorem zAQ {F:AF} {H H1:Heap} {fr:Fr} {v:AV} (hk:F.keep=false) (hr:(zBd fr H1 F.results).map tupled=some v) (hf:zDm H.length v H1=some (v,H1)) (hb:v.bel H.length=true) (ho:Old H H1):retP F H fr H1 v H:=by
 refine zcs ?_;unfold zHM;cases hs:zBd fr H1 F.results with
 |none=>rw [hs] at hr;cases hr
 |some vs=>
  rw [hs] at hr;simp only [zoe,zoS] at hr;subst hr;simp only [hk,hf,zoZ,zot];exact ⟨hb,ho.ok,trivial,ho.take.symm⟩
theorem zMB {F:AF} {H H1:Heap} {fr:Fr} {v v0:AV} (he:v=v0) (hk:F.keep=false) (hr:(zBd fr H1 F.results).map tupled=some v0) (hf:zDm H.length v0 H1=some (v0,H1)) (hb:v0.bel H.length=true) (ho:Old H H1):retP F H fr H1 v H:=by
 subst he;exact zAQ hk hr hf hb ho
theorem sRr {F:AF} {H:Heap} {fr:Fr} {v:AV} (hk:F.keep=false:=by rfl) (hr:(zBd fr H F.results).map tupled=some v:=by rfl) (hf:zDm H.length v H=some (v,H):=by rfl) (hb:v.bel H.length=true:=by rfl):retP F H fr H v H:=zAQ hk hr hf hb (Old.refl H)
abbrev zFj:Nat:=3
abbrev zFH:Nat:=6
abbrev zHy:Nat:=7
abbrev zG3:Nat:=8
abbrev zlJ:Nat:=4
abbrev zlI:Nat:=9
abbrev zlL:Nat:=10
abbrev zCY:Nat:=13
abbrev zHz:Nat:=14
abbrev zFt:Nat:=15
abbrev zEe:Nat:=16
abbrev zFu:Nat:=17
abbrev zH0:Nat:=18
abbrev zEf:Nat:=19
abbrev zEE:Nat:=20
abbrev zEg:Nat:=21
abbrev zFR:Nat:=22
abbrev zM2:Nat:=23
abbrev zBv:Nat:=25
abbrev zFI:Nat:=26
abbrev zG4:Nat:=27
abbrev zGd:Nat:=28
abbrev zEF:Nat:=29
abbrev zDW:Nat:=32
abbrev zBw:Nat:=33
abbrev zD4:Nat:=34
abbrev zF7:Nat:=35
abbrev zG5:Nat:=36
abbrev zG6:Nat:=37
abbrev zAg:Nat:=38
abbrev zH1:Nat:=39
abbrev zCo:Nat:=40
abbrev zEG:Nat:=41
abbrev zEY:Nat:=43
abbrev zFS:Nat:=44
abbrev zBx:Nat:=45
abbrev zBy:Nat:=46
abbrev zDA:Nat:=47
abbrev zEh:Nat:=48
abbrev zGe:Nat:=49
abbrev zBZ:Nat:=51
abbrev zk:Nat:=50
abbrev zi:Nat:=53
abbrev zAG:Nat:=54
abbrev zW:Nat:=55
abbrev zBC:Nat:=56
abbrev zAM:Nat:=57
abbrev zAh:Nat:=58
abbrev zDX:Nat:=59
abbrev zF8:Nat:=60
abbrev zAl:Nat:=66
abbrev zD5:Nat:=52
abbrev zGf:Nat:=42
abbrev zEi:Nat:=68
abbrev zH2:Nat:=67
abbrev zKf:Nat:=69
abbrev zX:Nat:=70
abbrev zm:Nat:=71
abbrev zl:Nat:=72
abbrev zFZ:Nat:=73
abbrev zFa:Nat:=74
abbrev zF9:Nat:=75
abbrev zBK:Nat:=76
abbrev zBm:Nat:=77
abbrev zDJ:Nat:=79
abbrev zFv:Nat:=78
abbrev zFb:Nat:=80
abbrev zE4:Nat:=81
abbrev zA1:Nat:=82
abbrev zAb:Nat:=83
abbrev zo:Nat:=84
abbrev zr:Nat:=85
abbrev zn:Nat:=86
abbrev zV:Nat:=87
abbrev zDY:Nat:=88
abbrev zBn:Nat:=89
abbrev zAp:Nat:=90
abbrev zEj:Nat:=91
abbrev zAB:Nat:=92
abbrev zIx:Nat:=62
abbrev zJg:Nat:=93
abbrev zu:Nat:=94
abbrev zBo:Nat:=95
abbrev zAW:Nat:=100
abbrev zDB:Nat:=101
abbrev zBa:Nat:=102
abbrev zl0:Nat:=103
abbrev zBf:Nat:=104
abbrev zGA:Nat:=105
abbrev zMC:Nat:=106
abbrev z6:Nat:=107
abbrev zFc:Nat:=108
abbrev zH3:Nat:=110
abbrev zFJ:Nat:=109
abbrev zDr:Nat:=111
abbrev zFC:Nat:=112
abbrev zIy:Nat:=113
abbrev zGB:Nat:=114
abbrev zEk:Nat:=115
abbrev zEH:Nat:=116
abbrev zAm:Nat:=118
abbrev zAT:Nat:=119
abbrev zD6:Nat:=120
abbrev zAY:Nat:=121
abbrev zBL:Nat:=122
abbrev zAq:Nat:=123
abbrev zH4:Nat:=126
abbrev zCp:Nat:=125
abbrev zAf:Nat:=124
abbrev zBI:Nat:=127
abbrev zDs:Nat:=128
abbrev zCt:Nat:=129
abbrev zDC:Nat:=130
abbrev zBz:Nat:=132
abbrev zDK:Nat:=131
abbrev zEI:Nat:=133
abbrev zZ:Nat:=137
abbrev zCZ:Nat:=138
abbrev zw:Nat:=139
abbrev zp:Nat:=140
abbrev zCa:Nat:=141
abbrev zY:Nat:=142
abbrev zA4:Nat:=143
abbrev zCC:Nat:=144
abbrev zA5:Nat:=147
abbrev zAE:Nat:=146
abbrev zBP:Nat:=148
abbrev zDD:Nat:=149
abbrev zD7:Nat:=151
abbrev zBD:Nat:=153
abbrev zBE:Nat:=154
abbrev zH5:Nat:=155
abbrev zD8:Nat:=156
abbrev zAs:Nat:=157
abbrev zA9:Nat:=158
abbrev zA6:Nat:=159
abbrev zAZ:Nat:=160
abbrev zBQ:Nat:=162
abbrev zAi:Nat:=163
abbrev zBM:Nat:=164
abbrev zAa:Nat:=165
abbrev zAK:Nat:=166
abbrev zAt:Nat:=168
abbrev zH6:Nat:=170
abbrev zIe:Nat:=169
abbrev zBR:Nat:=171
abbrev zA7:Nat:=173
abbrev zBF:Nat:=172
abbrev zGT:Nat:=175
abbrev zG7:Nat:=174
abbrev zDL:Nat:=182
abbrev zAN:Nat:=181
abbrev zDM:Nat:=183
abbrev zCu:Nat:=184
abbrev zBG:Nat:=185
abbrev zBN:Nat:=186
abbrev zCV:Nat:=187
abbrev zCW:Nat:=188
abbrev zAD:Nat:=161
abbrev zB5:Nat:=167
abbrev zBO:Nat:=189
abbrev zCv:Nat:=190
abbrev zCG:Nat:=191
abbrev zAF:Nat:=192
abbrev zA2:Nat:=201
abbrev zDN:Nat:=202
abbrev zDO:Nat:=203
abbrev zDP:Nat:=204
abbrev zCH:Nat:=205
abbrev zAS:Nat:=206
abbrev zBJ:Nat:=207
abbrev zBY:Nat:=208
abbrev zEl:Nat:=209
abbrev zDQ:Nat:=221
abbrev zA8:Nat:=222
abbrev zd:Nat:=47
abbrev zIz:Nat:=107
abbrev zz:Nat:=138
abbrev zEm:Nat:=126
abbrev zEn:Nat:=1
abbrev zEo:Nat:=2
abbrev zEP:Nat:=5
end Go.AM
