/- Several texts of mine in one (Am22, An). Own work. -/
import Derived.Test.YtkeblfepjkdleaaGreatDoorGAm17Am21
import Derived.IntWalk
set_option linter.all false
namespace Go.AM
theorem zjg {x:Int} {K:Int->Prop} (h:-9223372036854775808<=x/\x<=9223372036854775807) (k:K x):valP (IntKind.wrap .i64 x) K:=
 zDh (IntWalk.i64_in x h) k
theorem zS {x:Int} {r:Nat} {K:Int->Prop} (h:x=r) (hr:r<=9223372036854775807) (k:K (r:Int)):valP (IntKind.wrap .i64 x) K:=
 zDh (by rw [IntWalk.i64_in x tO,h]) k
def AV.plain:AV->Bool
 |.sl ..=>false
 |.agg _=>false
 |.tup _=>false
 |.iface _ _=>false
 |_=>true
theorem zaI {n:Nat} {v:AV} {H:Heap} (h:v.plain=true):zEM n v H=some (v,H):=by
 cases v <;> first|rfl|(simp [AV.plain] at h)
theorem zAt {p:AV} {H:Heap} {s o:Nat} {ag:Bool} {cs:List AV} {K:AV->Prop} (r:AV) (hp:zAD H p=some (cs,o)) (hr:part cs o s ag=some r) (q:K r):loadN s ag p H K:=by
 rw [zT1];unfold zW0;split
 ·simp only [zAD,zlJ,zlT] at hp;obtain ⟨rfl,rfl⟩:=hp;exact zx hr q
 ·exact zx hp (zx hr q)
theorem zA9 {x:AV} {H:Heap} {s o:Nat} {ag:Bool} {K:AV->Prop} (r:AV) (hr:part x.cells o s ag=some r) (q:K r):loadN s ag (.lref x o) H K:=zAt r rfl hr q
theorem zVk {b k i o:Nat} {H:Heap} {xs:List AV} {x:AV} (h:H[b]?=some (.row k xs)) (hx:xs[i]?=some x):zAD H (.ref b k i o)=some (x.cells,o):=by
 simp only [zAD,h,zlp,hx,zlW]
theorem zI {b k o:Nat} {H:Heap} {cs:List AV} (h:H[b]?=some (.box cs)):zAD H (.ref b k 0 o)=some (cs,o):=by
 simp only [zAD,h,zlp]
theorem zBa {b k i o s:Nat} {ag:Bool} (j:Nat) {H:Heap} {xs:List AV} (x r:AV) {K:AV->Prop} (hi:i=j) (h:H[b]?=some (.row k xs)) (hx:xs[j]?=some x) (hr:part x.cells o s ag=some r) (q:K r):loadN s ag (.ref b k i o) H K:=
 zAt r (zVk h (by rw [hi];exact hx)) hr q
theorem zA {b k o s:Nat} {ag:Bool} {H:Heap} {cs:List AV} (r:AV) {K:AV->Prop} (h:H[b]?=some (.box cs)) (hr:part cs o s ag=some r) (q:K r):loadN s ag (.ref b k 0 o) H K:=
 zAt r (zI h) hr q
theorem zHq {q:Option Bool} {b k off n:Nat} {K:Int->Prop} (h:K (n:Int)):lenP (.sl q b k off n) K:=by rw [zSO];unfold zZ8;exact h
theorem zQq {q:Option Bool} {k:Nat} {xs:List AV} {K:Int->Prop} (h:K (xs.length:Int)):lenP (.lst q k xs) K:=by rw [zSO];unfold zZ8;exact h
theorem zFH {v:AV} {H:Heap} {k:Nat} {xs:List AV} {K:Int->Prop} (hv:view H k v=some xs) (q:K (xs.length:Int)):lenP v K:=by
 unfold view at hv;split at hv
 ·refine zQq ?_;split at hv
  ·cases hv;exact q
  ·split at hv
   ·rename_i h;simp only [znr] at h;cases hv;rw [h];exact q
   ·cases hv
 ·refine zHq ?_;split at hv
  ·split at hv
   ·split at hv
    ·rename_i hc;cases hv;rw [zla,zlg] at q
     rwa [zmw tO] at q
    ·cases hv
   ·split at hv
    ·rename_i hc;cases hv;rw [zla,zlg] at q
     rwa [zmw tO] at q
    ·cases hv
   ·cases hv
  ·cases hv
 ·cases hv
theorem zjh {v:AV} {H:Heap} {k:Nat} {xs:List AV} {K:Int->Prop} (n:Nat) (hv:view H k v=some xs) (hn:xs.length=n) (q:K (n:Int)):lenP v K:=zFH hv (by rw [hn];exact q)
theorem zT9 {q':Option Bool} {k i:Nat} {xs:List AV} {n:Int} {x:AV} {K:AV->Prop} (hn:n=(i:Int)) (hx:xs[i]?=some x) (q:K (.lref x 0)):idxN k (.lst q' k xs) n K:=by
 rw [zKL];unfold zT0;exact zBF rfl (sIdxP hn hx q)
theorem zQr {v:AV} {H:Heap} {k:Nat} {xs:List AV} {n:Int} {K:AV->Prop} (i:Nat) (x:AV) (hv:view H k v=some xs) (hn:n=(i:Int)) (hx:xs[i]?=some x) (q:∀ p,zAD H p=some (x.cells,0)->K p):idxN k v n K:=by
 have hlt:=(zl_ hx);unfold view at hv;split at hv
 ·split at hv
  ·rename_i hk;cases hv;subst hk;exact zT9 hn hx (q _ rfl)
  ·split at hv
   ·cases hv;simp at hlt
   ·cases hv
 ·rw [zKL];unfold zT0;simp only;split at hv
  ·rename_i hk;subst hk;split at hv
   ·rename_i hb;split at hv
    ·rename_i hc;cases hv;rw [zla,zlg] at hlt;rw [zlt,zlF tO,zlu] at hx;subst hn;rw [hc.1] at hb;refine zBF ⟨rfl,by omega,by omega⟩ (q _ (zVk hb hx))
    ·cases hv
   ·rename_i hb;split at hv
    ·rename_i hc;cases hv;rw [zla,zlg] at hlt;rw [zlt,zlF tO,zlu] at hx;subst hn;rw [hc.1] at hb;refine zBF ⟨rfl,by omega,by omega⟩ (q _ ?_);show zAD H (.ref _ _ _ _)=_;simp only [zAD,hb,zlp,zlo,hx,zlW]
    ·cases hv
   ·cases hv
  ·cases hv
 ·cases hv
theorem sAt {q':Option Bool} {b k off len:Nat} {n:Int} {K:AV->Prop} (h:0<=n/\n<(len:Int)) (q:K (.ref b k (off+n.toNat) 0)):idxN k (.sl q' b k off len) n K:=by
 rw [zKL];unfold zT0;exact zBF ⟨rfl,h⟩ q
theorem zKs {b k i:Nat} (j:Nat) (v:AV) {x:AV} {H:Heap} {xs:List AV} {K:AV->Heap->Prop} (hi:i=j) (h:H[b]?=some (.row k xs)) (hx:xs[j]?=some x) (hp:v.plain=true) (h0:0<k) (he:v.elem k=true) (hn:∀ cs,x≠.agg cs)
  (q:K .undef (H.set b (.row k (xs.set j v)))):actP (.store k) [.ref b k i 0,v] H K:=by
 subst hi;refine zQp ?_ q;have hc:v.cells.length=k/\v.cells.all AV.one=true:=by
  simp only [AV.elem,zlG,zll] at he;exact ⟨he.1.1,he.2⟩
 have hu:zIQ x 0 v=v:=by cases x <;> first|rfl|exact absurd rfl (hn _)
 simp only [astep,zlF hc,h,zaI hp,hx];rw [zlF ⟨trivial,by omega,h0,he⟩,hu]
theorem zd2 {k bytes:Nat} {z:AV} {l c:Int} {n:Nat} {k1 k2:IntKind} {H:Heap} {K:AV->Heap->Prop} (hl:l=n) (hlc:l<=c) (hb:(bytes:Int)*c<=281474976710656/\c<=9223372036854775807) (hz:z.elem k=true)
  (q:K (.sl (some false) H.length k 0 n) (H++[.row k (List.replicate n z)])):actP (.make k bytes z) [.int k1 l,.int k2 c] H K:=by
 refine zQp ?_ q;subst hl;simp only [astep];rw [zlF ⟨by omega,hlc,hb.1,hb.2,hz⟩];rfl
def zW7 (n:Nat) (f:Nat->AV):List AV:=(List.range n).map f
def upd {α:Type} (f:Nat->α) (i:Nat) (v:α):Nat->α:=fun j=>if j=i then v else f j
theorem zW8 (n:Nat) (f:Nat->AV):(zW7 n f).length=n:=by simp [zW7]
theorem zW9 {n i:Nat} {f:Nat->AV} (h:i<n):(zW7 n f)[i]?=some (f i):=by simp [zW7,h]
theorem zXA {n i:Nat} {f:Nat->AV} {v:AV}:(zW7 n f).set i v=zW7 n (upd f i v):=by
 apply znA;intro j;simp only [zW7,List.getElem?_set,zlQ,zlM,znP];by_cases hj:j<n
 ·rw [zmc hj];by_cases e:i=j
  ·subst e;simp [hj,upd]
  ·simp [e,upd,zl7 e]
 ·rw [zl0 (l:=List.range n) (by simpa using hj)];simp only [Option.map_none,ite_eq_right_iff];intro e;subst e;simp [hj]
theorem zKM {n:Nat} {f g:Nat->AV} (h:∀ i,i<n->f i=g i):zW7 n f=zW7 n g:=by
 unfold zW7;exact znZ fun i hi=>h i (zny.1 hi)
def fB (f:Nat->Bool):Nat->AV:=fun j=>.bool (f j)
theorem zLH:∀ u:List UInt8,zHK (u.map zo)=some u
 |[]=>rfl
 |c::u=>by simp [zHK,zo,zLH u]
def Old (H0 H:Heap):Prop:=H0.length<=H.length/\∀ c,c<H0.length->H[c]?=H0[c]?
theorem Old.refl (H:Heap):Old H H:=⟨zlK _,fun _ _=>rfl⟩
theorem Old.push {H0 H:Heap} (h:Old H0 H) (x:List ABlk):Old H0 (H++x):=
 ⟨by rw [zlH];have:=h.1;omega,fun c hc=>by rw [zlS (zl4 hc h.1)];exact h.2 c hc⟩
theorem Old.set {H0 H:Heap} (h:Old H0 H) {b:Nat} (hb:H0.length<=b) (x:ABlk):Old H0 (H.set b x):=
 ⟨by rw [zlP];exact h.1,fun c hc=>by rw [zlm tO];exact h.2 c hc⟩
theorem Old.trans {H0 H1 H2:Heap} (h:Old H0 H1) (k:Old H1 H2):Old H0 H2:=
 ⟨zmR h.1 k.1,fun c hc=>(k.2 c (zl4 hc h.1)).trans (h.2 c hc)⟩
theorem Old.take {H0 H:Heap} (h:Old H0 H):H.take H0.length=H0:=by
 apply znA;intro i;rw [zlt];split
 ·rename_i hi;exact h.2 i hi
 ·rename_i hi;rw [zl0 tO]
theorem Old.ok {H0 H:Heap} (h:Old H0 H):zXw H0 H:=fun b hb=>.inl (h.2 b hb)
theorem zB {H:Heap} {x:ABlk}:(H++[x])[H.length]?=some x:=by simp
theorem zD {H:Heap} {x:ABlk} {b:Nat} {y:ABlk} (h:H[b]?=some y):(H++[x])[b]?=some y:=by
 rw [zlS (zl_ h)];exact h
theorem zU {H:Heap} {b:Nat} {x y:ABlk} (h:H[b]?=some y):(H.set b x)[b]?=some x:=by
 rw [zli (zl_ h)]
theorem zC {H:Heap} {b c:Nat} {x y:ABlk} (hn:b≠c) (h:H[c]?=some y):(H.set b x)[c]?=some y:=by
 rw [zlm hn];exact h
abbrev oR (L:List Nat) (ops:List AI):AC:=.reg L false ops
abbrev oC (t:Nat) (a b:AC):AC:=.cond (.tmp t) a b
abbrev oA (d:Nat) (z:List AV):AI:=⟨some d,none,.alloc z,[]⟩
abbrev oE (d:Nat) (o:BinOp) (a:Nat) (n:Int):AI:=⟨some d,none,.bin o,[.tmp a,.const (.int .i64 n)]⟩
abbrev oX (d:Nat) (o:BinOp) (a b:Nat):AI:=⟨some d,none,.bin o,[.tmp a,.tmp b]⟩
abbrev oV (d g:Nat) (b:Bool) (a:Nat):AI:=⟨some d,some (g,b),.mv,[.tmp a]⟩
abbrev oW (d g:Nat) (b:Bool) (k:AK) (a:Nat):AI:=⟨some d,some (g,b),k,[.tmp a]⟩
abbrev oY (d g:Nat) (b:Bool) (k:AK) (a c:Nat):AI:=⟨some d,some (g,b),k,[.tmp a,.tmp c]⟩
abbrev oEG (d g:Nat) (b:Bool) (o:BinOp) (a:Nat) (n:Int):AI:=⟨some d,some (g,b),.bin o,[.tmp a,.const (.int .i64 n)]⟩
abbrev oXG (d g:Nat) (b:Bool) (o:BinOp) (a c:Nat):AI:=⟨some d,some (g,b),.bin o,[.tmp a,.tmp c]⟩
abbrev oXI (d k a b:Nat):AI:=⟨some d,none,.idxAddr k,[.tmp a,.tmp b]⟩
abbrev oYI (d g:Nat) (b:Bool) (k a c:Nat):AI:=⟨some d,some (g,b),.idxAddr k,[.tmp a,.tmp c]⟩
abbrev zEN (d:Nat) (a:Nat):AI:=⟨some d,none,.len false,[.tmp a]⟩
abbrev oO (d a:Nat):AI:=⟨some d,none,.load 1 false,[.tmp a]⟩
abbrev oQ (L:List Nat) (ops:List AI) (c:AC):AC:=.seq (.reg L false ops) c
abbrev oP (d g:Nat) (c:Bool) (b:Nat):AI:=⟨some d,none,.pick,[.tmp g,.const (.bool c),.tmp b]⟩
abbrev oZ:List AV:=zV1
abbrev oM (d s:Nat):AI:=⟨some d,none,.mv,[.tmp s]⟩
abbrev oL (d k:Nat) (b:Bool) (s:Nat):AI:=⟨some d,none,.load k b,[.tmp s]⟩
abbrev oF (d k s:Nat):AI:=⟨some d,none,.fieldAddr k,[.tmp s]⟩
abbrev oS (k a b:Nat):AI:=⟨none,none,.store k,[.tmp a,.tmp b]⟩
abbrev oN (d s:Nat):AI:=⟨some d,none,.nilchk,[.tmp s]⟩
abbrev oI (d:Nat) (k:AK) (xs:List Opd):AI:=⟨some d,none,k,xs⟩
abbrev oJ (k:AK) (xs:List Opd):AI:=⟨none,none,k,xs⟩
abbrev oG (d g:Nat) (b:Bool) (k:AK) (xs:List Opd):AI:=⟨some d,some (g,b),k,xs⟩
abbrev oT (d:Nat) (k:AK) (s:Nat):AI:=⟨some d,none,k,[.tmp s]⟩
abbrev oD (d:Nat) (k:AK) (a b:Nat):AI:=⟨some d,none,k,[.tmp a,.tmp b]⟩
abbrev oK (n:Int):Opd:=.const (.int .i64 n)
abbrev oB (b:Bool):Opd:=.const (.bool b)
theorem tA {P:Prop} (h:P:=by first|assumption|exact zlK _|omega|(simp only [zlP,zlH,zlE,zlL];omega)|(simp;done)|(simp;omega)):P:=h
theorem tC {P:Prop} (h:P:=by first|exact zlK _|omega|(simp only [zlP,zlH,zlE,zlL];omega)|(simp;done)|(simp;omega)):P:=h
theorem sBlk {id:Nat} {L:List Nat} {K:Post} {fr F:Fr} {H:Heap} (h:zT fr L=F) (k:K .normal F H):zJi id L K (.exit id) fr H:=by
 rw [zT5];simp only [zI4,zlp,<-zBn,h];exact k
def AV.blk:AV->Option Nat
 |.sl _ b _ _ _=>some b
 |_=>none
def Owns (H0 H:Heap) (v:AV) (k:Nat) (xs:List AV):Prop:=
 (v=.lst (some true) 0 []/\xs=[])\/∃ b,v=.sl (some true) b k 0 xs.length/\H0.length<=b/\H[b]?=some (.row k xs)/\xs≠[]
theorem Owns.nil (H0 H:Heap) (k:Nat):Owns H0 H (.lst (some true) 0 []) k []:=.inl ⟨rfl,rfl⟩
theorem Owns.lt {H0 H:Heap} {v:AV} {k:Nat} {xs:List AV} (h:Owns H0 H v k xs) {b:Nat} (hb:v.blk=some b):H0.length<=b/\b<H.length:=by
 rcases h with ⟨rfl,_⟩|⟨b',rfl,h1,h2,_⟩
 ·cases hb
 ·simp only [AV.blk,zlJ] at hb;subst hb;exact ⟨h1,(zl_ h2)⟩
theorem Owns.keep {H0 H H':Heap} {v:AV} {k:Nat} {xs:List AV} (h:Owns H0 H v k xs) (hk:∀ b x,v.blk=some b->H[b]?=some x->H'[b]?=some x):Owns H0 H' v k xs:=by
 rcases h with h|⟨b,rfl,h1,h2,h3⟩
 ·exact .inl h
 ·exact .inr ⟨b,rfl,h1,hk b _ rfl h2,h3⟩
theorem Owns.push {H0 H:Heap} {v:AV} {k:Nat} {xs:List AV} (h:Owns H0 H v k xs) (x:ABlk):Owns H0 (H++[x]) v k xs:=
 h.keep fun _ _ _ hx=>zD hx
theorem Owns.view {H0 H:Heap} {v:AV} {k:Nat} {xs:List AV} (h:Owns H0 H v k xs):view H k v=some xs:=by
 rcases h with ⟨rfl,rfl⟩|⟨b,rfl,_,h2,_⟩
 ·simp [Go.AM.view]
 ·simp [Go.AM.view,h2]
theorem zAu {H:Heap} {k:Nat} {q:Option Bool} {xs:List AV}:view (H++[.row k xs]) k (.sl q H.length k 0 xs.length)=some xs:=by
 simp [Go.AM.view]
theorem zAb {k:Nat} {vs vs':List AV} {H:Heap} {K:AV->Heap->Prop} (hf:zLg 0 vs H=some (vs',H)) (he:vs'.all (fun v=>v.elem k)=true)
  (q:K (.sl (some false) H.length k 0 vs'.length) (H++[.row k vs'])):actP (.bslice k) vs H K:=
 zQp (by simp only [astep,hf];rw [zlF he]) q
theorem zHr {n:Nat} {a a':AV} {r r':List AV} {H H1 H2:Heap} (h1:zEM n a H=some (a',H1)) (h2:zLg n r H1=some (r',H2)):zLg n (a::r) H=some (a'::r',H2):=by
 simp only [zLg,h1,h2]
theorem zG0 {k:Nat} {vs:List AV} (vs':List AV) {H:Heap} (H':Heap) {K:AV->Heap->Prop} (hf:zLg 0 vs H=some (vs',H')) (he:vs'.all (fun v=>v.elem k)=true)
  (q:K (.sl (some false) H'.length k 0 vs'.length) (H'++[.row k vs'])):actP (.bslice k) vs H K:=
 zQp (by simp only [astep,hf];rw [zlF he]) q
theorem zBw {H0 H:Heap} {v y:AV} {k bytes:Nat} {xs ys:List AV} {K:AV->Heap->Prop} (ho:Owns H0 H v k xs) (hH:Old H0 H) (hy:view H k y=some ys) (hb:bytes<=1024) (hl:xs.length+ys.length<=137438953472) (h0:ys≠[])
  (q:∀ v' H',Owns H0 H' v' k (xs++ys)->Old H0 H'->v'.blk=some H.length->(∀ c x,v.blk≠some c->H[c]?=some x->H'[c]?=some x)->K v' H'):actP (.append k bytes) [v,y] H K:=by
 have hm:(xs.length+ys.length)*bytes<=137438953472*1024:=Nat.mul_le_mul hl hb;rcases ho with ⟨rfl,rfl⟩|⟨b,rfl,h1,h2,_⟩
 ·simp only [zlL,zlx] at hl hm;refine zQp (v:=.sl (some true) H.length k 0 ys.length) (H':=H++[.row k ys]) ?_ ?_
  ·simp only [astep,hy];rw [zlF ⟨by omega,by omega⟩]
  ·exact q _ _ (.inr ⟨_,rfl,hH.1,zB,h0⟩) (hH.push _) rfl fun _ _ _ hx=>zD hx
 ·refine zQp (v:=.sl (some true) H.length k 0 (xs.length+ys.length)) (H':=H.set b .dead++[.row k (xs++ys)]) ?_ ?_
  ·simp only [astep,hy,h2];rw [zlF ⟨trivial,trivial,by omega,by omega,by omega⟩];simp
  ·refine q _ _ (.inr ⟨_,by rw [zlH],hH.1, ?_,by simp [h0]⟩) ((hH.set h1 _).push _) rfl fun c x hc hx=>?_
   ·have:(H.set b .dead).length=H.length:=zlP;rw [<-this];exact zB
   ·exact zD (zC (fun e=>hc (by rw [e];rfl)) hx)
theorem zHs {H0 H:Heap} {v:AV} {u:List UInt8} {K:AV->Heap->Prop} (ho:Owns H0 H v 1 (u.map zo)) (q:K (.str u) H):actP .bytesToStr [v] H K:=
 zQp (by simp only [astep,ho.view,zLH,zlW]) q
def zDe (x:AV) (k:Nat) (xs:List AV):Prop:=∃ q k',x=.lst q k' xs/\(k'=k\/xs=[])
theorem zDe.view {x:AV} {k:Nat} {xs:List AV} (h:zDe x k xs) (H:Heap):view H k x=some xs:=by
 obtain ⟨q,k',rfl,rfl|rfl⟩:=h
 ·simp [Go.AM.view]
 ·simp [Go.AM.view]
theorem zDe.cells {x:AV} {k:Nat} {xs:List AV} (h:zDe x k xs):x.cells=[x]:=by obtain ⟨q,k',rfl,_⟩:=h;rfl
theorem zd3 {H H':Heap} (hO:Old H H') {k:Nat} {v:AV} {xs:List AV} (h:view H k v=some xs):view H' k v=some xs:=by
 unfold view at h ⊢;split at h
 ·exact h
 ·split at h
  ·rename_i hk;rw [zlF hk];have:∀ x,H[‹Nat›]?=some x->True:=fun _ _=>trivial;split at h
   ·rename_i hb;rw [hO.2 _ (zl_ hb),hb];exact h
   ·rename_i hb;rw [hO.2 _ (zl_ hb),hb];exact h
   ·cases h
  ·cases h
 ·cases h
theorem zPY {H H':Heap} (hO:Old H H') {b:Nat} {x:ABlk} (h:H[b]?=some x):H'[b]?=some x:=by
 rw [hO.2 _ (zl_ h)];exact h
theorem zFD {v:AV} {k:Nat} {xs:List AV} {n:Int} {K:AV->Prop} (i:Nat) (x:AV) (hv:zDe v k xs) (hn:n=(i:Int)) (hx:xs[i]?=some x) (q:K (.lref x 0)):idxN k v n K:=by
 obtain ⟨qq,k',rfl,rfl|rfl⟩:=hv
 ·exact zT9 hn hx q
 ·simp at hx
theorem zBH {v:AV} {k:Nat} {xs:List AV} {K:Int->Prop} (n:Nat) (hv:zDe v k xs) (hn:xs.length=n) (q:K (n:Int)):lenP v K:=zjh n (hv.view []) hn q
theorem zCR {x:AV} {H:Heap} {K:AV->Heap->Prop} (h:x.cells.all AV.one=true) (q:K (.ref H.length 0 0 0) (H++[.box x.cells])):actP .box [x] H K:=
 zQp (by simp only [astep];rw [zlF h]) q
theorem zaJ {b k s o:Nat} {v:AV} {cs:List AV} {H:Heap} {K:AV->Heap->Prop} (h:H[b]?=some (.box cs)) (hl:v.cells.length=s) (h1:v.cells.all AV.one=true) (ho:o+s<=cs.length)
  (q:K .undef (H.set b (.box (splice cs o v.cells)))):actP (.store s) [.ref b k 0 o,v] H K:=by
 refine zQp ?_ q;simp only [astep];rw [zlF ⟨hl,h1⟩,h];simp only;rw [zlF ⟨trivial,ho⟩]
theorem Owns.ne_box {H0 H:Heap} {v:AV} {k:Nat} {xs:List AV} (h:Owns H0 H v k xs) {c:Nat} {cs:List AV} (hb:H[c]?=some (.box cs)):v.blk≠some c:=by
 rcases h with ⟨rfl,_⟩|⟨b,rfl,h1,h2,h3⟩
 ·simp [AV.blk]
 ·intro e;simp only [AV.blk,zlJ] at e;subst e;rw [h2] at hb;cases hb
theorem Owns.set {H0 H:Heap} {v:AV} {k:Nat} {xs:List AV} (h:Owns H0 H v k xs) {c:Nat} (hc:v.blk≠some c) (x:ABlk):Owns H0 (H.set c x) v k xs:=
 h.keep fun b _ hb hx=>zC (fun e=>hc (by rw [e];exact hb)) hx
theorem Owns.pushSet {H0 H:Heap} {v:AV} {k:Nat} {xs:List AV} (h:Owns H0 H v k xs) (x y:ABlk):Owns H0 ((H++[x]).set H.length y) v k xs:=
 (h.push x).set (fun e=>by have:=(h.lt e).2;omega) y
theorem Old.pushSet {H0 H:Heap} (h:Old H0 H) (x y:ABlk):Old H0 ((H++[x]).set H.length y):=(h.push [x]).set h.1 y
def zQi (k:Nat):List AV->AV
 |[]=>.lst (some true) 0 []
 |x::xs=>.lst (some false) k (x::xs)
theorem zhH (k:Nat) (xs:List AV):zDe (zQi k xs) k xs:=by
 cases xs
 ·exact ⟨_,_,rfl,.inr rfl⟩
 ·exact ⟨_,_,rfl,.inl rfl⟩
theorem zSS (n k:Nat) (xs:List AV):(zQi k xs).bel n=true:=by cases xs <;> rfl
theorem Owns.frz {H0 H:Heap} {v:AV} {k:Nat} {xs:List AV} (h:Owns H0 H v k xs) (hO:Old H0 H):∃ H',zEM H0.length v H=some (zQi k xs,H')/\Old H0 H'/\∀ c x,v.blk≠some c->H[c]?=some x->H'[c]?=some x:=by
 rcases h with ⟨rfl,rfl⟩|⟨b,rfl,h1,h2,h3⟩
 ·exact ⟨H,rfl,hO,fun _ _ _ h=>h⟩
 ·refine ⟨H.set b (.frz k xs), ?_,hO.set h1 _,fun c x hc hx=>zC (fun e=>hc (by rw [e];rfl)) hx⟩;cases xs with
  |nil=>exact absurd rfl h3
  |cons x xs=>
   simp only [zEM];rw [zlD tO,h2];simp [zQi,zWk]
theorem zQs {F:AF} {H H1 H2:Heap} {fr:Fr} {v0 v:AV} (hk:F.keep=false) (hr:(zBh fr H1 F.results).map tupled=some v0) (hf:zEM H.length v0 H1=some (v,H2)) (hb:v.bel H.length=true) (ho:Old H H2):retP F H fr H1 v H:=by
 refine zgd ?_;unfold zHj;cases hs:zBh fr H1 F.results with
 |none=>rw [hs] at hr;cases hr
 |some vs=>
  rw [hs] at hr;simp only [zlW,zlJ] at hr;subst hr;simp only [hk,hf,zlO,zlj];exact ⟨hb,ho.ok,trivial,ho.take.symm⟩
theorem zAv {F:AF} {H H1:Heap} {fr:Fr} {v:AV} (hk:F.keep=false) (hr:(zBh fr H1 F.results).map tupled=some v) (hf:zEM H.length v H1=some (v,H1)) (hb:v.bel H.length=true) (ho:Old H H1):retP F H fr H1 v H:=by
 refine zgd ?_;unfold zHj;cases hs:zBh fr H1 F.results with
 |none=>rw [hs] at hr;cases hr
 |some vs=>
  rw [hs] at hr;simp only [zlW,zlJ] at hr;subst hr;simp only [hk,hf,zlO,zlj];exact ⟨hb,ho.ok,trivial,ho.take.symm⟩
theorem zHO {F:AF} {H H1:Heap} {fr:Fr} {v v0:AV} (he:v=v0) (hk:F.keep=false) (hr:(zBh fr H1 F.results).map tupled=some v0) (hf:zEM H.length v0 H1=some (v0,H1)) (hb:v0.bel H.length=true) (ho:Old H H1):retP F H fr H1 v H:=by
 subst he;exact zAv hk hr hf hb ho
theorem sRr {F:AF} {H:Heap} {fr:Fr} {v:AV} (hk:F.keep=false:=by rfl) (hr:(zBh fr H F.results).map tupled=some v:=by rfl) (hf:zEM H.length v H=some (v,H):=by rfl) (hb:v.bel H.length=true:=by rfl):retP F H fr H v H:=zAv hk hr hf hb (Old.refl H)
abbrev zFw:Nat:=3
abbrev zEO:Nat:=4
abbrev zF4:Nat:=5
abbrev zFQ:Nat:=6
abbrev zCf:Nat:=7
abbrev zFR:Nat:=8
abbrev zBx:Nat:=9
abbrev zCG:Nat:=10
abbrev zF5:Nat:=11
abbrev zFI:Nat:=12
abbrev zEP:Nat:=14
abbrev zDJ:Nat:=16
abbrev zIW:Nat:=13
abbrev zEn:Nat:=18
abbrev zEQ:Nat:=19
abbrev zBo:Nat:=20
abbrev zBy:Nat:=21
abbrev zEB:Nat:=22
abbrev zBI:Nat:=23
abbrev zBc:Nat:=24
abbrev zCS:Nat:=25
abbrev zEo:Nat:=26
abbrev zBd:Nat:=27
abbrev zIX:Nat:=28
abbrev zCy:Nat:=29
abbrev zDK:Nat:=30
abbrev zDw:Nat:=31
abbrev zG1:Nat:=15
abbrev zFS:Nat:=17
abbrev zGL:Nat:=32
abbrev z6:Nat:=33
abbrev zu:Nat:=34
abbrev zAe:Nat:=35
abbrev zAq:Nat:=37
abbrev zAS:Nat:=38
abbrev zEh:Nat:=39
abbrev zX:Nat:=40
abbrev zY:Nat:=41
abbrev zc:Nat:=42
abbrev zAL:Nat:=43
abbrev zFm:Nat:=44
abbrev zEp:Nat:=45
abbrev zAO:Nat:=46
abbrev zAo:Nat:=47
abbrev zGM:Nat:=48
abbrev zFT:Nat:=49
abbrev zAh:Nat:=50
abbrev zAF:Nat:=51
abbrev zAk:Nat:=52
abbrev zCg:Nat:=53
abbrev zFn:Nat:=55
abbrev zAc:Nat:=54
abbrev zFc:Nat:=36
abbrev zw:Nat:=56
abbrev zLI:Nat:=57
abbrev zAP:Nat:=58
abbrev zDP:Nat:=59
abbrev zAl:Nat:=60
abbrev zCH:Nat:=61
abbrev zA3:Nat:=62
abbrev zJk:Nat:=63
abbrev zFo:Nat:=64
abbrev zFJ:Nat:=65
abbrev zAB:Nat:=66
abbrev zDL:Nat:=67
abbrev zF6:Nat:=69
abbrev zEC:Nat:=68
abbrev zDB:Nat:=70
abbrev zCh:Nat:=71
abbrev zFd:Nat:=72
abbrev zEq:Nat:=73
abbrev zEr:Nat:=74
abbrev zCJ:Nat:=76
abbrev zF7:Nat:=75
abbrev zA7:Nat:=77
abbrev zAi:Nat:=78
abbrev zV:Nat:=79
abbrev zj:Nat:=80
abbrev zW:Nat:=81
abbrev zd:Nat:=82
abbrev zCi:Nat:=83
abbrev zAp:Nat:=84
abbrev zk:Nat:=85
abbrev zCj:Nat:=86
abbrev zy:Nat:=87
abbrev ze:Nat:=94
abbrev zCk:Nat:=95
abbrev zq:Nat:=96
abbrev zm:Nat:=97
abbrev zCl:Nat:=98
abbrev zb:Nat:=99
abbrev zAV:Nat:=100
abbrev zCC:Nat:=101
abbrev zDM:Nat:=102
abbrev zAZ:Nat:=103
abbrev zAW:Nat:=104
abbrev zED:Nat:=105
abbrev zAf:Nat:=106
abbrev zA4:Nat:=107
abbrev zAX:Nat:=108
abbrev zIY:Nat:=111
abbrev zBp:Nat:=110
abbrev za:Nat:=109
abbrev zBO:Nat:=112
abbrev zCm:Nat:=113
abbrev zCK:Nat:=114
abbrev zCT:Nat:=115
abbrev zAm:Nat:=117
abbrev zBf:Nat:=116
abbrev zER:Nat:=118
abbrev zBJ:Nat:=132
abbrev zBK:Nat:=133
abbrev zIZ:Nat:=134
abbrev zEE:Nat:=135
abbrev zAw:Nat:=136
abbrev zBE:Nat:=137
abbrev zBA:Nat:=138
abbrev zBB:Nat:=140
abbrev zp:Nat:=139
abbrev zBT:Nat:=141
abbrev zCU:Nat:=142
abbrev zDQ:Nat:=144
abbrev zDW:Nat:=152
abbrev z7:Nat:=151
abbrev zDX:Nat:=153
abbrev zDC:Nat:=154
abbrev zBL:Nat:=155
abbrev zBR:Nat:=156
abbrev zCb:Nat:=157
abbrev zCc:Nat:=158
abbrev zAg:Nat:=159
abbrev zBU:Nat:=161
abbrev zAd:Nat:=162
abbrev zA5:Nat:=163
abbrev zAI:Nat:=164
abbrev zAN:Nat:=165
abbrev zAx:Nat:=167
abbrev zIa:Nat:=169
abbrev zJI:Nat:=168
abbrev zBV:Nat:=170
abbrev zBC:Nat:=172
abbrev zBM:Nat:=171
abbrev zGk:Nat:=174
abbrev zHP:Nat:=173
abbrev zAG:Nat:=181
abbrev zDY:Nat:=182
abbrev zDZ:Nat:=183
abbrev zCL:Nat:=184
abbrev zCM:Nat:=185
abbrev zAU:Nat:=186
abbrev z8:Nat:=160
abbrev zB5:Nat:=166
abbrev zBS:Nat:=187
abbrev zDD:Nat:=188
abbrev zBg:Nat:=189
abbrev zz:Nat:=190
abbrev zDa:Nat:=199
abbrev zBP:Nat:=200
abbrev zBb:Nat:=201
abbrev zEs:Nat:=202
abbrev zBD:Nat:=214
abbrev zO:Nat:=45
abbrev zJl:Nat:=104
abbrev zAC:Nat:=138
abbrev zEt:Nat:=128
abbrev zEu:Nat:=1
abbrev zEv:Nat:=2
abbrev zD7:Nat:=5
end Go.AM
