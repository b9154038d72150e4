/- Several texts of mine in one (Am22, Xn). Own work. -/
import Derived.Test.YtafclpcpdmeodaaGreatDoorGAm17Am21
import Derived.IntWalk
set_option linter.all false
namespace Go.AM
theorem sW64 {x:Int} {K:Int->Prop} (h:-9223372036854775808<=x/\x<=9223372036854775807) (k:K x):valP (IntKind.wrap .i64 x) K:=
 zFR (IntWalk.i64_in x h) k
theorem zS {x:Int} {r:Nat} {K:Int->Prop} (h:x=r) (hr:r<=9223372036854775807) (k:K (r:Int)):valP (IntKind.wrap .i64 x) K:=
 zFR (by rw [IntWalk.i64_in x tO,h]) k
def AV.plain:AV->Bool
 |.sl ..=>false
 |.agg _=>false
 |.tup _=>false
 |.iface _ _=>false
 |_=>true
theorem frz_plain {n:Nat} {v:AV} {H:Heap} (h:v.plain=true):zEE n v H=some (v,H):=by
 cases v <;> first|rfl|(simp [AV.plain] at h)
theorem zAn {p:AV} {H:Heap} {s o:Nat} {ag:Bool} {cs:List AV} {K:AV->Prop} (r:AV) (hp:zAA H p=some (cs,o)) (hr:part cs o s ag=some r) (q:K r):loadN s ag p H K:=by
 rw [loadN_def];unfold loadNW;split
 ·simp only [zAA,zQT,zQd] at hp;obtain ⟨rfl,rfl⟩:=hp;exact zy hr q
 ·exact zy hp (zy hr q)
theorem zA4 {x:AV} {H:Heap} {s o:Nat} {ag:Bool} {K:AV->Prop} (r:AV) (hr:part x.cells o s ag=some r) (q:K r):loadN s ag (.lref x o) H K:=zAn r rfl hr q
theorem ptr_row {b k i o:Nat} {H:Heap} {xs:List AV} {x:AV} (h:H[b]?=some (.row k xs)) (hx:xs[i]?=some x):zAA H (.ref b k i o)=some (x.cells,o):=by
 simp only [zAA,h,zQz,hx,zQg]
theorem zH {b k o:Nat} {H:Heap} {cs:List AV} (h:H[b]?=some (.box cs)):zAA H (.ref b k 0 o)=some (cs,o):=by
 simp only [zAA,h,zQz]
theorem zBV {b k i o s:Nat} {ag:Bool} (j:Nat) {H:Heap} {xs:List AV} (x r:AV) {K:AV->Prop} (hi:i=j) (h:H[b]?=some (.row k xs)) (hx:xs[j]?=some x) (hr:part x.cells o s ag=some r) (q:K r):loadN s ag (.ref b k i o) H K:=
 zAn r (ptr_row h (by rw [hi];exact hx)) hr q
theorem zA {b k o s:Nat} {ag:Bool} {H:Heap} {cs:List AV} (r:AV) {K:AV->Prop} (h:H[b]?=some (.box cs)) (hr:part cs o s ag=some r) (q:K r):loadN s ag (.ref b k 0 o) H K:=
 zAn r (zH h) hr q
theorem zHb {q:Option Bool} {b k off n:Nat} {K:Int->Prop} (h:K (n:Int)):lenP (.sl q b k off n) K:=by rw [lenP_def];unfold lenPW;exact h
theorem sLenL {q:Option Bool} {k:Nat} {xs:List AV} {K:Int->Prop} (h:K (xs.length:Int)):lenP (.lst q k xs) K:=by rw [lenP_def];unfold lenPW;exact h
theorem zFB {v:AV} {H:Heap} {k:Nat} {xs:List AV} {K:Int->Prop} (hv:view H k v=some xs) (q:K (xs.length:Int)):lenP v K:=by
 unfold view at hv;split at hv
 ·refine sLenL ?_;split at hv
  ·cases hv;exact q
  ·split at hv
   ·rename_i h;simp only [zS0] at h;cases hv;rw [h];exact q
   ·cases hv
 ·refine zHb ?_;split at hv
  ·split at hv
   ·split at hv
    ·rename_i hc;cases hv;rw [zQk,zQp] at q
     rwa [zR6 tO] at q
    ·cases hv
   ·split at hv
    ·rename_i hc;cases hv;rw [zQk,zQp] at q
     rwa [zR6 tO] at q
    ·cases hv
   ·cases hv
  ·cases hv
 ·cases hv
theorem sLenN {v:AV} {H:Heap} {k:Nat} {xs:List AV} {K:Int->Prop} (n:Nat) (hv:view H k v=some xs) (hn:xs.length=n) (q:K (n:Int)):lenP v K:=zFB hv (by rw [hn];exact q)
theorem sIdx {q':Option Bool} {k i:Nat} {xs:List AV} {n:Int} {x:AV} {K:AV->Prop} (hn:n=(i:Int)) (hx:xs[i]?=some x) (q:K (.lref x 0)):idxN k (.lst q' k xs) n K:=by
 rw [zJ3];unfold idxNW;exact zBA rfl (sIdxP hn hx q)
theorem sIdxV {v:AV} {H:Heap} {k:Nat} {xs:List AV} {n:Int} {K:AV->Prop} (i:Nat) (x:AV) (hv:view H k v=some xs) (hn:n=(i:Int)) (hx:xs[i]?=some x) (q:∀ p,zAA H p=some (x.cells,0)->K p):idxN k v n K:=by
 have hlt:=(zg hx).1;unfold view at hv;split at hv
 ·split at hv
  ·rename_i hk;cases hv;subst hk;exact sIdx hn hx (q _ rfl)
  ·split at hv
   ·cases hv;simp at hlt
   ·cases hv
 ·rw [zJ3];unfold idxNW;simp only;split at hv
  ·rename_i hk;subst hk;split at hv
   ·rename_i hb;split at hv
    ·rename_i hc;cases hv;rw [zQk,zQp] at hlt;rw [zQ3,zQQ tO,zQ4] at hx;subst hn;rw [hc.1] at hb;refine zBA ⟨rfl,by omega,by omega⟩ (q _ (ptr_row hb hx))
    ·cases hv
   ·rename_i hb;split at hv
    ·rename_i hc;cases hv;rw [zQk,zQp] at hlt;rw [zQ3,zQQ tO,zQ4] at hx;subst hn;rw [hc.1] at hb;refine zBA ⟨rfl,by omega,by omega⟩ (q _ ?_);show zAA H (.ref _ _ _ _)=_;simp only [zAA,hb,zQz,zQy,hx,zQg]
    ·cases hv
   ·cases hv
  ·cases hv
 ·cases hv
theorem sAt {q':Option Bool} {b k off len:Nat} {n:Int} {K:AV->Prop} (h:0<=n/\n<(len:Int)) (q:K (.ref b k (off+n.toNat) 0)):idxN k (.sl q' b k off len) n K:=by
 rw [zJ3];unfold idxNW;exact zBA ⟨rfl,h⟩ q
theorem zKb {b k i:Nat} (j:Nat) (v:AV) {x:AV} {H:Heap} {xs:List AV} {K:AV->Heap->Prop} (hi:i=j) (h:H[b]?=some (.row k xs)) (hx:xs[j]?=some x) (hp:v.plain=true) (h0:0<k) (he:v.elem k=true) (hn:∀ cs,x≠.agg cs)
  (q:K .undef (H.set b (.row k (xs.set j v)))):actP (.store k) [.ref b k i 0,v] H K:=by
 subst hi;refine sAct ?_ q;have hc:v.cells.length=k/\v.cells.all AV.one=true:=by
  simp only [AV.elem,zQP,zQv] at he;exact ⟨he.1.1,he.2⟩
 have hu:zH7 x 0 v=v:=by cases x <;> first|rfl|exact absurd rfl (hn _)
 simp only [astep,zQQ hc,h,frz_plain hp,hx];rw [zQQ ⟨trivial,by omega,h0,he⟩,hu]
theorem sMake {k bytes:Nat} {z:AV} {l c:Int} {n:Nat} {k1 k2:IntKind} {H:Heap} {K:AV->Heap->Prop} (hl:l=n) (hlc:l<=c) (hb:(bytes:Int)*c<=281474976710656/\c<=9223372036854775807) (hz:z.elem k=true)
  (q:K (.sl (some false) H.length k 0 n) (H++[.row k (List.replicate n z)])):actP (.make k bytes z) [.int k1 l,.int k2 c] H K:=by
 refine sAct ?_ q;subst hl;simp only [astep];rw [zQQ ⟨by omega,hlc,hb.1,hb.2,hz⟩];rfl
def rowF (n:Nat) (f:Nat->AV):List AV:=(List.range n).map f
def upd {α:Type} (f:Nat->α) (i:Nat) (v:α):Nat->α:=fun j=>if j=i then v else f j
theorem rowF_len (n:Nat) (f:Nat->AV):(rowF n f).length=n:=by simp [rowF]
theorem rowF_get {n i:Nat} {f:Nat->AV} (h:i<n):(rowF n f)[i]?=some (f i):=by simp [rowF,h]
theorem rowF_set {n i:Nat} {f:Nat->AV} {v:AV}:(rowF n f).set i v=rowF n (upd f i v):=by
 apply zSL;intro j;simp only [rowF,List.getElem?_set,zQa,zQW,zSY];by_cases hj:j<n
 ·rw [zRl hj];by_cases e:i=j
  ·subst e;simp [hj,upd]
  ·simp [e,upd,zRH e]
 ·rw [zQ9 (l:=List.range n) (by simpa using hj)];simp only [Option.map_none,ite_eq_right_iff];intro e;subst e;simp [hj]
theorem zJ4 {n:Nat} {f g:Nat->AV} (h:∀ i,i<n->f i=g i):rowF n f=rowF n g:=by
 unfold rowF;exact zSi fun i hi=>h i (zS7.1 hi)
def fB (f:Nat->Bool):Nat->AV:=fun j=>.bool (f j)
theorem zK0:∀ u:List UInt8,zG8 (u.map zo)=some u
 |[]=>rfl
 |c::u=>by simp [zG8,zo,zK0 u]
def Old (H0 H:Heap):Prop:=H0.length<=H.length/\∀ c,c<H0.length->H[c]?=H0[c]?
theorem Old.refl (H:Heap):Old H H:=⟨zQU _,fun _ _=>rfl⟩
theorem Old.push {H0 H:Heap} (h:Old H0 H) (x:List ABlk):Old H0 (H++x):=
 ⟨by rw [zQR];have:=h.1;omega,fun c hc=>by rw [zQc (zRE hc h.1)];exact h.2 c hc⟩
theorem Old.set {H0 H:Heap} (h:Old H0 H) {b:Nat} (hb:H0.length<=b) (x:ABlk):Old H0 (H.set b x):=
 ⟨by rw [zQZ];exact h.1,fun c hc=>by rw [zQw tO];exact h.2 c hc⟩
theorem Old.trans {H0 H1 H2:Heap} (h:Old H0 H1) (k:Old H1 H2):Old H0 H2:=
 ⟨zRb h.1 k.1,fun c hc=>(k.2 c (zRE hc h.1)).trans (h.2 c hc)⟩
theorem Old.take {H0 H:Heap} (h:Old H0 H):H.take H0.length=H0:=by
 apply zSL;intro i;rw [zQ3];split
 ·rename_i hi;exact h.2 i hi
 ·rename_i hi;rw [zQ9 tO]
theorem Old.ok {H0 H:Heap} (h:Old H0 H):OldOK H0 H:=fun b hb=>.inl (h.2 b hb)
theorem zB {H:Heap} {x:ABlk}:(H++[x])[H.length]?=some x:=by simp
theorem zF {H:Heap} {x:ABlk} {b:Nat} {y:ABlk} (h:H[b]?=some y):(H++[x])[b]?=some y:=by
 rw [zQc (zg h).1];exact h
theorem zV {H:Heap} {b:Nat} {x y:ABlk} (h:H[b]?=some y):(H.set b x)[b]?=some x:=by
 rw [zQr (zg h).1]
theorem zC {H:Heap} {b c:Nat} {x y:ABlk} (hn:b≠c) (h:H[c]?=some y):(H.set b x)[c]?=some y:=by
 rw [zQw hn];exact h
abbrev oR (L:List Nat) (ops:List AI):AC:=.reg L false ops
abbrev oC (t:Nat) (a b:AC):AC:=.cond (.tmp t) a b
abbrev oA (d:Nat) (z:List AV):AI:=⟨some d,none,.alloc z,[]⟩
abbrev oE (d:Nat) (o:BinOp) (a:Nat) (n:Int):AI:=⟨some d,none,.bin o,[.tmp a,.const (.int .i64 n)]⟩
abbrev oX (d:Nat) (o:BinOp) (a b:Nat):AI:=⟨some d,none,.bin o,[.tmp a,.tmp b]⟩
abbrev oV (d g:Nat) (b:Bool) (a:Nat):AI:=⟨some d,some (g,b),.mv,[.tmp a]⟩
abbrev oW (d g:Nat) (b:Bool) (k:AK) (a:Nat):AI:=⟨some d,some (g,b),k,[.tmp a]⟩
abbrev oY (d g:Nat) (b:Bool) (k:AK) (a c:Nat):AI:=⟨some d,some (g,b),k,[.tmp a,.tmp c]⟩
abbrev oEG (d g:Nat) (b:Bool) (o:BinOp) (a:Nat) (n:Int):AI:=⟨some d,some (g,b),.bin o,[.tmp a,.const (.int .i64 n)]⟩
abbrev oXG (d g:Nat) (b:Bool) (o:BinOp) (a c:Nat):AI:=⟨some d,some (g,b),.bin o,[.tmp a,.tmp c]⟩
abbrev oXI (d k a b:Nat):AI:=⟨some d,none,.idxAddr k,[.tmp a,.tmp b]⟩
abbrev oYI (d g:Nat) (b:Bool) (k a c:Nat):AI:=⟨some d,some (g,b),.idxAddr k,[.tmp a,.tmp c]⟩
abbrev zEF (d:Nat) (a:Nat):AI:=⟨some d,none,.len false,[.tmp a]⟩
abbrev oO (d a:Nat):AI:=⟨some d,none,.load 1 false,[.tmp a]⟩
abbrev oQ (L:List Nat) (ops:List AI) (c:AC):AC:=.seq (.reg L false ops) c
abbrev oP (d g:Nat) (c:Bool) (b:Nat):AI:=⟨some d,none,.pick,[.tmp g,.const (.bool c),.tmp b]⟩
abbrev oZ:List AV:=zV2
abbrev oM (d s:Nat):AI:=⟨some d,none,.mv,[.tmp s]⟩
abbrev oL (d k:Nat) (b:Bool) (s:Nat):AI:=⟨some d,none,.load k b,[.tmp s]⟩
abbrev oF (d k s:Nat):AI:=⟨some d,none,.fieldAddr k,[.tmp s]⟩
abbrev oS (k a b:Nat):AI:=⟨none,none,.store k,[.tmp a,.tmp b]⟩
abbrev oN (d s:Nat):AI:=⟨some d,none,.nilchk,[.tmp s]⟩
abbrev oI (d:Nat) (k:AK) (xs:List Opd):AI:=⟨some d,none,k,xs⟩
abbrev oJ (k:AK) (xs:List Opd):AI:=⟨none,none,k,xs⟩
abbrev oG (d g:Nat) (b:Bool) (k:AK) (xs:List Opd):AI:=⟨some d,some (g,b),k,xs⟩
abbrev oT (d:Nat) (k:AK) (s:Nat):AI:=⟨some d,none,k,[.tmp s]⟩
abbrev oD (d:Nat) (k:AK) (a b:Nat):AI:=⟨some d,none,k,[.tmp a,.tmp b]⟩
abbrev oK (n:Int):Opd:=.const (.int .i64 n)
abbrev oB (b:Bool):Opd:=.const (.bool b)
theorem tA {P:Prop} (h:P:=by first|assumption|exact zQU _|omega|(simp only [zQZ,zQR,zQO,zQV];omega)|(simp;done)|(simp;omega)):P:=h
theorem tC {P:Prop} (h:P:=by first|exact zQU _|omega|(simp only [zQZ,zQR,zQO,zQV];omega)|(simp;done)|(simp;omega)):P:=h
theorem sBlk {id:Nat} {L:List Nat} {K:Post} {fr F:Fr} {H:Heap} (h:zT fr L=F) (k:K .normal F H):zKa id L K (.exit id) fr H:=by
 rw [blockF_eq];simp only [zIo,zQz,<-zBj,h];exact k
def AV.blk:AV->Option Nat
 |.sl _ b _ _ _=>some b
 |_=>none
def Owns (H0 H:Heap) (v:AV) (k:Nat) (xs:List AV):Prop:=
 (v=.lst (some true) 0 []/\xs=[])\/∃ b,v=.sl (some true) b k 0 xs.length/\H0.length<=b/\H[b]?=some (.row k xs)/\xs≠[]
theorem Owns.nil (H0 H:Heap) (k:Nat):Owns H0 H (.lst (some true) 0 []) k []:=.inl ⟨rfl,rfl⟩
theorem Owns.lt {H0 H:Heap} {v:AV} {k:Nat} {xs:List AV} (h:Owns H0 H v k xs) {b:Nat} (hb:v.blk=some b):H0.length<=b/\b<H.length:=by
 rcases h with ⟨rfl,_⟩|⟨b',rfl,h1,h2,_⟩
 ·cases hb
 ·simp only [AV.blk,zQT] at hb;subst hb;exact ⟨h1,(zg h2).1⟩
theorem Owns.keep {H0 H H':Heap} {v:AV} {k:Nat} {xs:List AV} (h:Owns H0 H v k xs) (hk:∀ b x,v.blk=some b->H[b]?=some x->H'[b]?=some x):Owns H0 H' v k xs:=by
 rcases h with h|⟨b,rfl,h1,h2,h3⟩
 ·exact .inl h
 ·exact .inr ⟨b,rfl,h1,hk b _ rfl h2,h3⟩
theorem Owns.push {H0 H:Heap} {v:AV} {k:Nat} {xs:List AV} (h:Owns H0 H v k xs) (x:ABlk):Owns H0 (H++[x]) v k xs:=
 h.keep fun _ _ _ hx=>zF hx
theorem Owns.view {H0 H:Heap} {v:AV} {k:Nat} {xs:List AV} (h:Owns H0 H v k xs):view H k v=some xs:=by
 rcases h with ⟨rfl,rfl⟩|⟨b,rfl,_,h2,_⟩
 ·simp [Go.AM.view]
 ·simp [Go.AM.view,h2]
theorem zAo {H:Heap} {k:Nat} {q:Option Bool} {xs:List AV}:view (H++[.row k xs]) k (.sl q H.length k 0 xs.length)=some xs:=by
 simp [Go.AM.view]
theorem zAW {k:Nat} {vs vs':List AV} {H:Heap} {K:AV->Heap->Prop} (hf:zLP 0 vs H=some (vs',H)) (he:vs'.all (fun v=>v.elem k)=true)
  (q:K (.sl (some false) H.length k 0 vs'.length) (H++[.row k vs'])):actP (.bslice k) vs H K:=
 sAct (by simp only [astep,hf];rw [zQQ he]) q
theorem zHc {n:Nat} {a a':AV} {r r':List AV} {H H1 H2:Heap} (h1:zEE n a H=some (a',H1)) (h2:zLP n r H1=some (r',H2)):zLP n (a::r) H=some (a'::r',H2):=by
 simp only [zLP,h1,h2]
theorem zGm {k:Nat} {vs:List AV} (vs':List AV) {H:Heap} (H':Heap) {K:AV->Heap->Prop} (hf:zLP 0 vs H=some (vs',H')) (he:vs'.all (fun v=>v.elem k)=true)
  (q:K (.sl (some false) H'.length k 0 vs'.length) (H'++[.row k vs'])):actP (.bslice k) vs H K:=
 sAct (by simp only [astep,hf];rw [zQQ he]) q
theorem zBt {H0 H:Heap} {v y:AV} {k bytes:Nat} {xs ys:List AV} {K:AV->Heap->Prop} (ho:Owns H0 H v k xs) (hH:Old H0 H) (hy:view H k y=some ys) (hb:bytes<=1024) (hl:xs.length+ys.length<=137438953472) (h0:ys≠[])
  (q:∀ v' H',Owns H0 H' v' k (xs++ys)->Old H0 H'->v'.blk=some H.length->(∀ c x,v.blk≠some c->H[c]?=some x->H'[c]?=some x)->K v' H'):actP (.append k bytes) [v,y] H K:=by
 have hm:(xs.length+ys.length)*bytes<=137438953472*1024:=Nat.mul_le_mul hl hb;rcases ho with ⟨rfl,rfl⟩|⟨b,rfl,h1,h2,_⟩
 ·simp only [zQV,zQ7] at hl hm;refine sAct (v:=.sl (some true) H.length k 0 ys.length) (H':=H++[.row k ys]) ?_ ?_
  ·simp only [astep,hy];rw [zQQ ⟨by omega,by omega⟩]
  ·exact q _ _ (.inr ⟨_,rfl,hH.1,zB,h0⟩) (hH.push _) rfl fun _ _ _ hx=>zF hx
 ·refine sAct (v:=.sl (some true) H.length k 0 (xs.length+ys.length)) (H':=H.set b .dead++[.row k (xs++ys)]) ?_ ?_
  ·simp only [astep,hy,h2];rw [zQQ ⟨trivial,trivial,by omega,by omega,by omega⟩];simp
  ·refine q _ _ (.inr ⟨_,by rw [zQR],hH.1, ?_,by simp [h0]⟩) ((hH.set h1 _).push _) rfl fun c x hc hx=>?_
   ·have:(H.set b .dead).length=H.length:=zQZ;rw [<-this];exact zB
   ·exact zF (zC (fun e=>hc (by rw [e];rfl)) hx)
theorem zHd {H0 H:Heap} {v:AV} {u:List UInt8} {K:AV->Heap->Prop} (ho:Owns H0 H v 1 (u.map zo)) (q:K (.str u) H):actP .bytesToStr [v] H K:=
 sAct (by simp only [astep,ho.view,zK0,zQg]) q
def zDa (x:AV) (k:Nat) (xs:List AV):Prop:=∃ q k',x=.lst q k' xs/\(k'=k\/xs=[])
theorem zDa.view {x:AV} {k:Nat} {xs:List AV} (h:zDa x k xs) (H:Heap):view H k x=some xs:=by
 obtain ⟨q,k',rfl,rfl|rfl⟩:=h
 ·simp [Go.AM.view]
 ·simp [Go.AM.view]
theorem zDa.cells {x:AV} {k:Nat} {xs:List AV} (h:zDa x k xs):x.cells=[x]:=by obtain ⟨q,k',rfl,_⟩:=h;rfl
theorem view_old {H H':Heap} (hO:Old H H') {k:Nat} {v:AV} {xs:List AV} (h:view H k v=some xs):view H' k v=some xs:=by
 unfold view at h ⊢;split at h
 ·exact h
 ·split at h
  ·rename_i hk;rw [zQQ hk];have:∀ x,H[‹Nat›]?=some x->True:=fun _ _=>trivial;split at h
   ·rename_i hb;rw [hO.2 _ (zg hb).1,hb];exact h
   ·rename_i hb;rw [hO.2 _ (zg hb).1,hb];exact h
   ·cases h
  ·cases h
 ·cases h
theorem zPB {H H':Heap} (hO:Old H H') {b:Nat} {x:ABlk} (h:H[b]?=some x):H'[b]?=some x:=by
 rw [hO.2 _ (zg h).1];exact h
theorem zE6 {v:AV} {k:Nat} {xs:List AV} {n:Int} {K:AV->Prop} (i:Nat) (x:AV) (hv:zDa v k xs) (hn:n=(i:Int)) (hx:xs[i]?=some x) (q:K (.lref x 0)):idxN k v n K:=by
 obtain ⟨qq,k',rfl,rfl|rfl⟩:=hv
 ·exact sIdx hn hx q
 ·simp at hx
theorem zBC {v:AV} {k:Nat} {xs:List AV} {K:Int->Prop} (n:Nat) (hv:zDa v k xs) (hn:xs.length=n) (q:K (n:Int)):lenP v K:=sLenN n (hv.view []) hn q
theorem zBr {x:AV} {H:Heap} {K:AV->Heap->Prop} (h:x.cells.all AV.one=true) (q:K (.ref H.length 0 0 0) (H++[.box x.cells])):actP .box [x] H K:=
 sAct (by simp only [astep];rw [zQQ h]) q
theorem sStoreBox {b k s o:Nat} {v:AV} {cs:List AV} {H:Heap} {K:AV->Heap->Prop} (h:H[b]?=some (.box cs)) (hl:v.cells.length=s) (h1:v.cells.all AV.one=true) (ho:o+s<=cs.length)
  (q:K .undef (H.set b (.box (splice cs o v.cells)))):actP (.store s) [.ref b k 0 o,v] H K:=by
 refine sAct ?_ q;simp only [astep];rw [zQQ ⟨hl,h1⟩,h];simp only;rw [zQQ ⟨trivial,ho⟩]
theorem Owns.ne_box {H0 H:Heap} {v:AV} {k:Nat} {xs:List AV} (h:Owns H0 H v k xs) {c:Nat} {cs:List AV} (hb:H[c]?=some (.box cs)):v.blk≠some c:=by
 rcases h with ⟨rfl,_⟩|⟨b,rfl,h1,h2,h3⟩
 ·simp [AV.blk]
 ·intro e;simp only [AV.blk,zQT] at e;subst e;rw [h2] at hb;cases hb
theorem Owns.set {H0 H:Heap} {v:AV} {k:Nat} {xs:List AV} (h:Owns H0 H v k xs) {c:Nat} (hc:v.blk≠some c) (x:ABlk):Owns H0 (H.set c x) v k xs:=
 h.keep fun b _ hb hx=>zC (fun e=>hc (by rw [e];exact hb)) hx
theorem Owns.pushSet {H0 H:Heap} {v:AV} {k:Nat} {xs:List AV} (h:Owns H0 H v k xs) (x y:ABlk):Owns H0 ((H++[x]).set H.length y) v k xs:=
 (h.push x).set (fun e=>by have:=(h.lt e).2;omega) y
theorem Old.pushSet {H0 H:Heap} (h:Old H0 H) (x y:ABlk):Old H0 ((H++[x]).set H.length y):=(h.push [x]).set h.1 y
def lstF (k:Nat):List AV->AV
 |[]=>.lst (some true) 0 []
 |x::xs=>.lst (some false) k (x::xs)
theorem lstF_of (k:Nat) (xs:List AV):zDa (lstF k xs) k xs:=by
 cases xs
 ·exact ⟨_,_,rfl,.inr rfl⟩
 ·exact ⟨_,_,rfl,.inl rfl⟩
theorem lstF_bel (n k:Nat) (xs:List AV):(lstF k xs).bel n=true:=by cases xs <;> rfl
theorem Owns.frz {H0 H:Heap} {v:AV} {k:Nat} {xs:List AV} (h:Owns H0 H v k xs) (hO:Old H0 H):∃ H',zEE H0.length v H=some (lstF k xs,H')/\Old H0 H'/\∀ c x,v.blk≠some c->H[c]?=some x->H'[c]?=some x:=by
 rcases h with ⟨rfl,rfl⟩|⟨b,rfl,h1,h2,h3⟩
 ·exact ⟨H,rfl,hO,fun _ _ _ h=>h⟩
 ·refine ⟨H.set b (.frz k xs), ?_,hO.set h1 _,fun c x hc hx=>zC (fun e=>hc (by rw [e];rfl)) hx⟩;cases xs with
  |nil=>exact absurd rfl h3
  |cons x xs=>
   simp only [zEE];rw [zQN tO,h2];simp [lstF,frzQ]
theorem sRetF {F:AF} {H H1 H2:Heap} {fr:Fr} {v0 v:AV} (hk:F.keep=false) (hr:(zBa fr H1 F.results).map tupled=some v0) (hf:zEE H.length v0 H1=some (v,H2)) (hb:v.bel H.length=true) (ho:Old H H2):retP F H fr H1 v H:=by
 refine sRet ?_;unfold zHU;cases hs:zBa fr H1 F.results with
 |none=>rw [hs] at hr;cases hr
 |some vs=>
  rw [hs] at hr;simp only [zQg,zQT] at hr;subst hr;simp only [hk,hf,zQY,zQt];exact ⟨hb,ho.ok,trivial,ho.take.symm⟩
theorem zAq {F:AF} {H H1:Heap} {fr:Fr} {v:AV} (hk:F.keep=false) (hr:(zBa fr H1 F.results).map tupled=some v) (hf:zEE H.length v H1=some (v,H1)) (hb:v.bel H.length=true) (ho:Old H H1):retP F H fr H1 v H:=by
 refine sRet ?_;unfold zHU;cases hs:zBa fr H1 F.results with
 |none=>rw [hs] at hr;cases hr
 |some vs=>
  rw [hs] at hr;simp only [zQg,zQT] at hr;subst hr;simp only [hk,hf,zQY,zQt];exact ⟨hb,ho.ok,trivial,ho.take.symm⟩
theorem zID {F:AF} {H H1:Heap} {fr:Fr} {v v0:AV} (he:v=v0) (hk:F.keep=false) (hr:(zBa fr H1 F.results).map tupled=some v0) (hf:zEE H.length v0 H1=some (v0,H1)) (hb:v0.bel H.length=true) (ho:Old H H1):retP F H fr H1 v H:=by
 subst he;exact zAq hk hr hf hb ho
theorem sRr {F:AF} {H:Heap} {fr:Fr} {v:AV} (hk:F.keep=false:=by rfl) (hr:(zBa fr H F.results).map tupled=some v:=by rfl) (hf:zEE H.length v H=some (v,H):=by rfl) (hb:v.bel H.length=true:=by rfl):retP F H fr H v H:=zAq hk hr hf hb (Old.refl H)
end Go.AM
namespace Go.AM
abbrev zFl:Nat:=3
abbrev zEG:Nat:=4
abbrev zFt:Nat:=5
abbrev zFH:Nat:=6
abbrev zCa:Nat:=7
abbrev zFI:Nat:=8
abbrev zBX:Nat:=9
abbrev zCw:Nat:=10
abbrev zCC:Nat:=11
abbrev zFu:Nat:=12
abbrev zFC:Nat:=13
abbrev zEH:Nat:=15
abbrev zDF:Nat:=18
abbrev zIE:Nat:=14
abbrev zEh:Nat:=20
abbrev zEI:Nat:=21
abbrev zBu:Nat:=22
abbrev zD3:Nat:=23
abbrev zBD:Nat:=24
abbrev zBY:Nat:=25
abbrev zCN:Nat:=26
abbrev zEi:Nat:=27
abbrev zAp:Nat:=17
abbrev zIF:Nat:=28
abbrev zCt:Nat:=29
abbrev zDG:Nat:=30
abbrev zDq:Nat:=31
abbrev zGn:Nat:=16
abbrev zGA:Nat:=32
abbrev zEj:Nat:=19
abbrev zGB:Nat:=33
abbrev zDR:Nat:=35
abbrev zIG:Nat:=34
abbrev zAZ:Nat:=37
abbrev zEa:Nat:=38
abbrev zX:Nat:=39
abbrev zY:Nat:=40
abbrev zc:Nat:=41
abbrev zBd:Nat:=42
abbrev zFb:Nat:=43
abbrev zEk:Nat:=44
abbrev zAK:Nat:=45
abbrev zAj:Nat:=46
abbrev zFJ:Nat:=47
abbrev zAc:Nat:=48
abbrev zAD:Nat:=49
abbrev zAf:Nat:=50
abbrev zCb:Nat:=51
abbrev zFc:Nat:=53
abbrev zAX:Nat:=52
abbrev zBk:Nat:=54
abbrev zJR:Nat:=36
abbrev zu:Nat:=55
abbrev zK1:Nat:=56
abbrev zAL:Nat:=57
abbrev zDK:Nat:=58
abbrev zAg:Nat:=59
abbrev zCD:Nat:=60
abbrev zAy:Nat:=61
abbrev zJS:Nat:=62
abbrev zFd:Nat:=63
abbrev zMt:Nat:=64
abbrev z8:Nat:=65
abbrev zDH:Nat:=66
abbrev zFv:Nat:=68
abbrev zD4:Nat:=67
abbrev zCx:Nat:=69
abbrev zCc:Nat:=70
abbrev zFT:Nat:=71
abbrev zEl:Nat:=72
abbrev zEm:Nat:=73
abbrev zCE:Nat:=75
abbrev zFw:Nat:=74
abbrev zA2:Nat:=76
abbrev zAd:Nat:=77
abbrev zU:Nat:=78
abbrev zi:Nat:=79
abbrev zW:Nat:=80
abbrev zd:Nat:=81
abbrev zCd:Nat:=82
abbrev zAk:Nat:=83
abbrev zj:Nat:=84
abbrev zCe:Nat:=85
abbrev zw:Nat:=86
abbrev ze:Nat:=93
abbrev zCf:Nat:=94
abbrev zr:Nat:=95
abbrev zm:Nat:=96
abbrev zCg:Nat:=97
abbrev zb:Nat:=98
abbrev zAQ:Nat:=99
abbrev zB8:Nat:=100
abbrev zDI:Nat:=101
abbrev zAU:Nat:=102
abbrev zAR:Nat:=103
abbrev zD5:Nat:=104
abbrev zAa:Nat:=105
abbrev zAz:Nat:=106
abbrev zAS:Nat:=107
abbrev zIH:Nat:=110
abbrev zBl:Nat:=109
abbrev za:Nat:=108
abbrev zBJ:Nat:=111
abbrev zCh:Nat:=112
abbrev zCF:Nat:=113
abbrev zCO:Nat:=114
abbrev zAh:Nat:=116
abbrev zBb:Nat:=115
abbrev zEJ:Nat:=117
abbrev zBE:Nat:=131
abbrev zBF:Nat:=132
abbrev zII:Nat:=133
abbrev zD6:Nat:=134
abbrev zAr:Nat:=135
abbrev zA9:Nat:=136
abbrev zA5:Nat:=137
abbrev zA6:Nat:=139
abbrev zq:Nat:=138
abbrev zBO:Nat:=140
abbrev zCP:Nat:=141
abbrev zDL:Nat:=143
abbrev zDS:Nat:=151
abbrev zz:Nat:=150
abbrev zDT:Nat:=152
abbrev zCy:Nat:=153
abbrev zBG:Nat:=154
abbrev zBM:Nat:=155
abbrev zCW:Nat:=156
abbrev zCX:Nat:=157
abbrev zAb:Nat:=158
abbrev zBP:Nat:=160
abbrev zAY:Nat:=161
abbrev zA0:Nat:=162
abbrev zAG:Nat:=163
abbrev zAJ:Nat:=164
abbrev zAs:Nat:=166
abbrev zIJ:Nat:=168
abbrev zI1:Nat:=167
abbrev zBQ:Nat:=169
abbrev zA7:Nat:=171
abbrev zBH:Nat:=170
abbrev zGX:Nat:=173
abbrev zHC:Nat:=172
abbrev zAE:Nat:=180
abbrev zDU:Nat:=181
abbrev zDV:Nat:=182
abbrev zCG:Nat:=183
abbrev zCH:Nat:=184
abbrev zAO:Nat:=185
abbrev z6:Nat:=159
abbrev zB1:Nat:=165
abbrev zBN:Nat:=186
abbrev zCz:Nat:=187
abbrev zBc:Nat:=188
abbrev zx:Nat:=189
abbrev zDW:Nat:=198
abbrev zBK:Nat:=199
abbrev zBW:Nat:=200
abbrev zEn:Nat:=201
abbrev zA8:Nat:=213
abbrev zO:Nat:=46
abbrev zJT:Nat:=103
abbrev zAB:Nat:=137
abbrev zEo:Nat:=127
abbrev zEp:Nat:=1
abbrev zEq:Nat:=2
abbrev zDz:Nat:=5
end Go.AM
