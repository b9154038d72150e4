/- Several texts of mine in one (Am22, Mn). Own work. -/
import Derived.Test.YtmmbcogejaofpaaGreatDoorGAm17Am21
import Derived.IntWalk
set_option linter.all false
namespace Go.AM
theorem zb {x : Int} {r : Nat} {K : Int → Prop} (h : x = r) (hr : r ≤ 9223372036854775807) (k : K (r : Int)) : valP (IntKind.wrap .i64 x) K:=
 sVal (by rw [IntWalk.i64_in x tO,h]) k
def AV.plain : AV → Bool
 | .sl ..=>false
 | .agg _=>false
 | .tup _=>false
 | .iface _ _=>false
 | .mp _=>false
 | _=>true
theorem zAT {p : AV} {H : Heap} {s o : Nat} {ag : Bool} {cs : List AV} {K : AV → Prop} (r : AV) (hp : zl H p = some (cs,o)) (hr : part cs o s ag = some r) (q : K r) : loadN s ag p H K:=by
 rw [loadN_def]; unfold loadNW
 split
 ·simp only [zl,Option.some.injEq,Prod.mk.injEq] at hp
  obtain ⟨rfl,rfl⟩:=hp
  exact zT hr q
 ·exact zT hp (zT hr q)
theorem zCN {x : AV} {H : Heap} {s o : Nat} {ag : Bool} {K : AV → Prop} (r : AV) (hr : part x.cells o s ag = some r) (q : K r) : loadN s ag (.lref x o) H K:=zAT r rfl hr q
theorem ptr_row {b k i o : Nat} {H : Heap} {xs : List AV} {x : AV} (h : H[b]? = some (.row k xs)) (hx : xs[i]? = some x) : zl H (.ref b k i o) = some (x.cells,o):=by
 simp only [zl,h,if_true,hx,Option.map_some]
theorem zQ {b k o : Nat} {H : Heap} {cs : List AV} (h : H[b]? = some (.box cs)) : zl H (.ref b k 0 o) = some (cs,o):=by
 simp only [zl,h,if_true]
theorem zAs {b k i o s : Nat} {ag : Bool} (j : Nat) {H : Heap} {xs : List AV} (x r : AV) {K : AV → Prop} (hi : i = j) (h : H[b]? = some (.row k xs)) (hx : xs[j]? = some x) (hr : part x.cells o s ag = some r) (q : K r) : loadN s ag (.ref b k i o) H K:=
 zAT r (ptr_row h (by rw [hi]; exact hx)) hr q
theorem zC {b k o s : Nat} {ag : Bool} {H : Heap} {cs : List AV} (r : AV) {K : AV → Prop} (h : H[b]? = some (.box cs)) (hr : part cs o s ag = some r) (q : K r) : loadN s ag (.ref b k 0 o) H K:=
 zAT r (zQ h) hr q
theorem zEY {q : Option Bool} {b k off n : Nat} {K : Int → Prop} (h : K (n : Int)) : lenP (.sl q b k off n) K:=by rw [lenP_def]; unfold lenPW; exact h
theorem sLenL {q : Option Bool} {k : Nat} {xs : List AV} {K : Int → Prop} (h : K (xs.length : Int)) : lenP (.lst q k xs) K:=by rw [lenP_def]; unfold lenPW; exact h
theorem sLenV {v : AV} {H : Heap} {k : Nat} {xs : List AV} {K : Int → Prop} (hv : view H k v = some xs) (q : K (xs.length : Int)) : lenP v K:=by
 unfold view at hv
 split at hv
 ·refine sLenL ?_
  split at hv
  ·cases hv; exact q
  ·split at hv
   ·rename_i h
    simp only [List.isEmpty_iff] at h
    cases hv; rw [h]; exact q
   ·cases hv
 ·refine zEY ?_
  split at hv
  ·split at hv
   ·split at hv
    ·rename_i hc
     cases hv
     rw [List.length_take,List.length_drop] at q
     rwa [Nat.min_eq_left tO] at q
    ·cases hv
   ·split at hv
    ·rename_i hc
     cases hv
     rw [List.length_take,List.length_drop] at q
     rwa [Nat.min_eq_left tO] at q
    ·cases hv
   ·cases hv
  ·cases hv
 ·cases hv
theorem sLenN {v : AV} {H : Heap} {k : Nat} {xs : List AV} {K : Int → Prop} (n : Nat) (hv : view H k v = some xs) (hn : xs.length = n) (q : K (n : Int)) : lenP v K:=sLenV hv (by rw [hn]; exact q)
theorem sIdx {q' : Option Bool} {k i : Nat} {xs : List AV} {n : Int} {x : AV} {K : AV → Prop} (hn : n = (i : Int)) (hx : xs[i]? = some x) (q : K (.lref x 0)) : idxN k (.lst q' k xs) n K:=by
 rw [zFd]; unfold idxNW
 exact zFb rfl (sIdxP hn hx q)
theorem zB4 {v : AV} {H : Heap} {k : Nat} {xs : List AV} {n : Int} {K : AV → Prop} (i : Nat) (x : AV) (hv : view H k v = some xs) (hn : n = (i : Int)) (hx : xs[i]? = some x) (q : ∀ p,zl H p = some (x.cells,0) → K p) : idxN k v n K:=by
 have hlt:=(zg hx).1
 unfold view at hv
 split at hv
 ·split at hv
  ·rename_i hk
   cases hv; subst hk
   exact sIdx hn hx (q _ rfl)
  ·split at hv
   ·cases hv; simp at hlt
   ·cases hv
 ·rw [zFd]; unfold idxNW
  simp only
  split at hv
  ·rename_i hk
   subst hk
   split at hv
   ·rename_i hb
    split at hv
    ·rename_i hc
     cases hv
     rw [List.length_take,List.length_drop] at hlt
     rw [List.getElem?_take,if_pos tO,List.getElem?_drop] at hx
     subst hn
     rw [hc.1] at hb
     refine zFb ⟨rfl,by omega,by omega⟩ (q _ (ptr_row hb hx))
    ·cases hv
   ·rename_i hb
    split at hv
    ·rename_i hc
     cases hv
     rw [List.length_take,List.length_drop] at hlt
     rw [List.getElem?_take,if_pos tO,List.getElem?_drop] at hx
     subst hn
     rw [hc.1] at hb
     refine zFb ⟨rfl,by omega,by omega⟩ (q _ ?_)
     show zl H (.ref _ _ _ _) = _
     simp only [zl,hb,if_true,Int.toNat_natCast,hx,Option.map_some]
    ·cases hv
   ·cases hv
  ·cases hv
 ·cases hv
theorem sAt {q' : Option Bool} {b k off len : Nat} {n : Int} {K : AV → Prop} (h : 0 ≤ n ∧ n < (len : Int)) (q : K (.ref b k (off + n.toNat) 0)) : idxN k (.sl q' b k off len) n K:=by
 rw [zFd]; unfold idxNW
 exact zFb ⟨rfl,h⟩ q
def rowF (n : Nat) (f : Nat → AV) : List AV:=(List.range n).map f
def upd {α : Type} (f : Nat → α) (i : Nat) (v : α) : Nat → α:=fun j=>if j = i then v else f j
theorem rowF_len (n : Nat) (f : Nat → AV) : (rowF n f).length = n:=by simp [rowF]
theorem rowF_get {n i : Nat} {f : Nat → AV} (h : i < n) : (rowF n f)[i]? = some (f i):=by simp [rowF,h]
theorem rowF_set {n i : Nat} {f : Nat → AV} {v : AV} : (rowF n f).set i v = rowF n (upd f i v):=by
 apply List.ext_getElem?
 intro j
 simp only [rowF,List.getElem?_set,List.getElem?_map,List.length_map,List.length_range]
 by_cases hj : j < n
 ·rw [List.getElem?_range hj]
  by_cases e : i = j
  ·subst e; simp [hj,upd]
  ·simp [e,upd,Ne.symm e]
 ·rw [List.getElem?_eq_none (l:=List.range n) (by simpa using hj)]
  simp only [Option.map_none,ite_eq_right_iff]
  intro e; subst e; simp [hj]
theorem rowF_congr {n : Nat} {f g : Nat → AV} (h : ∀ i,i < n → f i = g i) : rowF n f = rowF n g:=by
 unfold rowF
 exact List.map_congr_left fun i hi=>h i (List.mem_range.1 hi)
def fB (f : Nat → Bool) : Nat → AV:=fun j=>.bool (f j)
theorem zFE : ∀ u : List UInt8,zC5 (u.map zAS) = some u
 | []=>rfl
 | c :: u=>by simp [zC5,zAS,zFE u]
def Old (H0 H : Heap) : Prop:=H0.length ≤ H.length ∧ ∀ c,c < H0.length → H[c]? = H0[c]?
theorem Old.refl (H : Heap) : Old H H:=⟨Nat.le_refl _,fun _ _=>rfl⟩
theorem Old.push {H0 H : Heap} (h : Old H0 H) (x : List ABlk) : Old H0 (H ++ x):=
 ⟨by rw [List.length_append]; have:=h.1; omega,fun c hc=>by rw [List.getElem?_append_left (Nat.lt_of_lt_of_le hc h.1)]; exact h.2 c hc⟩
theorem Old.set {H0 H : Heap} (h : Old H0 H) {b : Nat} (hb : H0.length ≤ b) (x : ABlk) : Old H0 (H.set b x):=
 ⟨by rw [List.length_set]; exact h.1,fun c hc=>by rw [List.getElem?_set_ne tO]; exact h.2 c hc⟩
theorem Old.trans {H0 H1 H2 : Heap} (h : Old H0 H1) (k : Old H1 H2) : Old H0 H2:=
 ⟨Nat.le_trans h.1 k.1,fun c hc=>(k.2 c (Nat.lt_of_lt_of_le hc h.1)).trans (h.2 c hc)⟩
theorem Old.take {H0 H : Heap} (h : Old H0 H) : H.take H0.length = H0:=by
 apply List.ext_getElem?
 intro i
 rw [List.getElem?_take]
 split
 ·rename_i hi; exact h.2 i hi
 ·rename_i hi; rw [List.getElem?_eq_none tO]
theorem Old.ok {H0 H : Heap} (h : Old H0 H) : OldOK H0 H:=fun b hb=>.inl (h.2 b hb)
theorem zD {H : Heap} {x : ABlk} : (H ++ [x])[H.length]? = some x:=by simp
theorem zA {H : Heap} {x : ABlk} {b : Nat} {y : ABlk} (h : H[b]? = some y) : (H ++ [x])[b]? = some y:=by
 rw [List.getElem?_append_left (zg h).1]; exact h
theorem zE {H : Heap} {b : Nat} {x y : ABlk} (h : H[b]? = some y) : (H.set b x)[b]? = some x:=by
 rw [List.getElem?_set_self (zg h).1]
theorem zB {H : Heap} {b c : Nat} {x y : ABlk} (hn : b ≠ c) (h : H[c]? = some y) : (H.set b x)[c]? = some y:=by
 rw [List.getElem?_set_ne hn]; exact h
abbrev oR (L : List Nat) (ops : List AI) : AC:=.reg L false ops
abbrev oC (t : Nat) (a b : AC) : AC:=.cond (.tmp t) a b
abbrev oA (d : Nat) (z : List AV) : AI:=⟨some d,none,.alloc z,[]⟩
abbrev oE (d : Nat) (o : BinOp) (a : Nat) (n : Int) : AI:=⟨some d,none,.bin o,[.tmp a,.const (.int .i64 n)]⟩
abbrev oX (d : Nat) (o : BinOp) (a b : Nat) : AI:=⟨some d,none,.bin o,[.tmp a,.tmp b]⟩
abbrev oV (d g : Nat) (b : Bool) (a : Nat) : AI:=⟨some d,some (g,b),.mv,[.tmp a]⟩
abbrev oW (d g : Nat) (b : Bool) (k : AK) (a : Nat) : AI:=⟨some d,some (g,b),k,[.tmp a]⟩
abbrev oY (d g : Nat) (b : Bool) (k : AK) (a c : Nat) : AI:=⟨some d,some (g,b),k,[.tmp a,.tmp c]⟩
abbrev oEG (d g : Nat) (b : Bool) (o : BinOp) (a : Nat) (n : Int) : AI:=⟨some d,some (g,b),.bin o,[.tmp a,.const (.int .i64 n)]⟩
abbrev oXG (d g : Nat) (b : Bool) (o : BinOp) (a c : Nat) : AI:=⟨some d,some (g,b),.bin o,[.tmp a,.tmp c]⟩
abbrev oXI (d k a b : Nat) : AI:=⟨some d,none,.idxAddr k,[.tmp a,.tmp b]⟩
abbrev oYI (d g : Nat) (b : Bool) (k a c : Nat) : AI:=⟨some d,some (g,b),.idxAddr k,[.tmp a,.tmp c]⟩
abbrev oLen (d : Nat) (a : Nat) : AI:=⟨some d,none,.len false,[.tmp a]⟩
abbrev oO (d a : Nat) : AI:=⟨some d,none,.load 1 false,[.tmp a]⟩
abbrev oQ (L : List Nat) (ops : List AI) (c : AC) : AC:=.seq (.reg L false ops) c
abbrev oP (d g : Nat) (c : Bool) (b : Nat) : AI:=⟨some d,none,.pick,[.tmp g,.const (.bool c),.tmp b]⟩
abbrev oZ : List AV:=[.int .i64 0,.int .i64 0,.str [],.int .i64 0,.int .i64 0,.bool false,.bool false,.int .i64 0,.int .i64 0,.bool false,.bool false,.lst (some true) 0 []]
abbrev oM (d s : Nat) : AI:=⟨some d,none,.mv,[.tmp s]⟩
abbrev oL (d k : Nat) (b : Bool) (s : Nat) : AI:=⟨some d,none,.load k b,[.tmp s]⟩
abbrev oF (d k s : Nat) : AI:=⟨some d,none,.fieldAddr k,[.tmp s]⟩
abbrev oS (k a b : Nat) : AI:=⟨none,none,.store k,[.tmp a,.tmp b]⟩
abbrev oN (d s : Nat) : AI:=⟨some d,none,.nilchk,[.tmp s]⟩
abbrev oI (d : Nat) (k : AK) (xs : List Opd) : AI:=⟨some d,none,k,xs⟩
abbrev oJ (k : AK) (xs : List Opd) : AI:=⟨none,none,k,xs⟩
abbrev oG (d g : Nat) (b : Bool) (k : AK) (xs : List Opd) : AI:=⟨some d,some (g,b),k,xs⟩
abbrev oT (d : Nat) (k : AK) (s : Nat) : AI:=⟨some d,none,k,[.tmp s]⟩
abbrev oD (d : Nat) (k : AK) (a b : Nat) : AI:=⟨some d,none,k,[.tmp a,.tmp b]⟩
abbrev oK (n : Int) : Opd:=.const (.int .i64 n)
abbrev oB (b : Bool) : Opd:=.const (.bool b)
theorem tA {P : Prop} (h : P:=by first | assumption | exact Nat.le_refl _ | omega | (simp only [List.length_set,List.length_append,List.length_cons,List.length_nil]; omega) | (simp; done) | (simp; omega)) : P:=h
theorem tC {P : Prop} (h : P:=by first | exact Nat.le_refl _ | omega | (simp only [List.length_set,List.length_append,List.length_cons,List.length_nil]; omega) | (simp; done) | (simp; omega)) : P:=h
def AV.blk : AV → Option Nat
 | .sl _ b _ _ _=>some b
 | _=>none
def Owns (H0 H : Heap) (v : AV) (k : Nat) (xs : List AV) : Prop:=
 (v = .lst (some true) 0 [] ∧ xs = []) ∨ ∃ b,v = .sl (some true) b k 0 xs.length ∧ H0.length ≤ b ∧ H[b]? = some (.row k xs) ∧ xs ≠ []
theorem Owns.nil (H0 H : Heap) (k : Nat) : Owns H0 H (.lst (some true) 0 []) k []:=.inl ⟨rfl,rfl⟩
theorem Owns.lt {H0 H : Heap} {v : AV} {k : Nat} {xs : List AV} (h : Owns H0 H v k xs) {b : Nat} (hb : v.blk = some b) : H0.length ≤ b ∧ b < H.length:=by
 rcases h with ⟨rfl,_⟩ | ⟨b',rfl,h1,h2,_⟩
 ·cases hb
 ·simp only [AV.blk,Option.some.injEq] at hb
  subst hb
  exact ⟨h1,(zg h2).1⟩
theorem Owns.keep {H0 H H' : Heap} {v : AV} {k : Nat} {xs : List AV} (h : Owns H0 H v k xs) (hk : ∀ b x,v.blk = some b → H[b]? = some x → H'[b]? = some x) : Owns H0 H' v k xs:=by
 rcases h with h | ⟨b,rfl,h1,h2,h3⟩
 ·exact .inl h
 ·exact .inr ⟨b,rfl,h1,hk b _ rfl h2,h3⟩
theorem Owns.push {H0 H : Heap} {v : AV} {k : Nat} {xs : List AV} (h : Owns H0 H v k xs) (x : ABlk) : Owns H0 (H ++ [x]) v k xs:=
 h.keep fun _ _ _ hx=>zA hx
theorem Owns.view {H0 H : Heap} {v : AV} {k : Nat} {xs : List AV} (h : Owns H0 H v k xs) : view H k v = some xs:=by
 rcases h with ⟨rfl,rfl⟩ | ⟨b,rfl,_,h2,_⟩
 ·simp [Go.AM.view]
 ·simp [Go.AM.view,h2]
theorem zAt {H : Heap} {k : Nat} {q : Option Bool} {xs : List AV} : view (H ++ [.row k xs]) k (.sl q H.length k 0 xs.length) = some xs:=by
 simp [Go.AM.view]
theorem zAv {k : Nat} {vs vs' : List AV} {H : Heap} {K : AV → Heap → Prop} (hf : zGR 0 vs H = some (vs',H)) (he : vs'.all (fun v=>v.elem k) = true)
  (q : K (.sl (some false) H.length k 0 vs'.length) (H ++ [.row k vs'])) : actP (.bslice k) vs H K:=
 sAct (by simp only [astep,hf]; rw [if_pos he]) q
theorem frzL_cons {n : Nat} {a a' : AV} {r r' : List AV} {H H1 H2 : Heap} (h1 : zB0 n a H = some (a',H1)) (h2 : zGR n r H1 = some (r',H2)) : zGR n (a :: r) H = some (a' :: r',H2):=by
 simp only [zGR,h1,h2]
theorem zG9 {k : Nat} {vs : List AV} (vs' : List AV) {H : Heap} (H' : Heap) {K : AV → Heap → Prop} (hf : zGR 0 vs H = some (vs',H')) (he : vs'.all (fun v=>v.elem k) = true)
  (q : K (.sl (some false) H'.length k 0 vs'.length) (H' ++ [.row k vs'])) : actP (.bslice k) vs H K:=
 sAct (by simp only [astep,hf]; rw [if_pos he]) q
theorem zB5 {H0 H : Heap} {v y : AV} {k bytes : Nat} {xs ys : List AV} {K : AV → Heap → Prop} (ho : Owns H0 H v k xs) (hH : Old H0 H) (hy : view H k y = some ys) (hb : bytes ≤ 1024) (hl : xs.length + ys.length ≤ 137438953472) (h0 : ys ≠ [])
  (q : ∀ v' H',Owns H0 H' v' k (xs ++ ys) → Old H0 H' → v'.blk = some H.length → (∀ c x,v.blk ≠ some c → H[c]? = some x → H'[c]? = some x) → K v' H') : actP (.append k bytes) [v,y] H K:=by
 have hm : (xs.length + ys.length) * bytes ≤ 137438953472 * 1024:=Nat.mul_le_mul hl hb
 rcases ho with ⟨rfl,rfl⟩ | ⟨b,rfl,h1,h2,_⟩
 ·simp only [List.length_nil,Nat.zero_add] at hl hm
  refine sAct (v:=.sl (some true) H.length k 0 ys.length) (H':=H ++ [.row k ys]) ?_ ?_
  ·simp only [astep,hy]
   rw [if_pos ⟨by omega,by omega⟩]
  ·exact q _ _ (.inr ⟨_,rfl,hH.1,zD,h0⟩) (hH.push _) rfl fun _ _ _ hx=>zA hx
 ·refine sAct (v:=.sl (some true) H.length k 0 (xs.length + ys.length)) (H':=H.set b .dead ++ [.row k (xs ++ ys)]) ?_ ?_
  ·simp only [astep,hy,h2]
   rw [if_pos ⟨trivial,trivial,by omega,by omega,by omega⟩]
   simp
  ·refine q _ _ (.inr ⟨_,by rw [List.length_append],hH.1, ?_,by simp [h0]⟩) ((hH.set h1 _).push _) rfl fun c x hc hx=>?_
   ·have : (H.set b .dead).length = H.length:=List.length_set
    rw [← this]; exact zD
   ·exact zA (zB (fun e=>hc (by rw [e]; rfl)) hx)
theorem sBytesStr {H0 H : Heap} {v : AV} {u : List UInt8} {K : AV → Heap → Prop} (ho : Owns H0 H v 1 (u.map zAS)) (q : K (.str u) H) : actP .bytesToStr [v] H K:=
 sAct (by simp only [astep,ho.view,zFE,Option.map_some]) q
def zCJ (x : AV) (k : Nat) (xs : List AV) : Prop:=∃ q k',x = .lst q k' xs ∧ (k' = k ∨ xs = [])
theorem zCJ.view {x : AV} {k : Nat} {xs : List AV} (h : zCJ x k xs) (H : Heap) : view H k x = some xs:=by
 obtain ⟨q,k',rfl,rfl | rfl⟩:=h
 ·simp [Go.AM.view]
 ·simp [Go.AM.view]
theorem zCJ.cells {x : AV} {k : Nat} {xs : List AV} (h : zCJ x k xs) : x.cells = [x]:=by obtain ⟨q,k',rfl,_⟩:=h; rfl
theorem zCv {H H' : Heap} (hO : Old H H') {k : Nat} {v : AV} {xs : List AV} (h : view H k v = some xs) : view H' k v = some xs:=by
 unfold view at h ⊢
 split at h
 ·exact h
 ·split at h
  ·rename_i hk
   rw [if_pos hk]
   have : ∀ x,H[‹Nat›]? = some x → True:=fun _ _=>trivial
   split at h
   ·rename_i hb
    rw [hO.2 _ (zg hb).1,hb]; exact h
   ·rename_i hb
    rw [hO.2 _ (zg hb).1,hb]; exact h
   ·cases h
  ·cases h
 ·cases h
theorem view_one {H : Heap} {k : Nat} {v : AV} {xs : List AV} (h : view H k v = some xs) : v.cells = [v] ∧ v.one = true:=by
 unfold view at h
 split at h
 ·exact ⟨rfl,rfl⟩
 ·exact ⟨rfl,rfl⟩
 ·cases h
theorem sIdxO {v : AV} {k : Nat} {xs : List AV} {n : Int} {K : AV → Prop} (i : Nat) (x : AV) (hv : zCJ v k xs) (hn : n = (i : Int)) (hx : xs[i]? = some x) (q : K (.lref x 0)) : idxN k v n K:=by
 obtain ⟨qq,k',rfl,rfl | rfl⟩:=hv
 ·exact sIdx hn hx q
 ·simp at hx
theorem sLenO {v : AV} {k : Nat} {xs : List AV} {K : Int → Prop} (n : Nat) (hv : zCJ v k xs) (hn : xs.length = n) (q : K (n : Int)) : lenP v K:=sLenN n (hv.view []) hn q
theorem zDm {x : AV} {H : Heap} {K : AV → Heap → Prop} (h : x.cells.all AV.one = true) (q : K (.ref H.length 0 0 0) (H ++ [.box x.cells])) : actP .box [x] H K:=
 sAct (by simp only [astep]; rw [if_pos h]) q
theorem sStoreBox {b k s o : Nat} {v : AV} {cs : List AV} {H : Heap} {K : AV → Heap → Prop} (h : H[b]? = some (.box cs)) (hl : v.cells.length = s) (h1 : v.cells.all AV.one = true) (ho : o + s ≤ cs.length)
  (q : K .undef (H.set b (.box (splice cs o v.cells)))) : actP (.store s) [.ref b k 0 o,v] H K:=by
 refine sAct ?_ q
 simp only [astep]
 rw [if_pos ⟨hl,h1⟩,h]
 simp only
 rw [if_pos ⟨trivial,ho⟩]
theorem Owns.set {H0 H : Heap} {v : AV} {k : Nat} {xs : List AV} (h : Owns H0 H v k xs) {c : Nat} (hc : v.blk ≠ some c) (x : ABlk) : Owns H0 (H.set c x) v k xs:=
 h.keep fun b _ hb hx=>zB (fun e=>hc (by rw [e]; exact hb)) hx
theorem Owns.pushSet {H0 H : Heap} {v : AV} {k : Nat} {xs : List AV} (h : Owns H0 H v k xs) (x y : ABlk) : Owns H0 ((H ++ [x]).set H.length y) v k xs:=
 (h.push x).set (fun e=>by have:=(h.lt e).2; omega) y
theorem Old.pushSet {H0 H : Heap} (h : Old H0 H) (x y : ABlk) : Old H0 ((H ++ [x]).set H.length y):=(h.push [x]).set h.1 y
def zFh (k : Nat) : List AV → AV
 | []=>.lst (some true) 0 []
 | x :: xs=>.lst (some false) k (x :: xs)
theorem lstF_of (k : Nat) (xs : List AV) : zCJ (zFh k xs) k xs:=by
 cases xs
 ·exact ⟨_,_,rfl,.inr rfl⟩
 ·exact ⟨_,_,rfl,.inl rfl⟩
theorem lstF_bel (n k : Nat) (xs : List AV) : (zFh k xs).bel n = true:=by cases xs <;> rfl
theorem Owns.frz {H0 H : Heap} {v : AV} {k : Nat} {xs : List AV} (h : Owns H0 H v k xs) (hO : Old H0 H) : ∃ H',zB0 H0.length v H = some (zFh k xs,H') ∧ Old H0 H' ∧ ∀ c x,v.blk ≠ some c → H[c]? = some x → H'[c]? = some x:=by
 rcases h with ⟨rfl,rfl⟩ | ⟨b,rfl,h1,h2,h3⟩
 ·exact ⟨H,rfl,hO,fun _ _ _ h=>h⟩
 ·refine ⟨H.set b (.frz k xs), ?_,hO.set h1 _,fun c x hc hx=>zB (fun e=>hc (by rw [e]; rfl)) hx⟩
  cases xs with
  | nil=>exact absurd rfl h3
  | cons x xs=>
   simp only [zB0]
   rw [if_neg tO,h2]
   simp [zFh,frzQ]
theorem sRetF {F : AF} {H H1 H2 : Heap} {fr : Fr} {v0 v : AV} (hk : F.keep = false) (hr : (zBJ fr H1 F.results).map tupled = some v0) (hf : zB0 H.length v0 H1 = some (v,H2)) (hb : v.bel H.length = true) (ho : Old H H2) : retP F H fr H1 v H:=by
 refine sRet ?_
 unfold zEQ
 cases hs : zBJ fr H1 F.results with
 | none=>rw [hs] at hr; cases hr
 | some vs=>
  rw [hs] at hr
  simp only [Option.map_some,Option.some.injEq] at hr
  subst hr
  simp only [hk,hf,Bool.false_eq_true,if_false]
  exact ⟨hb,ho.ok,trivial,ho.take.symm⟩
theorem zBX {F : AF} {H H1 : Heap} {fr : Fr} {v : AV} (hk : F.keep = false) (hr : (zBJ fr H1 F.results).map tupled = some v) (hf : zB0 H.length v H1 = some (v,H1)) (hb : v.bel H.length = true) (ho : Old H H1) : retP F H fr H1 v H:=by
 refine sRet ?_
 unfold zEQ
 cases hs : zBJ fr H1 F.results with
 | none=>rw [hs] at hr; cases hr
 | some vs=>
  rw [hs] at hr
  simp only [Option.map_some,Option.some.injEq] at hr
  subst hr
  simp only [hk,hf,Bool.false_eq_true,if_false]
  exact ⟨hb,ho.ok,trivial,ho.take.symm⟩
theorem sRetE {F : AF} {H H1 : Heap} {fr : Fr} {v v0 : AV} (he : v = v0) (hk : F.keep = false) (hr : (zBJ fr H1 F.results).map tupled = some v0) (hf : zB0 H.length v0 H1 = some (v0,H1)) (hb : v0.bel H.length = true) (ho : Old H H1) : retP F H fr H1 v H:=by
 subst he; exact zBX hk hr hf hb ho
theorem sRr {F : AF} {H : Heap} {fr : Fr} {v : AV} (hk : F.keep = false:=by rfl) (hr : (zBJ fr H F.results).map tupled = some v:=by rfl) (hf : zB0 H.length v H = some (v,H):=by rfl) (hb : v.bel H.length = true:=by rfl) : retP F H fr H v H:=zBX hk hr hf hb (Old.refl H)
end Go.AM
namespace Go.AM
abbrev zBo : Nat:=7
abbrev zCC : Nat:=6
abbrev zCw : Nat:=5
abbrev zAl : Nat:=12
abbrev zBd : Nat:=13
abbrev zCS : Nat:=14
abbrev zCT : Nat:=15
abbrev zDn : Nat:=16
abbrev zBY : Nat:=17
abbrev zCD : Nat:=18
abbrev zDo : Nat:=19
abbrev zAO : Nat:=20
abbrev zAA : Nat:=23
abbrev zBp : Nat:=24
abbrev zAu : Nat:=25
abbrev zBL : Nat:=26
abbrev zAm : Nat:=28
abbrev zt : Nat:=27
abbrev zR : Nat:=29
abbrev zFi : Nat:=30
abbrev zAB : Nat:=31
abbrev zAP : Nat:=32
abbrev zAj : Nat:=44
abbrev zCU : Nat:=43
abbrev zq : Nat:=45
abbrev zm : Nat:=46
abbrev zK : Nat:=47
abbrev zN : Nat:=48
abbrev zL : Nat:=49
abbrev zBA : Nat:=67
abbrev zi : Nat:=68
abbrev zh : Nat:=69
abbrev zBC : Nat:=70
abbrev zz : Nat:=85
abbrev zS : Nat:=84
abbrev zAI : Nat:=86
abbrev zk : Nat:=93
abbrev zAJ : Nat:=95
abbrev zj : Nat:=96
abbrev zr : Nat:=97
abbrev zW : Nat:=98
abbrev zAh : Nat:=99
abbrev zd : Nat:=100
abbrev zw : Nat:=102
abbrev zX : Nat:=94
abbrev zBk : Nat:=103
abbrev zBq : Nat:=104
abbrev zAn : Nat:=105
abbrev zAd : Nat:=101
abbrev zAH : Nat:=106
abbrev zA7 : Nat:=107
abbrev zAU : Nat:=108
abbrev zDp : Nat:=110
abbrev zD8 : Nat:=109
abbrev zAK : Nat:=111
abbrev z1 : Nat:=113
abbrev zAC : Nat:=112
abbrev zCk : Nat:=115
abbrev zDA : Nat:=114
abbrev zAG : Nat:=116
abbrev zAM : Nat:=117
abbrev zBr : Nat:=118
abbrev zU : Nat:=119
abbrev z6 : Nat:=122
abbrev zJ : Nat:=50
abbrev zBs : Nat:=86
abbrev zBt : Nat:=1
abbrev zDq : Nat:=4
end Go.AM
