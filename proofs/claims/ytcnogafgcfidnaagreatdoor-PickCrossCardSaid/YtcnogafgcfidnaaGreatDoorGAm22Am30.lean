/- Several texts of mine in one (Am22, Am25, Am27, Am29, Am30). Own work. -/
import Derived.Test.YtcnogafgcfidnaaGreatDoorGAm17Am21
import Derived.IntWalk
set_option linter.all false
namespace Go.AM
theorem sW64 {x : Int} {K : Int → Prop} (h : -9223372036854775808 ≤ x ∧ x ≤ 9223372036854775807) (k : K x) : valP (IntKind.wrap .i64 x) K:=
 zM4 (IntWalk.i64_in x h) k
theorem zY {x : Int} {r : Nat} {K : Int → Prop} (h : x = r) (hr : r ≤ 9223372036854775807) (k : K (r : Int)) : valP (IntKind.wrap .i64 x) K:=
 zM4 (by rw [IntWalk.i64_in x tO,h]) k
def AV.plain : AV → Bool
 | .sl ..=>false
 | .agg _=>false
 | .tup _=>false
 | .iface _ _=>false
 | .mp _=>false
 | _=>true
theorem zNJ {n : Nat} {v : AV} {H : Heap} (h : v.plain = true) : zCl n v H = some (v,H):=by
 cases v <;> first | rfl | (simp [AV.plain] at h)
theorem zAB {p : AV} {H : Heap} {s o : Nat} {ag : Bool} {cs : List AV} {K : AV → Prop} (r : AV) (hp : zl H p = some (cs,o)) (hr : part cs o s ag = some r) (q : K r) : loadN s ag p H K:=by
 rw [zJM]; unfold zK0
 split
 ·simp only [zl,Option.some.injEq,Prod.mk.injEq] at hp
  obtain ⟨rfl,rfl⟩:=hp
  exact zA9 hr q
 ·exact zA9 hp (zA9 hr q)
theorem zh {x : AV} {H : Heap} {s o : Nat} {ag : Bool} {K : AV → Prop} (r : AV) (hr : part x.cells o s ag = some r) (q : K r) : loadN s ag (.lref x o) H K:=zAB r rfl hr q
theorem zNK {b k i o : Nat} {H : Heap} {xs : List AV} {x : AV} (h : H[b]? = some (.row k xs)) (hx : xs[i]? = some x) : zl H (.ref b k i o) = some (x.cells,o):=by
 simp only [zl,h,if_true,hx,Option.map_some]
theorem zn {b k o : Nat} {H : Heap} {cs : List AV} (h : H[b]? = some (.box cs)) : zl H (.ref b k 0 o) = some (cs,o):=by
 simp only [zl,h,if_true]
theorem zAA {b k i o s : Nat} {ag : Bool} (j : Nat) {H : Heap} {xs : List AV} (x r : AV) {K : AV → Prop} (hi : i = j) (h : H[b]? = some (.row k xs)) (hx : xs[j]? = some x) (hr : part x.cells o s ag = some r) (q : K r) : loadN s ag (.ref b k i o) H K:=
 zAB r (zNK h (by rw [hi]; exact hx)) hr q
theorem zD {b k o s : Nat} {ag : Bool} {H : Heap} {cs : List AV} (r : AV) {K : AV → Prop} (h : H[b]? = some (.box cs)) (hr : part cs o s ag = some r) (q : K r) : loadN s ag (.ref b k 0 o) H K:=
 zAB r (zn h) hr q
theorem zCD {q : Option Bool} {b k off n : Nat} {K : Int → Prop} (h : K (n : Int)) : lenP (.sl q b k off n) K:=by rw [zIO]; unfold zM5; exact h
theorem sLenL {q : Option Bool} {k : Nat} {xs : List AV} {K : Int → Prop} (h : K (xs.length : Int)) : lenP (.lst q k xs) K:=by rw [zIO]; unfold zM5; exact h
theorem sLenV {v : AV} {H : Heap} {k : Nat} {xs : List AV} {K : Int → Prop} (hv : view H k v = some xs) (q : K (xs.length : Int)) : lenP v K:=by
 unfold view at hv
 split at hv
 ·refine sLenL ?_
  split at hv
  ·cases hv; exact q
  ·split at hv
   ·rename_i h
    simp only [List.isEmpty_iff] at h
    cases hv; rw [h]; exact q
   ·cases hv
 ·refine zCD ?_
  split at hv
  ·split at hv
   ·split at hv
    ·rename_i hc
     cases hv
     rw [List.length_take,List.length_drop] at q
     rwa [Nat.min_eq_left tO] at q
    ·cases hv
   ·split at hv
    ·rename_i hc
     cases hv
     rw [List.length_take,List.length_drop] at q
     rwa [Nat.min_eq_left tO] at q
    ·cases hv
   ·cases hv
  ·cases hv
 ·cases hv
theorem zBN {v : AV} {H : Heap} {k : Nat} {xs : List AV} {K : Int → Prop} (n : Nat) (hv : view H k v = some xs) (hn : xs.length = n) (q : K (n : Int)) : lenP v K:=sLenV hv (by rw [hn]; exact q)
theorem sIdx {q' : Option Bool} {k i : Nat} {xs : List AV} {n : Int} {x : AV} {K : AV → Prop} (hn : n = (i : Int)) (hx : xs[i]? = some x) (q : K (.lref x 0)) : idxN k (.lst q' k xs) n K:=by
 rw [zF7]; unfold zLp
 exact zKF rfl (sIdxP hn hx q)
theorem zBZ {v : AV} {H : Heap} {k : Nat} {xs : List AV} {n : Int} {K : AV → Prop} (i : Nat) (x : AV) (hv : view H k v = some xs) (hn : n = (i : Int)) (hx : xs[i]? = some x) (q : ∀ p,zl H p = some (x.cells,0) → K p) : idxN k v n K:=by
 have hlt:=(zg hx).1
 unfold view at hv
 split at hv
 ·split at hv
  ·rename_i hk
   cases hv; subst hk
   exact sIdx hn hx (q _ rfl)
  ·split at hv
   ·cases hv; simp at hlt
   ·cases hv
 ·rw [zF7]; unfold zLp
  simp only
  split at hv
  ·rename_i hk
   subst hk
   split at hv
   ·rename_i hb
    split at hv
    ·rename_i hc
     cases hv
     rw [List.length_take,List.length_drop] at hlt
     rw [List.getElem?_take,if_pos tO,List.getElem?_drop] at hx
     subst hn
     rw [hc.1] at hb
     refine zKF ⟨rfl,by omega,by omega⟩ (q _ (zNK hb hx))
    ·cases hv
   ·rename_i hb
    split at hv
    ·rename_i hc
     cases hv
     rw [List.length_take,List.length_drop] at hlt
     rw [List.getElem?_take,if_pos tO,List.getElem?_drop] at hx
     subst hn
     rw [hc.1] at hb
     refine zKF ⟨rfl,by omega,by omega⟩ (q _ ?_)
     show zl H (.ref _ _ _ _) = _
     simp only [zl,hb,if_true,Int.toNat_natCast,hx,Option.map_some]
    ·cases hv
   ·cases hv
  ·cases hv
 ·cases hv
theorem sAt {q' : Option Bool} {b k off len : Nat} {n : Int} {K : AV → Prop} (h : 0 ≤ n ∧ n < (len : Int)) (q : K (.ref b k (off + n.toNat) 0)) : idxN k (.sl q' b k off len) n K:=by
 rw [zF7]; unfold zLp
 exact zKF ⟨rfl,h⟩ q
theorem zJV {b k i : Nat} (j : Nat) (v : AV) {x : AV} {H : Heap} {xs : List AV} {K : AV → Heap → Prop} (hi : i = j) (h : H[b]? = some (.row k xs)) (hx : xs[j]? = some x) (hp : v.plain = true) (h0 : 0 < k) (he : v.elem k = true) (hn : ∀ cs,x ≠ .agg cs)
  (q : K .undef (H.set b (.row k (xs.set j v)))) : actP (.store k) [.ref b k i 0,v] H K:=by
 subst hi
 refine zLo ?_ q
 have hc : v.cells.length = k ∧ v.cells.all AV.one = true:=by
  simp only [AV.elem,Bool.and_eq_true,beq_iff_eq] at he
  exact ⟨he.1.1,he.2⟩
 have hu : zDF x 0 v = v:=by cases x <;> first | rfl | exact absurd rfl (hn _)
 simp only [astep,if_pos hc,h,zNJ hp,hx]
 rw [if_pos ⟨trivial,by omega,h0,he⟩,hu]
theorem zQx {k bytes : Nat} {z : AV} {l c : Int} {n : Nat} {k1 k2 : IntKind} {H : Heap} {K : AV → Heap → Prop} (hl : l = n) (hlc : l ≤ c) (hb : (bytes : Int) * c ≤ 281474976710656 ∧ c ≤ 9223372036854775807) (hz : z.elem k = true)
  (q : K (.sl (some false) H.length k 0 n) (H ++ [.row k (List.replicate n z)])) : actP (.make k bytes z) [.int k1 l,.int k2 c] H K:=by
 refine zLo ?_ q
 subst hl
 simp only [astep]
 rw [if_pos ⟨by omega,hlc,hb.1,hb.2,hz⟩]
 rfl
def rowF (n : Nat) (f : Nat → AV) : List AV:=(List.range n).map f
theorem zGf {α : Type} {l : List α} {i : Nat} {x : α} (h : l[i]? = some x) : l.drop i = x :: l.drop (i + 1):=by
 obtain ⟨hi,he⟩:=zg h
 rw [List.drop_eq_getElem_cons hi,he]
def Old (H0 H : Heap) : Prop:=H0.length ≤ H.length ∧ ∀ c,c < H0.length → H[c]? = H0[c]?
theorem Old.refl (H : Heap) : Old H H:=⟨Nat.le_refl _,fun _ _=>rfl⟩
theorem Old.push {H0 H : Heap} (h : Old H0 H) (x : List ABlk) : Old H0 (H ++ x):=
 ⟨by rw [List.length_append]; have:=h.1; omega,fun c hc=>by rw [List.getElem?_append_left (Nat.lt_of_lt_of_le hc h.1)]; exact h.2 c hc⟩
theorem Old.set {H0 H : Heap} (h : Old H0 H) {b : Nat} (hb : H0.length ≤ b) (x : ABlk) : Old H0 (H.set b x):=
 ⟨by rw [List.length_set]; exact h.1,fun c hc=>by rw [List.getElem?_set_ne tO]; exact h.2 c hc⟩
theorem Old.trans {H0 H1 H2 : Heap} (h : Old H0 H1) (k : Old H1 H2) : Old H0 H2:=
 ⟨Nat.le_trans h.1 k.1,fun c hc=>(k.2 c (Nat.lt_of_lt_of_le hc h.1)).trans (h.2 c hc)⟩
theorem Old.take {H0 H : Heap} (h : Old H0 H) : H.take H0.length = H0:=by
 apply List.ext_getElem?
 intro i
 rw [List.getElem?_take]
 split
 ·rename_i hi; exact h.2 i hi
 ·rename_i hi; rw [List.getElem?_eq_none tO]
theorem Old.ok {H0 H : Heap} (h : Old H0 H) : zJ1 H0 H:=fun b hb=>.inl (h.2 b hb)
theorem zA {H : Heap} {x : ABlk} : (H ++ [x])[H.length]? = some x:=by simp
theorem zF {H : Heap} {x : ABlk} {b : Nat} {y : ABlk} (h : H[b]? = some y) : (H ++ [x])[b]? = some y:=by
 rw [List.getElem?_append_left (zg h).1]; exact h
theorem zN {H : Heap} {b : Nat} {x y : ABlk} (h : H[b]? = some y) : (H.set b x)[b]? = some x:=by
 rw [List.getElem?_set_self (zg h).1]
theorem zG {H : Heap} {b c : Nat} {x y : ABlk} (hn : b ≠ c) (h : H[c]? = some y) : (H.set b x)[c]? = some y:=by
 rw [List.getElem?_set_ne hn]; exact h
abbrev oR (L : List Nat) (ops : List AI) : AC:=.reg L false ops
abbrev oC (t : Nat) (a b : AC) : AC:=.cond (.tmp t) a b
abbrev oA (d : Nat) (z : List AV) : AI:=⟨some d,none,.alloc z,[]⟩
abbrev oE (d : Nat) (o : BinOp) (a : Nat) (n : Int) : AI:=⟨some d,none,.bin o,[.tmp a,.const (.int .i64 n)]⟩
abbrev oX (d : Nat) (o : BinOp) (a b : Nat) : AI:=⟨some d,none,.bin o,[.tmp a,.tmp b]⟩
abbrev oV (d g : Nat) (b : Bool) (a : Nat) : AI:=⟨some d,some (g,b),.mv,[.tmp a]⟩
abbrev oW (d g : Nat) (b : Bool) (k : AK) (a : Nat) : AI:=⟨some d,some (g,b),k,[.tmp a]⟩
abbrev oY (d g : Nat) (b : Bool) (k : AK) (a c : Nat) : AI:=⟨some d,some (g,b),k,[.tmp a,.tmp c]⟩
abbrev oEG (d g : Nat) (b : Bool) (o : BinOp) (a : Nat) (n : Int) : AI:=⟨some d,some (g,b),.bin o,[.tmp a,.const (.int .i64 n)]⟩
abbrev oXG (d g : Nat) (b : Bool) (o : BinOp) (a c : Nat) : AI:=⟨some d,some (g,b),.bin o,[.tmp a,.tmp c]⟩
abbrev oXI (d k a b : Nat) : AI:=⟨some d,none,.idxAddr k,[.tmp a,.tmp b]⟩
abbrev oYI (d g : Nat) (b : Bool) (k a c : Nat) : AI:=⟨some d,some (g,b),.idxAddr k,[.tmp a,.tmp c]⟩
abbrev oLen (d : Nat) (a : Nat) : AI:=⟨some d,none,.len false,[.tmp a]⟩
abbrev oO (d a : Nat) : AI:=⟨some d,none,.load 1 false,[.tmp a]⟩
abbrev oQ (L : List Nat) (ops : List AI) (c : AC) : AC:=.seq (.reg L false ops) c
abbrev oP (d g : Nat) (c : Bool) (b : Nat) : AI:=⟨some d,none,.pick,[.tmp g,.const (.bool c),.tmp b]⟩
abbrev oZ : List AV:=[.int .i64 0,.int .i64 0,.str [],.int .i64 0,.int .i64 0,.bool false,.bool false,.int .i64 0,.int .i64 0,.bool false,.bool false,.lst (some true) 0 []]
abbrev oM (d s : Nat) : AI:=⟨some d,none,.mv,[.tmp s]⟩
abbrev oL (d k : Nat) (b : Bool) (s : Nat) : AI:=⟨some d,none,.load k b,[.tmp s]⟩
abbrev oF (d k s : Nat) : AI:=⟨some d,none,.fieldAddr k,[.tmp s]⟩
abbrev oS (k a b : Nat) : AI:=⟨none,none,.store k,[.tmp a,.tmp b]⟩
abbrev oN (d s : Nat) : AI:=⟨some d,none,.nilchk,[.tmp s]⟩
abbrev oI (d : Nat) (k : AK) (xs : List Opd) : AI:=⟨some d,none,k,xs⟩
abbrev oG (d g : Nat) (b : Bool) (k : AK) (xs : List Opd) : AI:=⟨some d,some (g,b),k,xs⟩
abbrev oT (d : Nat) (k : AK) (s : Nat) : AI:=⟨some d,none,k,[.tmp s]⟩
abbrev oD (d : Nat) (k : AK) (a b : Nat) : AI:=⟨some d,none,k,[.tmp a,.tmp b]⟩
abbrev oK (n : Int) : Opd:=.const (.int .i64 n)
abbrev oB (b : Bool) : Opd:=.const (.bool b)
theorem tA {P : Prop} (h : P:=by first | assumption | exact Nat.le_refl _ | omega | (simp only [List.length_set,List.length_append,List.length_cons,List.length_nil]; omega) | (simp; done) | (simp; omega)) : P:=h
theorem tC {P : Prop} (h : P:=by first | exact Nat.le_refl _ | omega | (simp only [List.length_set,List.length_append,List.length_cons,List.length_nil]; omega) | (simp; done) | (simp; omega)) : P:=h
def AV.blk : AV → Option Nat
 | .sl _ b _ _ _=>some b
 | _=>none
def Owns (H0 H : Heap) (v : AV) (k : Nat) (xs : List AV) : Prop:=
 (v = .lst (some true) 0 [] ∧ xs = []) ∨ ∃ b,v = .sl (some true) b k 0 xs.length ∧ H0.length ≤ b ∧ H[b]? = some (.row k xs) ∧ xs ≠ []
theorem Owns.nil (H0 H : Heap) (k : Nat) : Owns H0 H (.lst (some true) 0 []) k []:=.inl ⟨rfl,rfl⟩
theorem Owns.lt {H0 H : Heap} {v : AV} {k : Nat} {xs : List AV} (h : Owns H0 H v k xs) {b : Nat} (hb : v.blk = some b) : H0.length ≤ b ∧ b < H.length:=by
 rcases h with ⟨rfl,_⟩ | ⟨b',rfl,h1,h2,_⟩
 ·cases hb
 ·simp only [AV.blk,Option.some.injEq] at hb
  subst hb
  exact ⟨h1,(zg h2).1⟩
theorem Owns.keep {H0 H H' : Heap} {v : AV} {k : Nat} {xs : List AV} (h : Owns H0 H v k xs) (hk : ∀ b x,v.blk = some b → H[b]? = some x → H'[b]? = some x) : Owns H0 H' v k xs:=by
 rcases h with h | ⟨b,rfl,h1,h2,h3⟩
 ·exact .inl h
 ·exact .inr ⟨b,rfl,h1,hk b _ rfl h2,h3⟩
theorem Owns.push {H0 H : Heap} {v : AV} {k : Nat} {xs : List AV} (h : Owns H0 H v k xs) (x : ABlk) : Owns H0 (H ++ [x]) v k xs:=
 h.keep fun _ _ _ hx=>zF hx
theorem Owns.view {H0 H : Heap} {v : AV} {k : Nat} {xs : List AV} (h : Owns H0 H v k xs) : view H k v = some xs:=by
 rcases h with ⟨rfl,rfl⟩ | ⟨b,rfl,_,h2,_⟩
 ·simp [Go.AM.view]
 ·simp [Go.AM.view,h2]
theorem zAn {H : Heap} {k : Nat} {q : Option Bool} {xs : List AV} : view (H ++ [.row k xs]) k (.sl q H.length k 0 xs.length) = some xs:=by
 simp [Go.AM.view]
theorem zAu {k : Nat} {vs vs' : List AV} {H : Heap} {K : AV → Heap → Prop} (hf : zMX 0 vs H = some (vs',H)) (he : vs'.all (fun v=>v.elem k) = true)
  (q : K (.sl (some false) H.length k 0 vs'.length) (H ++ [.row k vs'])) : actP (.bslice k) vs H K:=
 zLo (by simp only [astep,hf]; rw [if_pos he]) q
theorem zOl {k : Nat} {vs : List AV} (vs' : List AV) {H : Heap} (H' : Heap) {K : AV → Heap → Prop} (hf : zMX 0 vs H = some (vs',H')) (he : vs'.all (fun v=>v.elem k) = true)
  (q : K (.sl (some false) H'.length k 0 vs'.length) (H' ++ [.row k vs'])) : actP (.bslice k) vs H K:=
 zLo (by simp only [astep,hf]; rw [if_pos he]) q
theorem zCp {H0 H : Heap} {v y : AV} {k bytes : Nat} {xs ys : List AV} {K : AV → Heap → Prop} (ho : Owns H0 H v k xs) (hH : Old H0 H) (hy : view H k y = some ys) (hb : bytes ≤ 1024) (hl : xs.length + ys.length ≤ 137438953472) (h0 : ys ≠ [])
  (q : ∀ v' H',Owns H0 H' v' k (xs ++ ys) → Old H0 H' → v'.blk = some H.length → (∀ c x,v.blk ≠ some c → H[c]? = some x → H'[c]? = some x) → K v' H') : actP (.append k bytes) [v,y] H K:=by
 have hm : (xs.length + ys.length) * bytes ≤ 137438953472 * 1024:=Nat.mul_le_mul hl hb
 rcases ho with ⟨rfl,rfl⟩ | ⟨b,rfl,h1,h2,_⟩
 ·simp only [List.length_nil,Nat.zero_add] at hl hm
  refine zLo (v:=.sl (some true) H.length k 0 ys.length) (H':=H ++ [.row k ys]) ?_ ?_
  ·simp only [astep,hy]
   rw [if_pos ⟨by omega,by omega⟩]
  ·exact q _ _ (.inr ⟨_,rfl,hH.1,zA,h0⟩) (hH.push _) rfl fun _ _ _ hx=>zF hx
 ·refine zLo (v:=.sl (some true) H.length k 0 (xs.length + ys.length)) (H':=H.set b .dead ++ [.row k (xs ++ ys)]) ?_ ?_
  ·simp only [astep,hy,h2]
   rw [if_pos ⟨trivial,trivial,by omega,by omega,by omega⟩]
   simp
  ·refine q _ _ (.inr ⟨_,by rw [List.length_append],hH.1, ?_,by simp [h0]⟩) ((hH.set h1 _).push _) rfl fun c x hc hx=>?_
   ·have : (H.set b .dead).length = H.length:=List.length_set
    rw [← this]; exact zA
   ·exact zF (zG (fun e=>hc (by rw [e]; rfl)) hx)
def zAv (x : AV) (k : Nat) (xs : List AV) : Prop:=∃ q k',x = .lst q k' xs ∧ (k' = k ∨ xs = [])
theorem zAv.view {x : AV} {k : Nat} {xs : List AV} (h : zAv x k xs) (H : Heap) : view H k x = some xs:=by
 obtain ⟨q,k',rfl,rfl | rfl⟩:=h
 ·simp [Go.AM.view]
 ·simp [Go.AM.view]
theorem zAv.cells {x : AV} {k : Nat} {xs : List AV} (h : zAv x k xs) : x.cells = [x]:=by obtain ⟨q,k',rfl,_⟩:=h; rfl
theorem zAI {H H' : Heap} (hO : Old H H') {k : Nat} {v : AV} {xs : List AV} (h : view H k v = some xs) : view H' k v = some xs:=by
 unfold view at h ⊢
 split at h
 ·exact h
 ·split at h
  ·rename_i hk
   rw [if_pos hk]
   have : ∀ x,H[‹Nat›]? = some x → True:=fun _ _=>trivial
   split at h
   ·rename_i hb
    rw [hO.2 _ (zg hb).1,hb]; exact h
   ·rename_i hb
    rw [hO.2 _ (zg hb).1,hb]; exact h
   ·cases h
  ·cases h
 ·cases h
theorem zBx {H H' : Heap} (hO : Old H H') {b : Nat} {x : ABlk} (h : H[b]? = some x) : H'[b]? = some x:=by
 rw [hO.2 _ (zg h).1]; exact h
theorem zAK {v : AV} {k : Nat} {xs : List AV} {n : Int} {K : AV → Prop} (i : Nat) (x : AV) (hv : zAv v k xs) (hn : n = (i : Int)) (hx : xs[i]? = some x) (q : K (.lref x 0)) : idxN k v n K:=by
 obtain ⟨qq,k',rfl,rfl | rfl⟩:=hv
 ·exact sIdx hn hx q
 ·simp at hx
theorem zu {v : AV} {k : Nat} {xs : List AV} {K : Int → Prop} (n : Nat) (hv : zAv v k xs) (hn : xs.length = n) (q : K (n : Int)) : lenP v K:=zBN n (hv.view []) hn q
theorem zK5 {x : AV} {H : Heap} {K : AV → Heap → Prop} (h : x.cells.all AV.one = true) (q : K (.ref H.length 0 0 0) (H ++ [.box x.cells])) : actP .box [x] H K:=
 zLo (by simp only [astep]; rw [if_pos h]) q
theorem zDL {b k s o : Nat} {v : AV} {cs : List AV} {H : Heap} {K : AV → Heap → Prop} (h : H[b]? = some (.box cs)) (hl : v.cells.length = s) (h1 : v.cells.all AV.one = true) (ho : o + s ≤ cs.length)
  (q : K .undef (H.set b (.box (splice cs o v.cells)))) : actP (.store s) [.ref b k 0 o,v] H K:=by
 refine zLo ?_ q
 simp only [astep]
 rw [if_pos ⟨hl,h1⟩,h]
 simp only
 rw [if_pos ⟨trivial,ho⟩]
theorem Owns.weaken {H0 H1 H : Heap} {v : AV} {k : Nat} {xs : List AV} (h : Owns H1 H v k xs) (hl : H0.length ≤ H1.length) : Owns H0 H v k xs:=by
 rcases h with h | ⟨b,rfl,h1,h2,h3⟩
 ·exact .inl h
 ·exact .inr ⟨b,rfl,Nat.le_trans hl h1,h2,h3⟩
theorem Owns.set {H0 H : Heap} {v : AV} {k : Nat} {xs : List AV} (h : Owns H0 H v k xs) {c : Nat} (hc : v.blk ≠ some c) (x : ABlk) : Owns H0 (H.set c x) v k xs:=
 h.keep fun b _ hb hx=>zG (fun e=>hc (by rw [e]; exact hb)) hx
theorem Owns.pushSet {H0 H : Heap} {v : AV} {k : Nat} {xs : List AV} (h : Owns H0 H v k xs) (x y : ABlk) : Owns H0 ((H ++ [x]).set H.length y) v k xs:=
 (h.push x).set (fun e=>by have:=(h.lt e).2; omega) y
theorem Old.pushSet {H0 H : Heap} (h : Old H0 H) (x y : ABlk) : Old H0 ((H ++ [x]).set H.length y):=(h.push [x]).set h.1 y
def zC3 (k : Nat) : List AV → AV
 | []=>.lst (some true) 0 []
 | x :: xs=>.lst (some false) k (x :: xs)
theorem zEE (k : Nat) (xs : List AV) : zAv (zC3 k xs) k xs:=by
 cases xs
 ·exact ⟨_,_,rfl,.inr rfl⟩
 ·exact ⟨_,_,rfl,.inl rfl⟩
theorem zDf (n k : Nat) (xs : List AV) : (zC3 k xs).bel n = true:=by cases xs <;> rfl
theorem Owns.frz {H0 H : Heap} {v : AV} {k : Nat} {xs : List AV} (h : Owns H0 H v k xs) (hO : Old H0 H) : ∃ H',zCl H0.length v H = some (zC3 k xs,H') ∧ Old H0 H' ∧ ∀ c x,v.blk ≠ some c → H[c]? = some x → H'[c]? = some x:=by
 rcases h with ⟨rfl,rfl⟩ | ⟨b,rfl,h1,h2,h3⟩
 ·exact ⟨H,rfl,hO,fun _ _ _ h=>h⟩
 ·refine ⟨H.set b (.frz k xs), ?_,hO.set h1 _,fun c x hc hx=>zG (fun e=>hc (by rw [e]; rfl)) hx⟩
  cases xs with
  | nil=>exact absurd rfl h3
  | cons x xs=>
   simp only [zCl]
   rw [if_neg tO,h2]
   simp [zC3,zOL]
theorem zKM {F : AF} {H H1 H2 : Heap} {fr : Fr} {v0 v : AV} (hk : F.keep = false) (hr : (zAr fr H1 F.results).map tupled = some v0) (hf : zCl H.length v0 H1 = some (v,H2)) (hb : v.bel H.length = true) (ho : Old H H2) : retP F H fr H1 v H:=by
 refine zQt ?_
 unfold zJx
 cases hs : zAr fr H1 F.results with
 | none=>rw [hs] at hr; cases hr
 | some vs=>
  rw [hs] at hr
  simp only [Option.map_some,Option.some.injEq] at hr
  subst hr
  simp only [hk,hf,Bool.false_eq_true,if_false]
  exact ⟨hb,ho.ok,trivial,ho.take.symm⟩
theorem z2 {F : AF} {H H1 : Heap} {fr : Fr} {v : AV} (hk : F.keep = false) (hr : (zAr fr H1 F.results).map tupled = some v) (hf : zCl H.length v H1 = some (v,H1)) (hb : v.bel H.length = true) (ho : Old H H1) : retP F H fr H1 v H:=by
 refine zQt ?_
 unfold zJx
 cases hs : zAr fr H1 F.results with
 | none=>rw [hs] at hr; cases hr
 | some vs=>
  rw [hs] at hr
  simp only [Option.map_some,Option.some.injEq] at hr
  subst hr
  simp only [hk,hf,Bool.false_eq_true,if_false]
  exact ⟨hb,ho.ok,trivial,ho.take.symm⟩
theorem zPy {F : AF} {H H1 : Heap} {fr : Fr} {v v0 : AV} (he : v = v0) (hk : F.keep = false) (hr : (zAr fr H1 F.results).map tupled = some v0) (hf : zCl H.length v0 H1 = some (v0,H1)) (hb : v0.bel H.length = true) (ho : Old H H1) : retP F H fr H1 v H:=by
 subst he; exact z2 hk hr hf hb ho
theorem sRr {F : AF} {H : Heap} {fr : Fr} {v : AV} (hk : F.keep = false:=by rfl) (hr : (zAr fr H F.results).map tupled = some v:=by rfl) (hf : zCl H.length v H = some (v,H):=by rfl) (hb : v.bel H.length = true:=by rfl) : retP F H fr H v H:=z2 hk hr hf hb (Old.refl H)
end Go.AM
namespace Go.AM
structure retQ (F : AF) (H : Heap) (fr : Fr) (H1 : Heap) (Q : AV → Heap → Prop) : Prop where
 h : ∃ v H',zJx F H fr H1 v H' ∧ Q v H'
def finF (F : AF) (H : Heap) (v : AV) (H' : Heap) : Post:=fun e fr H1=>match e with
  | .normal=>retP F H fr H1 v H'
  | .ret=>retP F H fr H1 v H'
  | _=>False
theorem zR {C : CSpec} {GT : Nat → Option AV} {F : AF} {args : List AV} {H : Heap} {v : AV} {H' : Heap} (h : EW C GT F.body (finF F H v H') (zH8 0 args) H) : EFun C GT F args H v H':=h
def AC.rest : AC → AC
 | .seq _ b=>b
 | c=>c
def AC.first : AC → AC
 | .seq a _=>a
 | c=>c
def AC.body : AC → AC
 | .block _ _ c=>c
 | .loop _ c=>c
 | c=>c
def AC.behind (c : AC) : Nat → AC
 | 0=>c
 | n + 1=>(c.behind n).rest
def nV (k : Nat) : AV:=.int .i64 k
def rI (n : Nat) (f : Nat → Nat) : List AV:=rowF n fun i=>nV (f i)
def hpR (G : Heap) (b n : Nat) (f : Nat → Nat) : Heap:=G.set b (.row 1 (rI n f))
theorem zC4 {x : Int} {r : Nat} {K : Int → Prop} (h : x = r) (hr : r ≤ 9223372036854775807) (k : K (r : Int)) : valP (IntKind.wrap .u64 x) K:=
 zM4 (by rw [IntWalk.u64_in x tO,h]) k
end Go.AM
namespace Go.AM
theorem Owns.apart {H0 H : Heap} {v w : AV} {k k' : Nat} {xs ys : List AV} (h : Owns H0 H v k xs) (g : Owns H0 H w k' ys) (hne : ∀ x y,x ∈ xs → y ∈ ys → x ≠ y) {b : Nat} (hb : w.blk = some b) : v.blk ≠ some b:=by
 intro e
 rcases h with ⟨rfl,_⟩ | ⟨b1,rfl,_,h2,h3⟩
 ·cases e
 ·rcases g with ⟨rfl,_⟩ | ⟨b2,rfl,_,g2,g3⟩
  ·cases hb
  ·simp only [AV.blk,Option.some.injEq] at e hb
   subst e; subst hb
   rw [h2] at g2
   simp only [Option.some.injEq,ABlk.row.injEq] at g2
   obtain ⟨_,rfl⟩:=g2
   cases xs with
   | nil=>exact h3 rfl
   | cons x xs=>exact hne x x (by simp) (by simp) rfl
theorem Owns.after {H0 H H' : Heap} {v w : AV} {k : Nat} {ys : List AV} (hw : Owns H0 H w k ys) (hap : ∀ b,w.blk = some b → v.blk ≠ some b) (hfr : ∀ c x,v.blk ≠ some c → H[c]? = some x → H'[c]? = some x) : Owns H0 H' w k ys:=
 hw.keep fun b x hb hx=>hfr b x (hap b hb) hx
theorem zQy {H0 H : Heap} {v w : AV} {k bytes : Nat} {xs ys : List AV} {K : AV → Heap → AV → Heap → Prop} (ho : Owns H0 H v 1 xs) (hw : Owns H0 H w k ys) (hy : ys ≠ []) (hap : ∀ b,v.blk = some b → w.blk ≠ some b) (hH : Old H0 H) (hb : bytes ≤ 1024) (hl : xs.length + 1 ≤ 137438953472)
  (q : ∀ s H1 v' H',Owns H0 H' v' 1 (xs ++ [zC3 k ys]) → Old H0 H' → (∀ c y,v.blk ≠ some c → w.blk ≠ some c → H[c]? = some y → H'[c]? = some y) → K s H1 v' H') :
  actP (.bslice 1) [w] H fun s H1=>actP (.append 1 bytes) [v,s] H1 (K s H1):=by
 obtain ⟨b,hwb,hf,hlb⟩ : ∃ b,w.blk = some b ∧ zCl 0 w H = some (zC3 k ys,H.set b (.frz k ys)) ∧ H0.length ≤ b:=by
  rcases hw with ⟨_,rfl⟩ | ⟨b,rfl,h1,h2,h3⟩
  ·exact absurd rfl hy
  ·refine ⟨b,rfl, ?_,h1⟩
   cases ys with
   | nil=>exact absurd rfl hy
   | cons x xs=>
    simp only [zCl,Nat.not_lt_zero,if_false,h2]
    simp [zC3,zOL]
 have hel : (zC3 k ys).elem 1 = true:=by cases ys <;> rfl
 refine zOl [zC3 k ys] (H.set b (.frz k ys)) (by simp only [zMX,hf]) (by simp [hel]) ?_
 have ho2 : Owns H0 (H.set b (.frz k ys)) v 1 xs:=ho.set (fun e=>hap b e hwb) _
 refine zCp (H0:=H0) (ho2.push _) ((hH.set hlb _).push _) zAn hb (by simpa using hl) (by simp) fun v' H' ho' hH' hb' hf'=>?_; refine q _ _ v' H' ho' hH' fun c y hc hc2 hy'=>hf' c y hc (zF (zG (fun e=>hc2 (by rw [hwb,e])) hy'))
def zJW : AC → Option (List Nat)
 | .reg L _ _=>some L
 | .seq a _=>zJW a
 | .block _ _ c=>zJW c
 | .loop L _=>some L
 | .regt L _ _ _=>some L
 | .scope _ _ c _=>zJW c
 | _=>none
theorem zPz {C : CSpec} {GT : Nat → Option AV} {fr F : Fr} {H : Heap} {L : List Nat} (hr : zT fr L = zT F L) : ∀ (c : AC) (K : Post),zJW c = some L → EW C GT c K F H → EW C GT c K fr H:=by
 intro c
 induction c with
 | reg L' d ops=>
  intro K h g
  simp only [zJW,Option.some.injEq] at h
  subst h
  replace g : EWops C GT ops [] (zT F L') H (fun fr' H'=>K .normal fr' H'):=g
  rw [← hr] at g
  exact g
 | seq a b iha ihb=>intro K h g; exact iha (zPm (EW C GT b K) K) h g
 | block id L' c ih=>intro K h g; exact ih (zHq id L' K) h g
 | loop L' c ih=>
  intro K h g
  simp only [zJW,Option.some.injEq] at h
  subst h
  replace g : loopP C GT L' c K (zT F L') H:=g
  rw [← hr] at g
  exact g
 | regt L' d ops t=>
  intro K h g
  simp only [zJW,Option.some.injEq] at h
  subst h
  replace g : EWT C GT ops t [] (zT F L') H (fun fr' H'=>K .normal fr' H') (fun x H'=>K (.pan x) [] H'):=g
  rw [← hr] at g
  exact g
 | scope L' l c r ihc ihr=>intro K h g; exact ihc (zI2 l (fun fr' H'=>gotoP C GT L' l r K (zT fr' L') H') K) h g
 | label=>intro K h; cases h
 | goto=>intro K h; cases h
 | skip=>intro K h; cases h
 | cond=>intro K h; cases h
 | exit=>intro K h; cases h
 | ret=>intro K h; cases h
 | stuck=>intro K h; cases h
theorem zQz {C : CSpec} {GT : Nat → Option AV} {c : AC} {K : Post} {L : List Nat} {fr F : Fr} {H : Heap} (hc : zJW c = some L) (g : EW C GT c K F H) (hr : zT fr L = zT F L) : zPm (EW C GT c K) K .normal fr H:=
 zPz hr c K hc g
end Go.AM
namespace Go.AM
def zBf (k : Nat) : AV:=.int .i64 k
theorem zS {b k s o : Nat} {v : AV} {cs : List AV} (cs' : List AV) {H : Heap} {K : AV → Heap → Prop} (h : H[b]? = some (.box cs)) (hl : v.cells.length = s) (h1 : v.cells.all AV.one = true) (ho : Nat.ble (o + s) cs.length = true) (he : splice cs o v.cells = cs')
  (q : K .undef (H.set b (.box cs'))) : actP (.store s) [.ref b k 0 o,v] H K:=
 zDL h hl h1 (Nat.le_of_ble_eq_true ho) (by rw [he]; exact q)
theorem zAv.one {v : AV} {k : Nat} {xs : List AV} (h : zAv v k xs) : v.cells = [v] ∧ v.one = true:=by obtain ⟨q,k',rfl,_⟩:=h; exact ⟨rfl,rfl⟩
theorem Owns.one {H0 H : Heap} {v : AV} {k : Nat} {xs : List AV} (h : Owns H0 H v k xs) : v.cells = [v] ∧ v.one = true:=by
 rcases h with ⟨rfl,_⟩ | ⟨b',rfl,_⟩ <;> exact ⟨rfl,rfl⟩
theorem zZ {F : AF} {a s : Nat} {ag : Bool} {H H1 : Heap} {fr : Fr} {v : AV} {cs : List AV} {o : Nat} (hF : F.results = [.cell a s ag]) (hk : F.keep = false) (hp : zl H1 (zPW fr a) = some (cs,o)) (hpt : part cs o s ag = some v)
  (hf : zCl H.length v H1 = some (v,H1)) (hb : v.bel H.length = true) (ho : Old H H1) : retP F H fr H1 v H:=by
 refine z2 hk ?_ hf hb ho
 rw [zFC] at hp
 simp only [hF,zAr,zJ0,hp,hpt,Option.map_some]
 rfl
end Go.AM
namespace Go.AM
def Wk (x x' : AV) : Prop:=∀ (w : World) (M : AMap) (I : Nat → Prop) (n : Nat) (v : Value),Rel w M I n x v → Rel w M I n x' v
theorem Wk.refl (x : AV) : Wk x x:=fun _ _ _ _ _ h=>h
theorem Wk.undef (x : AV) : Wk x .undef:=fun _ _ _ _ _ _=>.undef _
theorem Wk.iface {t : TypeId} {x x' : AV} (h : Wk x x') : Wk (.iface t x) (.iface t x'):=fun w M I n v hr=>by
 cases hr with
 | iface _ _ u hu=>exact .iface t x' u (h w M I n u hu)
def WkL (cs cs' : List AV) : Prop:=cs'.length = cs.length ∧ ∀ (j : Nat) (c c' : AV),cs[j]? = some c → cs'[j]? = some c' → Wk c c'
theorem WkL.refl (cs : List AV) : WkL cs cs:=⟨rfl,fun j c c' h h'=>by rw [h] at h'; cases h'; exact .refl c⟩
theorem WkL.nil : WkL [] []:=.refl []
theorem WkL.cons {x x' : AV} {cs cs' : List AV} (h : Wk x x') (k : WkL cs cs') : WkL (x :: cs) (x' :: cs'):=by
 refine ⟨by simp [k.1],fun j c c' hc hc'=>?_⟩
 cases j with
 | zero=>simp at hc hc'; subst hc hc'; exact h
 | succ j=>exact k.2 j c c' (by simpa using hc) (by simpa using hc')
theorem Wk.agg {cs cs' : List AV} (h : WkL cs cs') : Wk (.agg cs) (.agg cs'):=fun w M I n v hr=>by
 cases hr with
 | agg _ vs hl hv=>
  refine .agg cs' vs (by rw [h.1,hl]) fun i c u hc hu=>?_
  have hi:=(zg hc).1
  have hi2 : i < cs.length:=by rw [← h.1]; exact hi
  exact h.2 i _ c (List.getElem?_eq_getElem hi2) hc w M I n u (hv i _ u (List.getElem?_eq_getElem hi2) hu)
section
variable {GT : Nat → Option AV} {w w0 : World} {M M0 : AMap} {I I0 : Nat → Prop} {H H0 : Heap} {b : Nat} {cs cs' : List AV}
end
theorem zGz {b : Bool} {A B : Prop} (h : b = true) (a : A) : condP b A B:=by subst h; exact zM a
theorem zGg {b : Bool} {A B : Prop} (h : b = false) (a : B) : condP b A B:=by subst h; exact zK a
theorem zNL {H : Heap} {b : Nat} {x : ABlk} (h : b < H.length) : (H.set b x)[b]? = some x:=List.getElem?_set_self h
theorem hP {P : Prop} (h : P:=by first | (with_reducible (repeat' (first | assumption | exact zA | refine zF ?_ | (apply zNL; exact tC) | refine zG tA ?_)); done) | ((repeat' (first | assumption | exact zA | exact zNL tC | refine zF ?_ | refine zG tA ?_)); done)) : P:=h
theorem zK6 {H : Heap} {b : Nat} {B : ABlk} (h : H[b]? = some B) : H.set b B = H:=by
 apply List.ext_getElem?
 intro c
 by_cases e : b = c
 ·subst e; rw [List.getElem?_set_self (zg h).1,h]
 ·rw [List.getElem?_set_ne e]
structure OldB (H : Heap) (b : Nat) (B : ABlk) (H1 : Heap) : Prop where
 lt : b < H.length
 old : Old (H.set b B) H1
theorem OldB.start {H : Heap} {b : Nat} {B : ABlk} (h : H[b]? = some B) : OldB H b B H:=by
 obtain ⟨h1,h2⟩:=zg h
 refine ⟨h1,by rw [List.length_set]; exact Nat.le_refl _,fun c _=>?_⟩
 by_cases e : b = c
 ·subst e; rw [List.getElem?_set_self h1]; exact h
 ·rw [List.getElem?_set_ne e]
theorem OldB.push {H H1 : Heap} {b : Nat} {B : ABlk} (h : OldB H b B H1) (x : List ABlk) : OldB H b B (H1 ++ x):=⟨h.lt,h.old.push x⟩
theorem OldB.set {H H1 : Heap} {b : Nat} {B : ABlk} (h : OldB H b B H1) {c : Nat} (hc : H.length ≤ c) (x : ABlk) : OldB H b B (H1.set c x):=⟨h.lt,h.old.set (by rw [List.length_set]; exact hc) x⟩
theorem OldB.setB {H H1 : Heap} {b : Nat} {B : ABlk} (h : OldB H b B H1) (B' : ABlk) : OldB H b B' (H1.set b B'):=by
 have hl:=h.old.1
 rw [List.length_set] at hl
 refine ⟨h.lt,by rw [List.length_set,List.length_set]; exact hl,fun c hc=>?_⟩
 rw [List.length_set] at hc
 by_cases e : b = c
 ·subst e; rw [List.getElem?_set_self h.lt,List.getElem?_set_self (by have:=h.lt; omega)]
 ·have:=h.old.2 c (by rw [List.length_set]; exact hc)
  rw [List.getElem?_set_ne e] at this
  rw [List.getElem?_set_ne e,List.getElem?_set_ne e,this]
theorem OldB.ok {H H1 : Heap} {b : Nat} {B : ABlk} (h : OldB H b B H1) (hc : zKk H.length B = true) : zJ1 H H1:=fun c hc'=>by
 have:=h.old.2 c (by rw [List.length_set]; exact hc')
 by_cases e : b = c
 ·subst e
  rw [List.getElem?_set_self hc'] at this
  exact .inr ⟨B,this,hc⟩
 ·rw [List.getElem?_set_ne e] at this
  exact .inl this
theorem OldB.take {H H1 : Heap} {b : Nat} {B : ABlk} (h : OldB H b B H1) : H1.take H.length = H.set b B:=by
 have:=h.old.take
 rwa [List.length_set] at this
structure retR (F : AF) (H : Heap) (fr : Fr) (H1 : Heap) (b : Nat) (r : Option (AV × ABlk)) : Prop where
 h : ∃ v B,r = some (v,B) ∧ zJx F H fr H1 v (H.set b B)
structure panR (F : AF) (H : Heap) (b : Nat) (cs' : List AV) (x' : AV) (r : Option (AV × ABlk)) (x0 : AV) (H1 : Heap) : Prop where
 h : r = none ∧ ∃ x cs,panF F H x0 H1 x (H.set b (.box cs)) ∧ b < H.length ∧ WkL cs cs' ∧ Wk x x'
end Go.AM
