/- Several texts of mine in one (Am22, Am25, Am27, Am29, Am30). Own work. -/
import Derived.Test.YtgcggndacnmhfaaGreatDoorGAm17Am21
import Derived.IntWalk
set_option linter.all false
namespace Go.AM
theorem sW64 {x : Int} {K : Int → Prop} (h : -9223372036854775808 ≤ x ∧ x ≤ 9223372036854775807) (k : K x) : valP (IntKind.wrap .i64 x) K:=
 zC3 (IntWalk.i64_in x h) k
theorem zAf {x : Int} {r : Nat} {K : Int → Prop} (h : x = r) (hr : r ≤ 9223372036854775807) (k : K (r : Int)) : valP (IntKind.wrap .i64 x) K:=
 zC3 (by rw [IntWalk.i64_in x tO,h]) k
def AV.plain : AV → Bool
 | .sl ..=>false
 | .agg _=>false
 | .tup _=>false
 | .iface _ _=>false
 | .mp _=>false
 | _=>true
theorem zJs {n : Nat} {v : AV} {H : Heap} (h : v.plain = true) : zCk n v H = some (v,H):=by
 cases v <;> first | rfl | (simp [AV.plain] at h)
theorem zH8 {p : AV} {H : Heap} {s o : Nat} {ag : Bool} {cs : List AV} {K : AV → Prop} (r : AV) (hp : zx H p = some (cs,o)) (hr : part cs o s ag = some r) (q : K r) : loadN s ag p H K:=by
 rw [zGf]; unfold zH3
 split
 ·simp only [zx,Option.some.injEq,Prod.mk.injEq] at hp
  obtain ⟨rfl,rfl⟩:=hp
  exact za hr q
 ·exact za hp (za hr q)
theorem zGq {x : AV} {H : Heap} {s o : Nat} {ag : Bool} {K : AV → Prop} (r : AV) (hr : part x.cells o s ag = some r) (q : K r) : loadN s ag (.lref x o) H K:=zH8 r rfl hr q
theorem zMR {b k i o : Nat} {H : Heap} {xs : List AV} {x : AV} (h : H[b]? = some (.row k xs)) (hx : xs[i]? = some x) : zx H (.ref b k i o) = some (x.cells,o):=by
 simp only [zx,h,if_true,hx,Option.map_some]
theorem zk {b k o : Nat} {H : Heap} {cs : List AV} (h : H[b]? = some (.box cs)) : zx H (.ref b k 0 o) = some (cs,o):=by
 simp only [zx,h,if_true]
theorem zF3 {b k i o s : Nat} {ag : Bool} (j : Nat) {H : Heap} {xs : List AV} (x r : AV) {K : AV → Prop} (hi : i = j) (h : H[b]? = some (.row k xs)) (hx : xs[j]? = some x) (hr : part x.cells o s ag = some r) (q : K r) : loadN s ag (.ref b k i o) H K:=
 zH8 r (zMR h (by rw [hi]; exact hx)) hr q
theorem zA {b k o s : Nat} {ag : Bool} {H : Heap} {cs : List AV} (r : AV) {K : AV → Prop} (h : H[b]? = some (.box cs)) (hr : part cs o s ag = some r) (q : K r) : loadN s ag (.ref b k 0 o) H K:=
 zH8 r (zk h) hr q
theorem zJt {q : Option Bool} {b k off n : Nat} {K : Int → Prop} (h : K (n : Int)) : lenP (.sl q b k off n) K:=by rw [zFz]; unfold zJf; exact h
theorem zNL {q : Option Bool} {k : Nat} {xs : List AV} {K : Int → Prop} (h : K (xs.length : Int)) : lenP (.lst q k xs) K:=by rw [zFz]; unfold zJf; exact h
theorem sLenV {v : AV} {H : Heap} {k : Nat} {xs : List AV} {K : Int → Prop} (hv : view H k v = some xs) (q : K (xs.length : Int)) : lenP v K:=by
 unfold view at hv
 split at hv
 ·refine zNL ?_
  split at hv
  ·cases hv; exact q
  ·split at hv
   ·rename_i h
    simp only [List.isEmpty_iff] at h
    cases hv; rw [h]; exact q
   ·cases hv
 ·refine zJt ?_
  split at hv
  ·split at hv
   ·split at hv
    ·rename_i hc
     cases hv
     rw [List.length_take,List.length_drop] at q
     rwa [Nat.min_eq_left tO] at q
    ·cases hv
   ·split at hv
    ·rename_i hc
     cases hv
     rw [List.length_take,List.length_drop] at q
     rwa [Nat.min_eq_left tO] at q
    ·cases hv
   ·cases hv
  ·cases hv
 ·cases hv
theorem sLenN {v : AV} {H : Heap} {k : Nat} {xs : List AV} {K : Int → Prop} (n : Nat) (hv : view H k v = some xs) (hn : xs.length = n) (q : K (n : Int)) : lenP v K:=sLenV hv (by rw [hn]; exact q)
theorem sIdx {q' : Option Bool} {k i : Nat} {xs : List AV} {n : Int} {x : AV} {K : AV → Prop} (hn : n = (i : Int)) (hx : xs[i]? = some x) (q : K (.lref x 0)) : idxN k (.lst q' k xs) n K:=by
 rw [zF0]; unfold zJg
 exact zAe rfl (sIdxP hn hx q)
theorem sAt {q' : Option Bool} {b k off len : Nat} {n : Int} {K : AV → Prop} (h : 0 ≤ n ∧ n < (len : Int)) (q : K (.ref b k (off + n.toNat) 0)) : idxN k (.sl q' b k off len) n K:=by
 rw [zF0]; unfold zJg
 exact zAe ⟨rfl,h⟩ q
theorem zJu {b k i : Nat} (j : Nat) (v : AV) {x : AV} {H : Heap} {xs : List AV} {K : AV → Heap → Prop} (hi : i = j) (h : H[b]? = some (.row k xs)) (hx : xs[j]? = some x) (hp : v.plain = true) (h0 : 0 < k) (he : v.elem k = true) (hn : ∀ cs,x ≠ .agg cs)
  (q : K .undef (H.set b (.row k (xs.set j v)))) : actP (.store k) [.ref b k i 0,v] H K:=by
 subst hi
 refine zKo ?_ q
 have hc : v.cells.length = k ∧ v.cells.all AV.one = true:=by
  simp only [AV.elem,Bool.and_eq_true,beq_iff_eq] at he
  exact ⟨he.1.1,he.2⟩
 have hu : zCF x 0 v = v:=by cases x <;> first | rfl | exact absurd rfl (hn _)
 simp only [astep,if_pos hc,h,zJs hp,hx]
 rw [if_pos ⟨trivial,by omega,h0,he⟩,hu]
theorem sMake {k bytes : Nat} {z : AV} {l c : Int} {n : Nat} {k1 k2 : IntKind} {H : Heap} {K : AV → Heap → Prop} (hl : l = n) (hlc : l ≤ c) (hb : (bytes : Int) * c ≤ 281474976710656 ∧ c ≤ 9223372036854775807) (hz : z.elem k = true)
  (q : K (.sl (some false) H.length k 0 n) (H ++ [.row k (List.replicate n z)])) : actP (.make k bytes z) [.int k1 l,.int k2 c] H K:=by
 refine zKo ?_ q
 subst hl
 simp only [astep]
 rw [if_pos ⟨by omega,hlc,hb.1,hb.2,hz⟩]
 rfl
def zJv (n : Nat) (f : Nat → AV) : List AV:=(List.range n).map f
def upd {α : Type} (f : Nat → α) (i : Nat) (v : α) : Nat → α:=fun j=>if j = i then v else f j
theorem zLJ (n : Nat) (f : Nat → AV) : (zJv n f).length = n:=by simp [zJv]
theorem zLK {n i : Nat} {f : Nat → AV} (h : i < n) : (zJv n f)[i]? = some (f i):=by simp [zJv,h]
theorem zLL {n i : Nat} {f : Nat → AV} {v : AV} : (zJv n f).set i v = zJv n (upd f i v):=by
 apply List.ext_getElem?
 intro j
 simp only [zJv,List.getElem?_set,List.getElem?_map,List.length_map,List.length_range]
 by_cases hj : j < n
 ·rw [List.getElem?_range hj]
  by_cases e : i = j
  ·subst e; simp [hj,upd]
  ·simp [e,upd,Ne.symm e]
 ·rw [List.getElem?_eq_none (l:=List.range n) (by simpa using hj)]
  simp only [Option.map_none,ite_eq_right_iff]
  intro e; subst e; simp [hj]
theorem zDj {n : Nat} {f g : Nat → AV} (h : ∀ i,i < n → f i = g i) : zJv n f = zJv n g:=by
 unfold zJv
 exact List.map_congr_left fun i hi=>h i (List.mem_range.1 hi)
theorem zEr : ∀ u : List UInt8,zBZ (u.map zY) = some u
 | []=>rfl
 | c :: u=>by simp [zBZ,zY,zEr u]
def Old (H0 H : Heap) : Prop:=H0.length ≤ H.length ∧ ∀ c,c < H0.length → H[c]? = H0[c]?
theorem Old.refl (H : Heap) : Old H H:=⟨Nat.le_refl _,fun _ _=>rfl⟩
theorem Old.push {H0 H : Heap} (h : Old H0 H) (x : List ABlk) : Old H0 (H ++ x):=
 ⟨by rw [List.length_append]; have:=h.1; omega,fun c hc=>by rw [List.getElem?_append_left (Nat.lt_of_lt_of_le hc h.1)]; exact h.2 c hc⟩
theorem Old.set {H0 H : Heap} (h : Old H0 H) {b : Nat} (hb : H0.length ≤ b) (x : ABlk) : Old H0 (H.set b x):=
 ⟨by rw [List.length_set]; exact h.1,fun c hc=>by rw [List.getElem?_set_ne tO]; exact h.2 c hc⟩
theorem Old.trans {H0 H1 H2 : Heap} (h : Old H0 H1) (k : Old H1 H2) : Old H0 H2:=
 ⟨Nat.le_trans h.1 k.1,fun c hc=>(k.2 c (Nat.lt_of_lt_of_le hc h.1)).trans (h.2 c hc)⟩
theorem Old.take {H0 H : Heap} (h : Old H0 H) : H.take H0.length = H0:=by
 apply List.ext_getElem?
 intro i
 rw [List.getElem?_take]
 split
 ·rename_i hi; exact h.2 i hi
 ·rename_i hi; rw [List.getElem?_eq_none tO]
theorem Old.ok {H0 H : Heap} (h : Old H0 H) : zKt H0 H:=fun b hb=>.inl (h.2 b hb)
theorem zB {H : Heap} {x : ABlk} : (H ++ [x])[H.length]? = some x:=by simp
theorem zT {H : Heap} {x : ABlk} {b : Nat} {y : ABlk} (h : H[b]? = some y) : (H ++ [x])[b]? = some y:=by
 rw [List.getElem?_append_left (zg h).1]; exact h
theorem zH {H : Heap} {b : Nat} {x y : ABlk} (h : H[b]? = some y) : (H.set b x)[b]? = some x:=by
 rw [List.getElem?_set_self (zg h).1]
theorem zI {H : Heap} {b c : Nat} {x y : ABlk} (hn : b ≠ c) (h : H[c]? = some y) : (H.set b x)[c]? = some y:=by
 rw [List.getElem?_set_ne hn]; exact h
abbrev oR (L : List Nat) (ops : List AI) : AC:=.reg L false ops
abbrev oC (t : Nat) (a b : AC) : AC:=.cond (.tmp t) a b
abbrev oA (d : Nat) (z : List AV) : AI:=⟨some d,none,.alloc z,[]⟩
abbrev oE (d : Nat) (o : BinOp) (a : Nat) (n : Int) : AI:=⟨some d,none,.bin o,[.tmp a,.const (.int .i64 n)]⟩
abbrev oX (d : Nat) (o : BinOp) (a b : Nat) : AI:=⟨some d,none,.bin o,[.tmp a,.tmp b]⟩
abbrev oV (d g : Nat) (b : Bool) (a : Nat) : AI:=⟨some d,some (g,b),.mv,[.tmp a]⟩
abbrev oW (d g : Nat) (b : Bool) (k : AK) (a : Nat) : AI:=⟨some d,some (g,b),k,[.tmp a]⟩
abbrev oY (d g : Nat) (b : Bool) (k : AK) (a c : Nat) : AI:=⟨some d,some (g,b),k,[.tmp a,.tmp c]⟩
abbrev oEG (d g : Nat) (b : Bool) (o : BinOp) (a : Nat) (n : Int) : AI:=⟨some d,some (g,b),.bin o,[.tmp a,.const (.int .i64 n)]⟩
abbrev oXG (d g : Nat) (b : Bool) (o : BinOp) (a c : Nat) : AI:=⟨some d,some (g,b),.bin o,[.tmp a,.tmp c]⟩
abbrev oXI (d k a b : Nat) : AI:=⟨some d,none,.idxAddr k,[.tmp a,.tmp b]⟩
abbrev oYI (d g : Nat) (b : Bool) (k a c : Nat) : AI:=⟨some d,some (g,b),.idxAddr k,[.tmp a,.tmp c]⟩
abbrev oLen (d : Nat) (a : Nat) : AI:=⟨some d,none,.len false,[.tmp a]⟩
abbrev oO (d a : Nat) : AI:=⟨some d,none,.load 1 false,[.tmp a]⟩
abbrev oQ (L : List Nat) (ops : List AI) (c : AC) : AC:=.seq (.reg L false ops) c
abbrev oP (d g : Nat) (c : Bool) (b : Nat) : AI:=⟨some d,none,.pick,[.tmp g,.const (.bool c),.tmp b]⟩
abbrev oZ : List AV:=[.int .i64 0,.int .i64 0,.str [],.int .i64 0,.int .i64 0,.bool false,.bool false,.int .i64 0,.int .i64 0,.bool false,.bool false,.lst (some true) 0 []]
abbrev oM (d s : Nat) : AI:=⟨some d,none,.mv,[.tmp s]⟩
abbrev oL (d k : Nat) (b : Bool) (s : Nat) : AI:=⟨some d,none,.load k b,[.tmp s]⟩
abbrev oF (d k s : Nat) : AI:=⟨some d,none,.fieldAddr k,[.tmp s]⟩
abbrev oS (k a b : Nat) : AI:=⟨none,none,.store k,[.tmp a,.tmp b]⟩
abbrev oN (d s : Nat) : AI:=⟨some d,none,.nilchk,[.tmp s]⟩
abbrev oI (d : Nat) (k : AK) (xs : List Opd) : AI:=⟨some d,none,k,xs⟩
abbrev oJ (k : AK) (xs : List Opd) : AI:=⟨none,none,k,xs⟩
abbrev oG (d g : Nat) (b : Bool) (k : AK) (xs : List Opd) : AI:=⟨some d,some (g,b),k,xs⟩
abbrev oT (d : Nat) (k : AK) (s : Nat) : AI:=⟨some d,none,k,[.tmp s]⟩
abbrev oD (d : Nat) (k : AK) (a b : Nat) : AI:=⟨some d,none,k,[.tmp a,.tmp b]⟩
abbrev oK (n : Int) : Opd:=.const (.int .i64 n)
abbrev oB (b : Bool) : Opd:=.const (.bool b)
theorem tA {P : Prop} (h : P:=by first | assumption | exact Nat.le_refl _ | omega | (simp only [List.length_set,List.length_append,List.length_cons,List.length_nil]; omega) | (simp; done) | (simp; omega)) : P:=h
theorem tC {P : Prop} (h : P:=by first | exact Nat.le_refl _ | omega | (simp only [List.length_set,List.length_append,List.length_cons,List.length_nil]; omega) | (simp; done) | (simp; omega)) : P:=h
def AV.blk : AV → Option Nat
 | .sl _ b _ _ _=>some b
 | _=>none
def Owns (H0 H : Heap) (v : AV) (k : Nat) (xs : List AV) : Prop:=
 (v = .lst (some true) 0 [] ∧ xs = []) ∨ ∃ b,v = .sl (some true) b k 0 xs.length ∧ H0.length ≤ b ∧ H[b]? = some (.row k xs) ∧ xs ≠ []
theorem Owns.nil (H0 H : Heap) (k : Nat) : Owns H0 H (.lst (some true) 0 []) k []:=.inl ⟨rfl,rfl⟩
theorem Owns.lt {H0 H : Heap} {v : AV} {k : Nat} {xs : List AV} (h : Owns H0 H v k xs) {b : Nat} (hb : v.blk = some b) : H0.length ≤ b ∧ b < H.length:=by
 rcases h with ⟨rfl,_⟩ | ⟨b',rfl,h1,h2,_⟩
 ·cases hb
 ·simp only [AV.blk,Option.some.injEq] at hb
  subst hb
  exact ⟨h1,(zg h2).1⟩
theorem Owns.keep {H0 H H' : Heap} {v : AV} {k : Nat} {xs : List AV} (h : Owns H0 H v k xs) (hk : ∀ b x,v.blk = some b → H[b]? = some x → H'[b]? = some x) : Owns H0 H' v k xs:=by
 rcases h with h | ⟨b,rfl,h1,h2,h3⟩
 ·exact .inl h
 ·exact .inr ⟨b,rfl,h1,hk b _ rfl h2,h3⟩
theorem Owns.push {H0 H : Heap} {v : AV} {k : Nat} {xs : List AV} (h : Owns H0 H v k xs) (x : ABlk) : Owns H0 (H ++ [x]) v k xs:=
 h.keep fun _ _ _ hx=>zT hx
theorem Owns.view {H0 H : Heap} {v : AV} {k : Nat} {xs : List AV} (h : Owns H0 H v k xs) : view H k v = some xs:=by
 rcases h with ⟨rfl,rfl⟩ | ⟨b,rfl,_,h2,_⟩
 ·simp [Go.AM.view]
 ·simp [Go.AM.view,h2]
theorem zH9 {H : Heap} {k : Nat} {q : Option Bool} {xs : List AV} : view (H ++ [.row k xs]) k (.sl q H.length k 0 xs.length) = some xs:=by
 simp [Go.AM.view]
theorem zF4 {k : Nat} {vs vs' : List AV} {H : Heap} {K : AV → Heap → Prop} (hf : zKn 0 vs H = some (vs',H)) (he : vs'.all (fun v=>v.elem k) = true)
  (q : K (.sl (some false) H.length k 0 vs'.length) (H ++ [.row k vs'])) : actP (.bslice k) vs H K:=
 zKo (by simp only [astep,hf]; rw [if_pos he]) q
theorem zHY {H0 H : Heap} {v y : AV} {k bytes : Nat} {xs ys : List AV} {K : AV → Heap → Prop} (ho : Owns H0 H v k xs) (hH : Old H0 H) (hy : view H k y = some ys) (hb : bytes ≤ 1024) (hl : xs.length + ys.length ≤ 137438953472) (h0 : ys ≠ [])
  (q : ∀ v' H',Owns H0 H' v' k (xs ++ ys) → Old H0 H' → v'.blk = some H.length → (∀ c x,v.blk ≠ some c → H[c]? = some x → H'[c]? = some x) → K v' H') : actP (.append k bytes) [v,y] H K:=by
 have hm : (xs.length + ys.length) * bytes ≤ 137438953472 * 1024:=Nat.mul_le_mul hl hb
 rcases ho with ⟨rfl,rfl⟩ | ⟨b,rfl,h1,h2,_⟩
 ·simp only [List.length_nil,Nat.zero_add] at hl hm
  refine zKo (v:=.sl (some true) H.length k 0 ys.length) (H':=H ++ [.row k ys]) ?_ ?_
  ·simp only [astep,hy]
   rw [if_pos ⟨by omega,by omega⟩]
  ·exact q _ _ (.inr ⟨_,rfl,hH.1,zB,h0⟩) (hH.push _) rfl fun _ _ _ hx=>zT hx
 ·refine zKo (v:=.sl (some true) H.length k 0 (xs.length + ys.length)) (H':=H.set b .dead ++ [.row k (xs ++ ys)]) ?_ ?_
  ·simp only [astep,hy,h2]
   rw [if_pos ⟨trivial,trivial,by omega,by omega,by omega⟩]
   simp
  ·refine q _ _ (.inr ⟨_,by rw [List.length_append],hH.1, ?_,by simp [h0]⟩) ((hH.set h1 _).push _) rfl fun c x hc hx=>?_
   ·have : (H.set b .dead).length = H.length:=List.length_set
    rw [← this]; exact zB
   ·exact zT (zI (fun e=>hc (by rw [e]; rfl)) hx)
theorem zJw {H0 H : Heap} {v : AV} {u : List UInt8} {K : AV → Heap → Prop} (ho : Owns H0 H v 1 (u.map zY)) (q : K (.str u) H) : actP .bytesToStr [v] H K:=
 zKo (by simp only [astep,ho.view,zEr,Option.map_some]) q
def zF5 (x : AV) (k : Nat) (xs : List AV) : Prop:=∃ q k',x = .lst q k' xs ∧ (k' = k ∨ xs = [])
theorem zF5.view {x : AV} {k : Nat} {xs : List AV} (h : zF5 x k xs) (H : Heap) : view H k x = some xs:=by
 obtain ⟨q,k',rfl,rfl | rfl⟩:=h
 ·simp [Go.AM.view]
 ·simp [Go.AM.view]
theorem zF5.cells {x : AV} {k : Nat} {xs : List AV} (h : zF5 x k xs) : x.cells = [x]:=by obtain ⟨q,k',rfl,_⟩:=h; rfl
theorem zJx {H H' : Heap} (hO : Old H H') {b : Nat} {x : ABlk} (h : H[b]? = some x) : H'[b]? = some x:=by
 rw [hO.2 _ (zg h).1]; exact h
theorem zNM {v : AV} {k : Nat} {xs : List AV} {n : Int} {K : AV → Prop} (i : Nat) (x : AV) (hv : zF5 v k xs) (hn : n = (i : Int)) (hx : xs[i]? = some x) (q : K (.lref x 0)) : idxN k v n K:=by
 obtain ⟨qq,k',rfl,rfl | rfl⟩:=hv
 ·exact sIdx hn hx q
 ·simp at hx
theorem zF6 {v : AV} {k : Nat} {xs : List AV} {K : Int → Prop} (n : Nat) (hv : zF5 v k xs) (hn : xs.length = n) (q : K (n : Int)) : lenP v K:=sLenN n (hv.view []) hn q
theorem zJy {x : AV} {H : Heap} {K : AV → Heap → Prop} (h : x.cells.all AV.one = true) (q : K (.ref H.length 0 0 0) (H ++ [.box x.cells])) : actP .box [x] H K:=
 zKo (by simp only [astep]; rw [if_pos h]) q
theorem zJz {b k s o : Nat} {v : AV} {cs : List AV} {H : Heap} {K : AV → Heap → Prop} (h : H[b]? = some (.box cs)) (hl : v.cells.length = s) (h1 : v.cells.all AV.one = true) (ho : o + s ≤ cs.length)
  (q : K .undef (H.set b (.box (splice cs o v.cells)))) : actP (.store s) [.ref b k 0 o,v] H K:=by
 refine zKo ?_ q
 simp only [astep]
 rw [if_pos ⟨hl,h1⟩,h]
 simp only
 rw [if_pos ⟨trivial,ho⟩]
theorem Owns.set {H0 H : Heap} {v : AV} {k : Nat} {xs : List AV} (h : Owns H0 H v k xs) {c : Nat} (hc : v.blk ≠ some c) (x : ABlk) : Owns H0 (H.set c x) v k xs:=
 h.keep fun b _ hb hx=>zI (fun e=>hc (by rw [e]; exact hb)) hx
theorem Owns.pushSet {H0 H : Heap} {v : AV} {k : Nat} {xs : List AV} (h : Owns H0 H v k xs) (x y : ABlk) : Owns H0 ((H ++ [x]).set H.length y) v k xs:=
 (h.push x).set (fun e=>by have:=(h.lt e).2; omega) y
theorem Old.pushSet {H0 H : Heap} (h : Old H0 H) (x y : ABlk) : Old H0 ((H ++ [x]).set H.length y):=(h.push [x]).set h.1 y
def lstF (k : Nat) : List AV → AV
 | []=>.lst (some true) 0 []
 | x :: xs=>.lst (some false) k (x :: xs)
theorem Owns.frz {H0 H : Heap} {v : AV} {k : Nat} {xs : List AV} (h : Owns H0 H v k xs) (hO : Old H0 H) : ∃ H',zCk H0.length v H = some (lstF k xs,H') ∧ Old H0 H' ∧ ∀ c x,v.blk ≠ some c → H[c]? = some x → H'[c]? = some x:=by
 rcases h with ⟨rfl,rfl⟩ | ⟨b,rfl,h1,h2,h3⟩
 ·exact ⟨H,rfl,hO,fun _ _ _ h=>h⟩
 ·refine ⟨H.set b (.frz k xs), ?_,hO.set h1 _,fun c x hc hx=>zI (fun e=>hc (by rw [e]; rfl)) hx⟩
  cases xs with
  | nil=>exact absurd rfl h3
  | cons x xs=>
   simp only [zCk]
   rw [if_neg tO,h2]
   simp [lstF,zKr]
theorem zJ0 {F : AF} {H H1 H2 : Heap} {fr : Fr} {v0 v : AV} (hk : F.keep = false) (hr : (zAh fr H1 F.results).map tupled = some v0) (hf : zCk H.length v0 H1 = some (v,H2)) (hb : v.bel H.length = true) (ho : Old H H2) : retP F H fr H1 v H:=by
 refine sRet ?_
 unfold zHE
 cases hs : zAh fr H1 F.results with
 | none=>rw [hs] at hr; cases hr
 | some vs=>
  rw [hs] at hr
  simp only [Option.map_some,Option.some.injEq] at hr
  subst hr
  simp only [hk,hf,Bool.false_eq_true,if_false]
  exact ⟨hb,ho.ok,trivial,ho.take.symm⟩
theorem zAS {F : AF} {H H1 : Heap} {fr : Fr} {v : AV} (hk : F.keep = false) (hr : (zAh fr H1 F.results).map tupled = some v) (hf : zCk H.length v H1 = some (v,H1)) (hb : v.bel H.length = true) (ho : Old H H1) : retP F H fr H1 v H:=by
 refine sRet ?_
 unfold zHE
 cases hs : zAh fr H1 F.results with
 | none=>rw [hs] at hr; cases hr
 | some vs=>
  rw [hs] at hr
  simp only [Option.map_some,Option.some.injEq] at hr
  subst hr
  simp only [hk,hf,Bool.false_eq_true,if_false]
  exact ⟨hb,ho.ok,trivial,ho.take.symm⟩
theorem zDk {F : AF} {H H1 : Heap} {fr : Fr} {v v0 : AV} (he : v = v0) (hk : F.keep = false) (hr : (zAh fr H1 F.results).map tupled = some v0) (hf : zCk H.length v0 H1 = some (v0,H1)) (hb : v0.bel H.length = true) (ho : Old H H1) : retP F H fr H1 v H:=by
 subst he; exact zAS hk hr hf hb ho
theorem sRr {F : AF} {H : Heap} {fr : Fr} {v : AV} (hk : F.keep = false:=by rfl) (hr : (zAh fr H F.results).map tupled = some v:=by rfl) (hf : zCk H.length v H = some (v,H):=by rfl) (hb : v.bel H.length = true:=by rfl) : retP F H fr H v H:=zAS hk hr hf hb (Old.refl H)
end Go.AM
namespace Go.AM
structure retQ (F : AF) (H : Heap) (fr : Fr) (H1 : Heap) (Q : AV → Heap → Prop) : Prop where
 h : ∃ v H',zHE F H fr H1 v H' ∧ Q v H'
def zIu (F : AF) (H : Heap) (v : AV) (H' : Heap) : Post:=fun e fr H1=>match e with
  | .normal=>retP F H fr H1 v H'
  | .ret=>retP F H fr H1 v H'
  | _=>False
theorem zS {C : CSpec} {GT : Nat → Option AV} {F : AF} {args : List AV} {H : Heap} {v : AV} {H' : Heap} (h : EW C GT F.body (zIu F H v H') (zFk 0 args) H) : EFun C GT F args H v H':=h
def AC.rest : AC → AC
 | .seq _ b=>b
 | c=>c
def AC.first : AC → AC
 | .seq a _=>a
 | c=>c
def AC.body : AC → AC
 | .block _ _ c=>c
 | .loop _ c=>c
 | c=>c
def AC.behind (c : AC) : Nat → AC
 | 0=>c
 | n + 1=>(c.behind n).rest
theorem zJ1 {x : Int} {r : Nat} {K : Int → Prop} (h : x = r) (hr : r ≤ 9223372036854775807) (k : K (r : Int)) : valP (IntKind.wrap .u64 x) K:=
 zC3 (by rw [IntWalk.u64_in x tO,h]) k
end Go.AM
namespace Go.AM
theorem Owns.apart {H0 H : Heap} {v w : AV} {k k' : Nat} {xs ys : List AV} (h : Owns H0 H v k xs) (g : Owns H0 H w k' ys) (hne : ∀ x y,x ∈ xs → y ∈ ys → x ≠ y) {b : Nat} (hb : w.blk = some b) : v.blk ≠ some b:=by
 intro e
 rcases h with ⟨rfl,_⟩ | ⟨b1,rfl,_,h2,h3⟩
 ·cases e
 ·rcases g with ⟨rfl,_⟩ | ⟨b2,rfl,_,g2,g3⟩
  ·cases hb
  ·simp only [AV.blk,Option.some.injEq] at e hb
   subst e; subst hb
   rw [h2] at g2
   simp only [Option.some.injEq,ABlk.row.injEq] at g2
   obtain ⟨_,rfl⟩:=g2
   cases xs with
   | nil=>exact h3 rfl
   | cons x xs=>exact hne x x (by simp) (by simp) rfl
theorem Owns.after {H0 H H' : Heap} {v w : AV} {k : Nat} {ys : List AV} (hw : Owns H0 H w k ys) (hap : ∀ b,w.blk = some b → v.blk ≠ some b) (hfr : ∀ c x,v.blk ≠ some c → H[c]? = some x → H'[c]? = some x) : Owns H0 H' w k ys:=
 hw.keep fun b x hb hx=>hfr b x (hap b hb) hx
def zGr : AC → Option (List Nat)
 | .reg L _ _=>some L
 | .seq a _=>zGr a
 | .block _ _ c=>zGr c
 | .loop L _=>some L
 | .regt L _ _ _=>some L
 | .scope _ _ c _=>zGr c
 | _=>none
theorem zMS {C : CSpec} {GT : Nat → Option AV} {fr F : Fr} {H : Heap} {L : List Nat} (hr : zO fr L = zO F L) : ∀ (c : AC) (K : Post),zGr c = some L → EW C GT c K F H → EW C GT c K fr H:=by
 intro c
 induction c with
 | reg L' d ops=>
  intro K h g
  simp only [zGr,Option.some.injEq] at h
  subst h
  replace g : EWops C GT ops [] (zO F L') H (fun fr' H'=>K .normal fr' H'):=g
  rw [← hr] at g
  exact g
 | seq a b iha ihb=>intro K h g; exact iha (zMF (EW C GT b K) K) h g
 | block id L' c ih=>intro K h g; exact ih (zEo id L' K) h g
 | loop L' c ih=>
  intro K h g
  simp only [zGr,Option.some.injEq] at h
  subst h
  replace g : loopP C GT L' c K (zO F L') H:=g
  rw [← hr] at g
  exact g
 | regt L' d ops t=>
  intro K h g
  simp only [zGr,Option.some.injEq] at h
  subst h
  replace g : EWT C GT ops t [] (zO F L') H (fun fr' H'=>K .normal fr' H') (fun x H'=>K (.pan x) [] H'):=g
  rw [← hr] at g
  exact g
 | scope L' l c r ihc ihr=>intro K h g; exact ihc (zGL l (fun fr' H'=>gotoP C GT L' l r K (zO fr' L') H') K) h g
 | label=>intro K h; cases h
 | goto=>intro K h; cases h
 | skip=>intro K h; cases h
 | cond=>intro K h; cases h
 | exit=>intro K h; cases h
 | ret=>intro K h; cases h
 | stuck=>intro K h; cases h
theorem zAo {C : CSpec} {GT : Nat → Option AV} {c : AC} {K : Post} {L : List Nat} {fr F : Fr} {H : Heap} (hc : zGr c = some L) (g : EW C GT c K F H) (hr : zO fr L = zO F L) : zMF (EW C GT c K) K .normal fr H:=
 zMS hr c K hc g
end Go.AM
namespace Go.AM
def zu (k : Nat) : AV:=.int .i64 k
theorem zJ {b k s o : Nat} {v : AV} {cs : List AV} (cs' : List AV) {H : Heap} {K : AV → Heap → Prop} (h : H[b]? = some (.box cs)) (hl : v.cells.length = s) (h1 : v.cells.all AV.one = true) (ho : Nat.ble (o + s) cs.length = true) (he : splice cs o v.cells = cs')
  (q : K .undef (H.set b (.box cs'))) : actP (.store s) [.ref b k 0 o,v] H K:=
 zJz h hl h1 (Nat.le_of_ble_eq_true ho) (by rw [he]; exact q)
theorem zF5.one {v : AV} {k : Nat} {xs : List AV} (h : zF5 v k xs) : v.cells = [v] ∧ v.one = true:=by obtain ⟨q,k',rfl,_⟩:=h; exact ⟨rfl,rfl⟩
theorem Owns.one {H0 H : Heap} {v : AV} {k : Nat} {xs : List AV} (h : Owns H0 H v k xs) : v.cells = [v] ∧ v.one = true:=by
 rcases h with ⟨rfl,_⟩ | ⟨b',rfl,_⟩ <;> exact ⟨rfl,rfl⟩
end Go.AM
namespace Go.AM
def Wk (x x' : AV) : Prop:=∀ (w : World) (M : AMap) (I : Nat → Prop) (n : Nat) (v : Value),Rel w M I n x v → Rel w M I n x' v
theorem Wk.refl (x : AV) : Wk x x:=fun _ _ _ _ _ h=>h
theorem Wk.undef (x : AV) : Wk x .undef:=fun _ _ _ _ _ _=>.undef _
theorem Wk.iface {t : TypeId} {x x' : AV} (h : Wk x x') : Wk (.iface t x) (.iface t x'):=fun w M I n v hr=>by
 cases hr with
 | iface _ _ u hu=>exact .iface t x' u (h w M I n u hu)
def WkL (cs cs' : List AV) : Prop:=cs'.length = cs.length ∧ ∀ (j : Nat) (c c' : AV),cs[j]? = some c → cs'[j]? = some c' → Wk c c'
theorem WkL.refl (cs : List AV) : WkL cs cs:=⟨rfl,fun j c c' h h'=>by rw [h] at h'; cases h'; exact .refl c⟩
theorem WkL.nil : WkL [] []:=.refl []
theorem WkL.cons {x x' : AV} {cs cs' : List AV} (h : Wk x x') (k : WkL cs cs') : WkL (x :: cs) (x' :: cs'):=by
 refine ⟨by simp [k.1],fun j c c' hc hc'=>?_⟩
 cases j with
 | zero=>simp at hc hc'; subst hc hc'; exact h
 | succ j=>exact k.2 j c c' (by simpa using hc) (by simpa using hc')
theorem Wk.agg {cs cs' : List AV} (h : WkL cs cs') : Wk (.agg cs) (.agg cs'):=fun w M I n v hr=>by
 cases hr with
 | agg _ vs hl hv=>
  refine .agg cs' vs (by rw [h.1,hl]) fun i c u hc hu=>?_
  have hi:=(zg hc).1
  have hi2 : i < cs.length:=by rw [← h.1]; exact hi
  exact h.2 i _ c (List.getElem?_eq_getElem hi2) hc w M I n u (hv i _ u (List.getElem?_eq_getElem hi2) hu)
section
variable {GT : Nat → Option AV} {w w0 : World} {M M0 : AMap} {I I0 : Nat → Prop} {H H0 : Heap} {b : Nat} {cs cs' : List AV}
end
theorem zq {b : Bool} {A B : Prop} (h : b = true) (a : A) : condP b A B:=by subst h; exact zE a
theorem zU {b : Bool} {A B : Prop} (h : b = false) (a : B) : condP b A B:=by subst h; exact zD a
theorem zJ2 {H : Heap} {b : Nat} {x : ABlk} (h : b < H.length) : (H.set b x)[b]? = some x:=List.getElem?_set_self h
theorem hP {P : Prop} (h : P:=by first | (with_reducible (repeat' (first | assumption | exact zB | refine zT ?_ | (apply zJ2; exact tC) | refine zI tA ?_)); done) | ((repeat' (first | assumption | exact zB | exact zJ2 tC | refine zT ?_ | refine zI tA ?_)); done)) : P:=h
theorem zIA {H : Heap} {b : Nat} {B : ABlk} (h : H[b]? = some B) : H.set b B = H:=by
 apply List.ext_getElem?
 intro c
 by_cases e : b = c
 ·subst e; rw [List.getElem?_set_self (zg h).1,h]
 ·rw [List.getElem?_set_ne e]
theorem zQ {F : AF} {a s t : Nat} {ag : Bool} {H H1 : Heap} {fr : Fr} {v v1 : AV} {cs : List AV} {o : Nat} (hF : F.results = [.cell a s ag,.tmp t]) (hk : F.keep = false) (hp : zx H1 (zLB fr a) = some (cs,o)) (hpt : part cs o s ag = some v) (ht : zLB fr t = v1)
  (hf : zCk H.length (.tup [v,v1]) H1 = some (.tup [v,v1],H1)) (hb : (AV.tup [v,v1]).bel H.length = true) (ho : Old H H1) : retP F H fr H1 (.tup [v,v1]) H:=by
 refine zAS hk ?_ hf hb ho
 rw [zDh] at hp ht
 simp only [hF,zAh,zHD,hp,hpt,ht,Option.map_some]
 rfl
structure OldB (H : Heap) (b : Nat) (B : ABlk) (H1 : Heap) : Prop where
 lt : b < H.length
 old : Old (H.set b B) H1
theorem OldB.start {H : Heap} {b : Nat} {B : ABlk} (h : H[b]? = some B) : OldB H b B H:=by
 obtain ⟨h1,h2⟩:=zg h
 refine ⟨h1,by rw [List.length_set]; exact Nat.le_refl _,fun c _=>?_⟩
 by_cases e : b = c
 ·subst e; rw [List.getElem?_set_self h1]; exact h
 ·rw [List.getElem?_set_ne e]
theorem OldB.push {H H1 : Heap} {b : Nat} {B : ABlk} (h : OldB H b B H1) (x : List ABlk) : OldB H b B (H1 ++ x):=⟨h.lt,h.old.push x⟩
theorem OldB.set {H H1 : Heap} {b : Nat} {B : ABlk} (h : OldB H b B H1) {c : Nat} (hc : H.length ≤ c) (x : ABlk) : OldB H b B (H1.set c x):=⟨h.lt,h.old.set (by rw [List.length_set]; exact hc) x⟩
theorem OldB.setB {H H1 : Heap} {b : Nat} {B : ABlk} (h : OldB H b B H1) (B' : ABlk) : OldB H b B' (H1.set b B'):=by
 have hl:=h.old.1
 rw [List.length_set] at hl
 refine ⟨h.lt,by rw [List.length_set,List.length_set]; exact hl,fun c hc=>?_⟩
 rw [List.length_set] at hc
 by_cases e : b = c
 ·subst e; rw [List.getElem?_set_self h.lt,List.getElem?_set_self (by have:=h.lt; omega)]
 ·have:=h.old.2 c (by rw [List.length_set]; exact hc)
  rw [List.getElem?_set_ne e] at this
  rw [List.getElem?_set_ne e,List.getElem?_set_ne e,this]
theorem OldB.ok {H H1 : Heap} {b : Nat} {B : ABlk} (h : OldB H b B H1) (hc : zHn H.length B = true) : zKt H H1:=fun c hc'=>by
 have:=h.old.2 c (by rw [List.length_set]; exact hc')
 by_cases e : b = c
 ·subst e
  rw [List.getElem?_set_self hc'] at this
  exact .inr ⟨B,this,hc⟩
 ·rw [List.getElem?_set_ne e] at this
  exact .inl this
theorem OldB.take {H H1 : Heap} {b : Nat} {B : ABlk} (h : OldB H b B H1) : H1.take H.length = H.set b B:=by
 have:=h.old.take
 rwa [List.length_set] at this
structure retR (F : AF) (H : Heap) (fr : Fr) (H1 : Heap) (b : Nat) (r : Option (AV × ABlk)) : Prop where
 h : ∃ v B,r = some (v,B) ∧ zHE F H fr H1 v (H.set b B)
structure panR (F : AF) (H : Heap) (b : Nat) (cs' : List AV) (x' : AV) (r : Option (AV × ABlk)) (x0 : AV) (H1 : Heap) : Prop where
 h : r = none ∧ ∃ x cs,panF F H x0 H1 x (H.set b (.box cs)) ∧ b < H.length ∧ WkL cs cs' ∧ Wk x x'
end Go.AM
