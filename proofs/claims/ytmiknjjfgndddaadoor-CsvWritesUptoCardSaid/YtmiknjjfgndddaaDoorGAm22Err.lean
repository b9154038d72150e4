/- Several texts of mine in one (Am22, Am23, Fn, Fc, Err). Own work. -/
import Derived.Test.YtmiknjjfgndddaaDoorGAm17Am21
import Derived.IntWalk
import Derived.Below
set_option linter.all false
namespace Go.AM
theorem zW {x : Int} {r : Nat} {K : Int → Prop} (h : x = r) (hr : r ≤ 9223372036854775807) (k : K (r : Int)) : valP (IntKind.wrap .i64 x) K:=
  sVal (by rw [IntWalk.i64_in x tO,h]) k
def AV.plain : AV → Bool
  | .sl ..=>false
  | .agg _=>false
  | .tup _=>false
  | .iface _ _=>false
  | .mp _=>false
  | _=>true
theorem zHx {p : AV} {H : Heap} {s o : Nat} {ag : Bool} {cs : List AV} {K : AV → Prop} (r : AV) (hp : zf H p = some (cs,o)) (hr : part cs o s ag = some r) (q : K r) : loadN s ag p H K:=by
  rw [zE8]; unfold zGH
  split
  · simp only [zf,Option.some.injEq,Prod.mk.injEq] at hp
    obtain ⟨rfl,rfl⟩:=hp
    exact zE6 hr q
  · exact zE6 hp (zE6 hr q)
theorem zB7 {x : AV} {H : Heap} {s o : Nat} {ag : Bool} {K : AV → Prop} (r : AV) (hr : part x.cells o s ag = some r) (q : K r) : loadN s ag (.lref x o) H K:=zHx r rfl hr q
theorem zJf {b k i o : Nat} {H : Heap} {xs : List AV} {x : AV} (h : H[b]? = some (.row k xs)) (hx : xs[i]? = some x) : zf H (.ref b k i o) = some (x.cells,o):=by
  simp only [zf,h,if_true,hx,Option.map_some]
theorem zJg {b k o : Nat} {H : Heap} {cs : List AV} (h : H[b]? = some (.box cs)) : zf H (.ref b k 0 o) = some (cs,o):=by
  simp only [zf,h,if_true]
theorem zIy {b k i o s : Nat} {ag : Bool} (j : Nat) {H : Heap} {xs : List AV} (x r : AV) {K : AV → Prop} (hi : i = j) (h : H[b]? = some (.row k xs)) (hx : xs[j]? = some x) (hr : part x.cells o s ag = some r) (q : K r) : loadN s ag (.ref b k i o) H K:=
  zHx r (zJf h (by rw [hi]; exact hx)) hr q
theorem zB8 {b k o s : Nat} {ag : Bool} {H : Heap} {cs : List AV} (r : AV) {K : AV → Prop} (h : H[b]? = some (.box cs)) (hr : part cs o s ag = some r) (q : K r) : loadN s ag (.ref b k 0 o) H K:=
  zHx r (zJg h) hr q
theorem zHy {q : Option Bool} {b k off n : Nat} {K : Int → Prop} (h : K (n : Int)) : lenP (.sl q b k off n) K:=by rw [zEJ]; unfold zHk; exact h
theorem zJ8 {q : Option Bool} {k : Nat} {xs : List AV} {K : Int → Prop} (h : K (xs.length : Int)) : lenP (.lst q k xs) K:=by rw [zEJ]; unfold zHk; exact h
theorem sLenV {v : AV} {H : Heap} {k : Nat} {xs : List AV} {K : Int → Prop} (hv : view H k v = some xs) (q : K (xs.length : Int)) : lenP v K:=by
  unfold view at hv
  split at hv
  · refine zJ8 ?_
    split at hv
    · cases hv; exact q
    · split at hv
      · rename_i h
        simp only [List.isEmpty_iff] at h
        cases hv; rw [h]; exact q
      · cases hv
  · refine zHy ?_
    split at hv
    · split at hv
      · split at hv
        · rename_i hc
          cases hv
          rw [List.length_take,List.length_drop] at q
          rwa [Nat.min_eq_left tO] at q
        · cases hv
      · split at hv
        · rename_i hc
          cases hv
          rw [List.length_take,List.length_drop] at q
          rwa [Nat.min_eq_left tO] at q
        · cases hv
      · cases hv
    · cases hv
  · cases hv
theorem za {v : AV} {H : Heap} {k : Nat} {xs : List AV} {K : Int → Prop} (n : Nat) (hv : view H k v = some xs) (hn : xs.length = n) (q : K (n : Int)) : lenP v K:=sLenV hv (by rw [hn]; exact q)
theorem sIdx {q' : Option Bool} {k i : Nat} {xs : List AV} {n : Int} {x : AV} {K : AV → Prop} (hn : n = (i : Int)) (hx : xs[i]? = some x) (q : K (.lref x 0)) : idxN k (.lst q' k xs) n K:=by
  rw [zEK]; unfold zHl
  exact zA9 rfl (sIdxP hn hx q)
theorem sAt {q' : Option Bool} {b k off len : Nat} {n : Int} {K : AV → Prop} (h : 0 ≤ n ∧ n < (len : Int)) (q : K (.ref b k (off + n.toNat) 0)) : idxN k (.sl q' b k off len) n K:=by
  rw [zEK]; unfold zHl
  exact zA9 ⟨rfl,h⟩ q
theorem zDK : ∀ u : List UInt8,zAg (u.map zA) = some u
  | []=>rfl
  | c :: u=>by simp [zAg,zA,zDK u]
def Old (H0 H : Heap) : Prop:=H0.length ≤ H.length ∧ ∀ c,c < H0.length → H[c]? = H0[c]?
theorem Old.refl (H : Heap) : Old H H:=⟨Nat.le_refl _,fun _ _=>rfl⟩
theorem Old.push {H0 H : Heap} (h : Old H0 H) (x : List ABlk) : Old H0 (H ++ x):=
  ⟨by rw [List.length_append]; have:=h.1; omega,fun c hc=>by rw [List.getElem?_append_left (Nat.lt_of_lt_of_le hc h.1)]; exact h.2 c hc⟩
theorem Old.set {H0 H : Heap} (h : Old H0 H) {b : Nat} (hb : H0.length ≤ b) (x : ABlk) : Old H0 (H.set b x):=
  ⟨by rw [List.length_set]; exact h.1,fun c hc=>by rw [List.getElem?_set_ne tO]; exact h.2 c hc⟩
theorem Old.trans {H0 H1 H2 : Heap} (h : Old H0 H1) (k : Old H1 H2) : Old H0 H2:=
  ⟨Nat.le_trans h.1 k.1,fun c hc=>(k.2 c (Nat.lt_of_lt_of_le hc h.1)).trans (h.2 c hc)⟩
theorem Old.take {H0 H : Heap} (h : Old H0 H) : H.take H0.length = H0:=by
  apply List.ext_getElem?
  intro i
  rw [List.getElem?_take]
  split
  · rename_i hi; exact h.2 i hi
  · rename_i hi; rw [List.getElem?_eq_none tO]
theorem Old.ok {H0 H : Heap} (h : Old H0 H) : zIa H0 H:=fun b hb=>.inl (h.2 b hb)
theorem zn {H : Heap} {x : ABlk} : (H ++ [x])[H.length]? = some x:=by simp
theorem zX {H : Heap} {x : ABlk} {b : Nat} {y : ABlk} (h : H[b]? = some y) : (H ++ [x])[b]? = some y:=by
  rw [List.getElem?_append_left (zg h).1]; exact h
theorem zJM {H : Heap} {b : Nat} {x y : ABlk} (h : H[b]? = some y) : (H.set b x)[b]? = some x:=by
  rw [List.getElem?_set_self (zg h).1]
theorem zh {H : Heap} {b c : Nat} {x y : ABlk} (hn : b ≠ c) (h : H[c]? = some y) : (H.set b x)[c]? = some y:=by
  rw [List.getElem?_set_ne hn]; exact h
abbrev oR (L : List Nat) (ops : List AI) : AC:=.reg L false ops
abbrev oC (t : Nat) (a b : AC) : AC:=.cond (.tmp t) a b
abbrev oA (d : Nat) (z : List AV) : AI:=⟨some d,none,.alloc z,[]⟩
abbrev oE (d : Nat) (o : BinOp) (a : Nat) (n : Int) : AI:=⟨some d,none,.bin o,[.tmp a,.const (.int .i64 n)]⟩
abbrev oX (d : Nat) (o : BinOp) (a b : Nat) : AI:=⟨some d,none,.bin o,[.tmp a,.tmp b]⟩
abbrev oV (d g : Nat) (b : Bool) (a : Nat) : AI:=⟨some d,some (g,b),.mv,[.tmp a]⟩
abbrev oW (d g : Nat) (b : Bool) (k : AK) (a : Nat) : AI:=⟨some d,some (g,b),k,[.tmp a]⟩
abbrev oY (d g : Nat) (b : Bool) (k : AK) (a c : Nat) : AI:=⟨some d,some (g,b),k,[.tmp a,.tmp c]⟩
abbrev oEG (d g : Nat) (b : Bool) (o : BinOp) (a : Nat) (n : Int) : AI:=⟨some d,some (g,b),.bin o,[.tmp a,.const (.int .i64 n)]⟩
abbrev oXG (d g : Nat) (b : Bool) (o : BinOp) (a c : Nat) : AI:=⟨some d,some (g,b),.bin o,[.tmp a,.tmp c]⟩
abbrev oXI (d k a b : Nat) : AI:=⟨some d,none,.idxAddr k,[.tmp a,.tmp b]⟩
abbrev oYI (d g : Nat) (b : Bool) (k a c : Nat) : AI:=⟨some d,some (g,b),.idxAddr k,[.tmp a,.tmp c]⟩
abbrev oLen (d : Nat) (a : Nat) : AI:=⟨some d,none,.len false,[.tmp a]⟩
abbrev oO (d a : Nat) : AI:=⟨some d,none,.load 1 false,[.tmp a]⟩
abbrev oQ (L : List Nat) (ops : List AI) (c : AC) : AC:=.seq (.reg L false ops) c
abbrev oP (d g : Nat) (c : Bool) (b : Nat) : AI:=⟨some d,none,.pick,[.tmp g,.const (.bool c),.tmp b]⟩
abbrev oZ : List AV:=[.int .i64 0,.int .i64 0,.str [],.int .i64 0,.int .i64 0,.bool false,.bool false,.int .i64 0,.int .i64 0,.bool false,.bool false,.lst (some true) 0 []]
abbrev oM (d s : Nat) : AI:=⟨some d,none,.mv,[.tmp s]⟩
abbrev oL (d k : Nat) (b : Bool) (s : Nat) : AI:=⟨some d,none,.load k b,[.tmp s]⟩
abbrev oF (d k s : Nat) : AI:=⟨some d,none,.fieldAddr k,[.tmp s]⟩
abbrev oS (k a b : Nat) : AI:=⟨none,none,.store k,[.tmp a,.tmp b]⟩
abbrev oN (d s : Nat) : AI:=⟨some d,none,.nilchk,[.tmp s]⟩
abbrev oI (d : Nat) (k : AK) (xs : List Opd) : AI:=⟨some d,none,k,xs⟩
abbrev oG (d g : Nat) (b : Bool) (k : AK) (xs : List Opd) : AI:=⟨some d,some (g,b),k,xs⟩
abbrev oT (d : Nat) (k : AK) (s : Nat) : AI:=⟨some d,none,k,[.tmp s]⟩
abbrev oD (d : Nat) (k : AK) (a b : Nat) : AI:=⟨some d,none,k,[.tmp a,.tmp b]⟩
abbrev oK (n : Int) : Opd:=.const (.int .i64 n)
abbrev oB (b : Bool) : Opd:=.const (.bool b)
theorem tA {P : Prop} (h : P:=by first | assumption | exact Nat.le_refl _ | omega | (simp only [List.length_set,List.length_append,List.length_cons,List.length_nil]; omega) | (simp; done) | (simp; omega)) : P:=h
theorem tC {P : Prop} (h : P:=by first | exact Nat.le_refl _ | omega | (simp only [List.length_set,List.length_append,List.length_cons,List.length_nil]; omega) | (simp; done) | (simp; omega)) : P:=h
def AV.blk : AV → Option Nat
  | .sl _ b _ _ _=>some b
  | _=>none
def Owns (H0 H : Heap) (v : AV) (k : Nat) (xs : List AV) : Prop:=
  (v = .lst (some true) 0 [] ∧ xs = []) ∨ ∃ b,v = .sl (some true) b k 0 xs.length ∧ H0.length ≤ b ∧ H[b]? = some (.row k xs) ∧ xs ≠ []
theorem Owns.nil (H0 H : Heap) (k : Nat) : Owns H0 H (.lst (some true) 0 []) k []:=.inl ⟨rfl,rfl⟩
theorem Owns.lt {H0 H : Heap} {v : AV} {k : Nat} {xs : List AV} (h : Owns H0 H v k xs) {b : Nat} (hb : v.blk = some b) : H0.length ≤ b ∧ b < H.length:=by
  rcases h with ⟨rfl,_⟩ | ⟨b',rfl,h1,h2,_⟩
  · cases hb
  · simp only [AV.blk,Option.some.injEq] at hb
    subst hb
    exact ⟨h1,(zg h2).1⟩
theorem Owns.keep {H0 H H' : Heap} {v : AV} {k : Nat} {xs : List AV} (h : Owns H0 H v k xs) (hk : ∀ b x,v.blk = some b → H[b]? = some x → H'[b]? = some x) : Owns H0 H' v k xs:=by
  rcases h with h | ⟨b,rfl,h1,h2,h3⟩
  · exact .inl h
  · exact .inr ⟨b,rfl,h1,hk b _ rfl h2,h3⟩
theorem Owns.push {H0 H : Heap} {v : AV} {k : Nat} {xs : List AV} (h : Owns H0 H v k xs) (x : ABlk) : Owns H0 (H ++ [x]) v k xs:=
  h.keep fun _ _ _ hx=>zX hx
theorem Owns.view {H0 H : Heap} {v : AV} {k : Nat} {xs : List AV} (h : Owns H0 H v k xs) : view H k v = some xs:=by
  rcases h with ⟨rfl,rfl⟩ | ⟨b,rfl,_,h2,_⟩
  · simp [Go.AM.view]
  · simp [Go.AM.view,h2]
theorem zD {H : Heap} {k : Nat} {q : Option Bool} {xs : List AV} : view (H ++ [.row k xs]) k (.sl q H.length k 0 xs.length) = some xs:=by
  simp [Go.AM.view]
theorem zK {k : Nat} {vs vs' : List AV} {H : Heap} {K : AV → Heap → Prop} (hf : zIY 0 vs H = some (vs',H)) (he : vs'.all (fun v=>v.elem k) = true)
    (q : K (.sl (some false) H.length k 0 vs'.length) (H ++ [.row k vs'])) : actP (.bslice k) vs H K:=
  zIV (by simp only [astep,hf]; rw [if_pos he]) q
theorem zN {H0 H : Heap} {v y : AV} {k bytes : Nat} {xs ys : List AV} {K : AV → Heap → Prop} (ho : Owns H0 H v k xs) (hH : Old H0 H) (hy : view H k y = some ys) (hb : bytes ≤ 1024) (hl : xs.length + ys.length ≤ 137438953472) (h0 : ys ≠ [])
    (q : ∀ v' H',Owns H0 H' v' k (xs ++ ys) → Old H0 H' → v'.blk = some H.length → (∀ c x,v.blk ≠ some c → H[c]? = some x → H'[c]? = some x) → K v' H') : actP (.append k bytes) [v,y] H K:=by
  have hm : (xs.length + ys.length) * bytes ≤ 137438953472 * 1024:=Nat.mul_le_mul hl hb
  rcases ho with ⟨rfl,rfl⟩ | ⟨b,rfl,h1,h2,_⟩
  · simp only [List.length_nil,Nat.zero_add] at hl hm
    refine zIV (v:=.sl (some true) H.length k 0 ys.length) (H':=H ++ [.row k ys]) ?_ ?_
    · simp only [astep,hy]
      rw [if_pos ⟨by omega,by omega⟩]
    · exact q _ _ (.inr ⟨_,rfl,hH.1,zn,h0⟩) (hH.push _) rfl fun _ _ _ hx=>zX hx
  · refine zIV (v:=.sl (some true) H.length k 0 (xs.length + ys.length)) (H':=H.set b .dead ++ [.row k (xs ++ ys)]) ?_ ?_
    · simp only [astep,hy,h2]
      rw [if_pos ⟨trivial,trivial,by omega,by omega,by omega⟩]
      simp
    · refine q _ _ (.inr ⟨_,by rw [List.length_append],hH.1, ?_,by simp [h0]⟩) ((hH.set h1 _).push _) rfl fun c x hc hx=>?_
      · have : (H.set b .dead).length = H.length:=List.length_set
        rw [← this]; exact zn
      · exact zX (zh (fun e=>hc (by rw [e]; rfl)) hx)
theorem zHz {H0 H : Heap} {v : AV} {u : List UInt8} {K : AV → Heap → Prop} (ho : Owns H0 H v 1 (u.map zA)) (q : K (.str u) H) : actP .bytesToStr [v] H K:=
  zIV (by simp only [astep,ho.view,zDK,Option.map_some]) q
def zCI (x : AV) (k : Nat) (xs : List AV) : Prop:=∃ q k',x = .lst q k' xs ∧ (k' = k ∨ xs = [])
theorem zCI.view {x : AV} {k : Nat} {xs : List AV} (h : zCI x k xs) (H : Heap) : view H k x = some xs:=by
  obtain ⟨q,k',rfl,rfl | rfl⟩:=h
  · simp [Go.AM.view]
  · simp [Go.AM.view]
theorem zCI.cells {x : AV} {k : Nat} {xs : List AV} (h : zCI x k xs) : x.cells = [x]:=by obtain ⟨q,k',rfl,_⟩:=h; rfl
theorem zEO {v : AV} {k : Nat} {xs : List AV} {n : Int} {K : AV → Prop} (i : Nat) (x : AV) (hv : zCI v k xs) (hn : n = (i : Int)) (hx : xs[i]? = some x) (q : K (.lref x 0)) : idxN k v n K:=by
  obtain ⟨qq,k',rfl,rfl | rfl⟩:=hv
  · exact sIdx hn hx q
  · simp at hx
theorem zAY {v : AV} {k : Nat} {xs : List AV} {K : Int → Prop} (n : Nat) (hv : zCI v k xs) (hn : xs.length = n) (q : K (n : Int)) : lenP v K:=za n (hv.view []) hn q
theorem zH0 {b k s o : Nat} {v : AV} {cs : List AV} {H : Heap} {K : AV → Heap → Prop} (h : H[b]? = some (.box cs)) (hl : v.cells.length = s) (h1 : v.cells.all AV.one = true) (ho : o + s ≤ cs.length)
    (q : K .undef (H.set b (.box (splice cs o v.cells)))) : actP (.store s) [.ref b k 0 o,v] H K:=by
  refine zIV ?_ q
  simp only [astep]
  rw [if_pos ⟨hl,h1⟩,h]
  simp only
  rw [if_pos ⟨trivial,ho⟩]
theorem Owns.set {H0 H : Heap} {v : AV} {k : Nat} {xs : List AV} (h : Owns H0 H v k xs) {c : Nat} (hc : v.blk ≠ some c) (x : ABlk) : Owns H0 (H.set c x) v k xs:=
  h.keep fun b _ hb hx=>zh (fun e=>hc (by rw [e]; exact hb)) hx
theorem Owns.pushSet {H0 H : Heap} {v : AV} {k : Nat} {xs : List AV} (h : Owns H0 H v k xs) (x y : ABlk) : Owns H0 ((H ++ [x]).set H.length y) v k xs:=
  (h.push x).set (fun e=>by have:=(h.lt e).2; omega) y
theorem Old.pushSet {H0 H : Heap} (h : Old H0 H) (x y : ABlk) : Old H0 ((H ++ [x]).set H.length y):=(h.push [x]).set h.1 y
def lstF (k : Nat) : List AV → AV
  | []=>.lst (some true) 0 []
  | x :: xs=>.lst (some false) k (x :: xs)
theorem Owns.frz {H0 H : Heap} {v : AV} {k : Nat} {xs : List AV} (h : Owns H0 H v k xs) (hO : Old H0 H) : ∃ H',zD4 H0.length v H = some (lstF k xs,H') ∧ Old H0 H' ∧ ∀ c x,v.blk ≠ some c → H[c]? = some x → H'[c]? = some x:=by
  rcases h with ⟨rfl,rfl⟩ | ⟨b,rfl,h1,h2,h3⟩
  · exact ⟨H,rfl,hO,fun _ _ _ h=>h⟩
  · refine ⟨H.set b (.frz k xs), ?_,hO.set h1 _,fun c x hc hx=>zh (fun e=>hc (by rw [e]; rfl)) hx⟩
    cases xs with
    | nil=>exact absurd rfl h3
    | cons x xs=>
      simp only [zD4]
      rw [if_neg tO,h2]
      simp [lstF,zJH]
theorem z2 {F : AF} {H H1 : Heap} {fr : Fr} {v : AV} (hk : F.keep = false) (hr : (zAP fr H1 F.results).map tupled = some v) (hf : zD4 H.length v H1 = some (v,H1)) (hb : v.bel H.length = true) (ho : Old H H1) : retP F H fr H1 v H:=by
  refine sRet ?_
  unfold zEl
  cases hs : zAP fr H1 F.results with
  | none=>rw [hs] at hr; cases hr
  | some vs=>
    rw [hs] at hr
    simp only [Option.map_some,Option.some.injEq] at hr
    subst hr
    simp only [hk,hf,Bool.false_eq_true,if_false]
    exact ⟨hb,ho.ok,trivial,ho.take.symm⟩
theorem zJh {F : AF} {H H1 : Heap} {fr : Fr} {v v0 : AV} (he : v = v0) (hk : F.keep = false) (hr : (zAP fr H1 F.results).map tupled = some v0) (hf : zD4 H.length v0 H1 = some (v0,H1)) (hb : v0.bel H.length = true) (ho : Old H H1) : retP F H fr H1 v H:=by
  subst he; exact z2 hk hr hf hb ho
theorem sRr {F : AF} {H : Heap} {fr : Fr} {v : AV} (hk : F.keep = false:=by rfl) (hr : (zAP fr H F.results).map tupled = some v:=by rfl) (hf : zD4 H.length v H = some (v,H):=by rfl) (hb : v.bel H.length = true:=by rfl) : retP F H fr H v H:=z2 hk hr hf hb (Old.refl H)
end Go.AM
namespace Go.AM
open Go.RowKit
theorem zEP {P : Program} {GT : Nat → Option AV} {w : World} {M : AMap} {I : Nat → Prop} {H H' : Heap} {f : FuncId} {fn : Func} {args : List AV} {cargs : List Value} {v : AV}
    (hf : P.funcs[f]? = some fn) (hname : (fn.name == "runtime.NumGoroutine") = false) (hb : fn.body.isSome = true) (hg : Good P GT f args H v H') (hS : Sim GT w M I H) (hA : zAD w M I H.length args cargs) :
    Calls P f cargs.toArray w fun e w'=>∃ v',e = .returned v' ∧ ∃ M' I',Grow w M I H w' M' I' H' ∧ Sim GT w' M' I' H' ∧ Rel w' M' I' H'.length v v':=by
  have h1 : fn.name ≠ "runtime.NumGoroutine" := by simpa using hname
  obtain ⟨c,hb⟩:=Option.isSome_iff_exists.1 hb
  have hrun : (callFunc f cargs.toArray).run P w = .ok (.enter f cargs.toArray) w:=by simp [callFunc,hf,h1,hb]
  have h:=hg.n hA w M I cargs hS hA
  rw [hrun] at h
  exact h
def zCS (w : World) : Nat → Prop:=fun k=>k < w.heap.size
theorem zEQ {w w' : World} {M M' : AMap} {I I' : Nat → Prop} {H' : Heap} (h : Grow w M I [] w' M' I' H') : Below w.heap.size w w':=
  ⟨h.os,h.tape,h.output,h.size,fun k hk=>h.frame k hk (by rintro ⟨b,x,o,hb,_⟩; simp at hb)⟩
theorem zIz (w : World) (M : AMap) (I : Nat → Prop) (n : Nat) : zAD w M I n [] []:=⟨rfl,fun i c v h=>by simp at h⟩
theorem zH1 {w : World} {M : AMap} {I : Nat → Prop} {n : Nat} {x : AV} {v : Value} {xs : List AV} {vs : List Value} (h : Rel w M I n x v) (hs : zAD w M I n xs vs) : zAD w M I n (x :: xs) (v :: vs):=
  ⟨by rw [List.length_cons,List.length_cons,hs.1],fun i c u hc hu=>by
    cases i with
    | zero=>simp only [List.getElem?_cons_zero,Option.some.injEq] at hc hu; subst hc; subst hu; exact h
    | succ i=>simp only [List.getElem?_cons_succ] at hc hu; exact hs.2 i c u hc hu⟩
theorem zJi (w : World) (M : AMap) (I : Nat → Prop) (n : Nat) (s : ByteArray) : Rel w M I n (.str s.data.toList) (.string s):=.str s.data.toList
theorem zBR {w : World} {M : AMap} {I : Nat → Prop} {n : Nat} {s : List UInt8} {v : Value} (h : Rel w M I n (.str s) v) : v = .string ⟨s.toArray⟩:=by cases h; rfl
theorem zCj {w : World} {M : AMap} {I : Nat → Prop} {n : Nat} {k : IntKind} {m : Int} {v : Value} (h : Rel w M I n (.int k m) v) : v = .int k m:=by cases h; rfl
theorem zER {w : World} {M : AMap} {I : Nat → Prop} {n : Nat} {x : AV} {vs : List Value} (h : zAD w M I n [x] vs) : ∃ v,vs = [v] ∧ Rel w M I n x v:=by
  obtain ⟨hl,h⟩:=h
  obtain ⟨v,rfl⟩:=List.length_eq_one_iff.1 hl.symm
  exact ⟨v,rfl,h 0 x v rfl rfl⟩
theorem zGM {w : World} {M : AMap} {I : Nat → Prop} {n : Nat} {x y : AV} {vs : List Value} (h : zAD w M I n [x,y] vs) : ∃ v u,vs = [v,u] ∧ Rel w M I n x v ∧ Rel w M I n y u:=by
  obtain ⟨hl,h⟩:=h
  match vs,hl with
  | [v,u],_=>exact ⟨v,u,rfl,h 0 x v rfl rfl,h 1 y u rfl rfl⟩
theorem zA2 {GT : Nat → Option AV} {w w' : World} {M : AMap} {I : Nat → Prop} {H : Heap} (hS : Sim GT w M I H) (h : Below w.heap.size w w') : Grow w M I H w' M I H ∧ Sim GT w' M I H:=by
  have hb : ∀ k,k < w.heap.size → w'.heap[k]? = w.heap[k]?:=fun k hk=>h.block k hk
  have hs : ∀ g s,w.shape? g = some s → w'.shape? g = some s:=fun g s hg=>by
    have hlt : g < w.heap.size:=by
      unfold World.shape? at hg
      split at hg
      · rename_i e; exact (Array.getElem?_eq_some_iff.1 e).1
      · cases hg
    rw [zT (hb g hlt)]; exact hg
  refine ⟨⟨h.os,h.tape,h.output,h.size,fun _ _=>rfl,fun _ h=>h,fun _ h _=>.inl h,fun k hk _=>hb k hk,fun _ _ h=>h,hs,Nat.le_refl _⟩, ?_⟩
  refine ⟨fun g x hg=>(hS.glob g x hg).mono (fun _ h=>h) (fun k hk=>hb k (hS.idom k hk)) (fun _ _=>rfl) (Nat.le_refl _) hs,fun k hk=>Nat.lt_of_lt_of_le (hS.idom k hk) h.size,fun b x hx=>?_,hS.inj,fun g x hg=>(hS.shp g x hg).imp fun e h=>hs g _ h⟩
  exact (hS.blk b x hx).mono (zg hx).1 (fun _ h=>h) (fun k hk=>hb k (hS.idom k hk)) (fun _ _=>rfl) (Nat.le_refl _) hs (fun g o hM hm=>hb g (hS.live_lt ⟨b,x,o,hx,hm,hM⟩)) (fun _ _ _ _ h=>h)
theorem zA3 {P : Program} {GT : Nat → Option AV} {f : FuncId} {fn : Func} {args : List AV} {H : Heap} {v : AV} (hf : P.funcs[f]? = some fn) (hname : (fn.name == "runtime.NumGoroutine") = false) (hb : fn.body.isSome = true)
    (h : ∀ (w : World) (M : AMap) (I : Nat → Prop) (cargs : List Value),Sim GT w M I H → zAD w M I H.length args cargs → Calls P f cargs.toArray w fun e w'=>∃ v',e = .returned v' ∧ Below w.heap.size w w' ∧ Rel w' M I H.length v v') (hn : zCa args = true:=by first | rfl | exact Go.AM.zBQ (by assumption) | exact Go.AM.zDI (by assumption) | exact Go.AM.zDJ (by assumption)) : Good P GT f args H v H:=by
  refine zC4 hn ?_
  intro w M I cargs hS hA
  have h1 : fn.name ≠ "runtime.NumGoroutine" := by simpa using hname
  obtain ⟨c,hb⟩:=Option.isSome_iff_exists.1 hb
  have hrun : (callFunc f cargs.toArray).run P w = .ok (.enter f cargs.toArray) w:=by simp [callFunc,hf,h1,hb]
  rw [hrun]
  exact (h w M I cargs hS hA).mono fun e w' ⟨v',he,hB,hR⟩=>⟨v',he,M,I,(zA2 hS hB).1,(zA2 hS hB).2,hR⟩
theorem zI0 {w : World} {M : AMap} {I : Nat → Prop} {n : Nat} {a v : Value} (h : Rel w M I n (.raw a) v) : v = a:=by cases h; rfl
theorem zH2 {P : Program} {f : FuncId} {fn : Func} {args : Array Value} {w : World} (hf : P.funcs[f]? = some fn) (hname : (fn.name == "runtime.NumGoroutine") = false) (hb : fn.body.isSome = true) : (callFunc f args).run P w = .ok (.enter f args) w:=by
  have h1 : fn.name ≠ "runtime.NumGoroutine" := by simpa using hname
  obtain ⟨c,hb⟩:=Option.isSome_iff_exists.1 hb
  simp [callFunc,hf,h1,hb]
theorem zFo {GT : Nat → Option AV} {w : World} {M : AMap} {I : Nat → Prop} {H : Heap} (hS : Sim GT w M I H) {b g o : Nat} {c x : AV} {v : Value} (hb : H[b]? = some (.box [c])) (hM : M b = some (g,o)) (hr : ∀ w,Rel w M I H.length x v) :
    Grow w M I H (w.setCell ⟨g,o,none⟩ v) M I (H.set b (.box [x])) ∧ Sim GT (w.setCell ⟨g,o,none⟩ v) M I (H.set b (.box [x])):=by
  obtain ⟨g',o',cur,h1,⟨e,fz,hg,hfz⟩,h3,h4,h5⟩:=hS.blk b _ hb
  rw [hM] at h1
  simp only [Option.some.injEq,Prod.mk.injEq] at h1
  obtain ⟨rfl,rfl⟩:=h1
  have hlt:=(Array.getElem?_eq_some_iff.1 hg).1
  have hh : (w.setCell ⟨g,o,none⟩ v).heap = w.heap.setIfInBounds g (.cells (cur.setIfInBounds o v) e fz):=by
    apply Array.ext_getElem?
    intro i
    simp only [World.setCell,Array.getElem?_modify,Array.getElem?_setIfInBounds]
    by_cases hi : g = i
    · subst hi
      have hg' : w.heap[g] = .cells cur e fz:=(Array.getElem?_eq_some_iff.1 hg).2
      simp [hlt,hg']
    · simp [hi]
  refine Sim.write hS hb rfl hM hg (by simp) hh rfl rfl rfl ⟨g,o,cur.setIfInBounds o v,hM,⟨e,fz, ?_, ?_⟩,h3, ?_,fun j c' hj=>?_⟩
  · rw [hh,Array.getElem?_setIfInBounds,if_pos rfl,if_pos hlt]
  · simpa using hfz
  · simpa using h4
  · cases j with
    | zero=>
      simp only [List.getElem?_cons_zero,Option.some.injEq] at hj
      subst hj
      refine ⟨v, ?_,hr _⟩
      simp only [List.length_cons,List.length_nil] at h4
      rw [Nat.add_zero,Array.getElem?_setIfInBounds,if_pos rfl,if_pos tO]
    | succ j=>simp at hj
end Go.AM
namespace Go.AM
abbrev zBk : Nat:=5
abbrev zAZ : Nat:=4
abbrev zA4 : Nat:=8
abbrev zo : Nat:=9
abbrev zI : Nat:=10
abbrev zw : Nat:=11
abbrev zm : Nat:=12
abbrev zP : Nat:=13
abbrev zY : Nat:=14
abbrev zQ : Nat:=15
abbrev zAB : Nat:=17
abbrev zJ : Nat:=18
abbrev zBl : Nat:=22
abbrev zE : Nat:=39
abbrev zAK : Nat:=40
abbrev zBJ : Nat:=54
abbrev z7 : Nat:=5
end Go.AM
namespace Go.AM
def zBm : AC:=.seq ( .reg [0] false [oI 2 .mv [oB false]]) ( .seq ( .reg [0] false [oM 9 0,oT 10 (.call zA4 true) 9,oM 8 10,oT 11
 (.extract 0) 8,oT 12 (.extract 1) 8,oM 3 11,oM 4 12]) ( .seq ( .reg [3,4,0] false [oM 14 0,oT 15 (.call zBk true) 14,oM 13 15,oT 16 (.extract 0)
 13,oT 17 (.extract 1) 13,oM 5 16,oM 6 17]) ( .seq ( .reg [3,5,4,6] false [oM 18 6,oM 19 4,oD 20 (.call zo true) 18 19,oM 7 20]) ( .seq (
 .reg [3,5,7] false [oM 21 7,oM 22 21,oG 23 22 true .mv [.tmp 5],oG 24 22 true .mv [.tmp 3],oG 25 22 true (.bin .eql) [.tmp 23,.tmp 24],oI 26 .pick [.tmp
 22,.tmp 25,oB false],oM 2 26]) ( .ret)))))
def zAa : AF:={ results:=[.tmp 2],body:=zBm }
def zES : AC:=.seq ( .reg [11,4,0,12,13] false [oD 14 (.bin .lss) 13 12]) ( .seq ( .cond (.tmp 14) ( .skip) ( .exit 0)) ( .seq ( .block 1 [11,4,
 0,12,13] ( .seq ( .reg [11,4,0,12,13] false [oD 15 (.idxAddr 1) 11 13,oL 16 1 false 15,oM 6 16]) ( .seq ( .reg [11,4,0,12,13,6] false [oM 17 6,oT
 18 (.len false) 17,oI 19 (.bin .eql) [.tmp 18,oK 0]]) ( .cond (.tmp 19) ( .seq ( .reg [] false [oI 20 (.mkIface zAK) [oK 3],oI 2 .mv [.const (.str
 [])],oM 3 20]) ( .ret)) ( .skip))))) ( .reg [11,4,0,12,13] false [oI 21 (.bin .add) [.tmp 13,oK 1],oM 13 21])))
def zET : AC:=.seq ( .reg [4,8,28,22,23,24,29,30] false [oD 31 (.bin .lss) 30 29]) ( .seq ( .cond (.tmp 31) ( .skip) ( .exit 4)) ( .seq (
 .block 5 [4,8,28,22,23,24,29,30] ( .seq ( .reg [4,8,28,22,23,24,29,30] false [oM 32 30,oD 33 (.idxAddr 1) 28 30,oL 34 1 false 33,oM 9 32,oM 10
 34]) ( .seq ( .seq ( .reg [4,8,28,22,23,24,29,30,10,9] false [oM 35 9,oI 36 (.bin .gtr) [.tmp 35,oK 0]]) ( .cond (.tmp 36) ( .reg [4,8,28,22,23,
 24,29,30,10] false [oI 37 (.call zI false) [.tmp 4,.const (.int .u8 44)]]) ( .skip))) ( .seq ( .seq ( .reg [4,8,28,22,23,24,
 29,30,10] false [oM 38 10,oI 39 (.bin .eql) [.tmp 38,.const (.str [])],oM 40 39,oG 41 40 true .mv [.tmp 8],oG 42 40 true (.len false) [.tmp 41],oG 43 40
 true (.bin .eql) [.tmp 42,oK 1],oI 44 .pick [.tmp 40,.tmp 43,oB false],oM 45 44,oG 46 45 false .mv [.tmp 10],oG 47 45 false (.call zw
 true) [.tmp 46,.const (.str [44,34,10,13])],oI 48 .pick [.tmp 45,oB true,.tmp 47]]) ( .cond (.tmp 48) ( .reg [4,8,28,22,23,24,29,30,10] false [oM
 49 10,oI 50 (.call zm true) [.tmp 49,.const (.str [34]),.const (.str [34,34])],oI 51 (.bin .add) [.const (.str [34]),.tmp 50],oI 52
 (.bin .add) [.tmp 51,.const (.str [34])],oM 10 52]) ( .skip))) ( .seq ( .reg [4,8,28,22,23,24,29,30,10] false [oM 53 10,oD 54 (.call
 zP false) 4 53]) ( .seq ( .reg [4,8,28,22,23,24,29,30] false [oT 55 (.call zY true) 4,oI 56 (.bin
 .gtr) [.tmp 55,oK 4000]]) ( .cond (.tmp 56) ( .seq ( .reg [] false [oI 57 (.mkIface zAK) [oK 4],oI 2 .mv [.const (.str [])],oM 3 57]) ( .ret)) (
 .skip)))))))) ( .reg [4,8,28,22,23,24,29,30] false [oI 58 (.bin .add) [.tmp 30,oK 1],oM 30 58])))
def zEU : AC:=.seq ( .reg [4,22,23,24] false [oD 25 (.bin .lss) 24 23]) ( .seq ( .cond (.tmp 25) ( .skip) ( .exit 2)) ( .seq ( .block 3 [4,22,
 23,24] ( .seq ( .reg [4,22,23,24] false [oD 26 (.idxAddr 1) 22 24,oL 27 1 false 26,oM 8 27]) ( .seq ( .seq ( .reg [4,8,22,23,24] false [oM 28 8,oT 29
 (.len false) 28,oI 30 .mv [oK 0]]) ( .block 4 [4,22,23,24] ( .loop [30,4,8,28,22,23,24,29] zET))) ( .reg [4,22,23,24] false [oI 59 (.call
 zI false) [.tmp 4,.const (.int .u8 10)]])))) ( .reg [4,22,23,24] false [oI 60 (.bin .add) [.tmp 24,oK 1],oM 24 60])))
def zDL : AC:=.seq ( .reg [0] false [oI 2 .mv [.const (.str [])],oI 3 .mv [.const (.nili)]]) ( .seq ( .reg [0] false [⟨some 4,none,.allocT
 zE [.nilp,.lst (some true) 0 []],[]⟩]) ( .seq ( .seq ( .reg [4,0] false [oM 11 0,oT 12 (.len false) 11,oI 13 .mv [oK 0]]) ( .block 0 [4,0] (
 .loop [13,11,4,0,12] zES))) ( .seq ( .seq ( .reg [4,0] false [oM 22 0,oT 23 (.len false) 22,oI 24 .mv [oK 0]]) ( .block 2 [4] ( .loop [4,24,
 22,23] zEU))) ( .seq ( .seq ( .reg [4] false [oT 61 (.call zY true) 4,oI 62 (.bin .gtr) [.tmp 61,oK 4000]]) ( .cond (.tmp 62)
 ( .seq ( .reg [] false [oI 63 (.mkIface zAK) [oK 4],oI 2 .mv [.const (.str [])],oM 3 63]) ( .ret)) ( .skip))) ( .seq ( .reg [4] false [oT 64 (.call
 zQ false) 4,oM 2 64,oI 3 .mv [.const (.nili)]]) ( .ret))))))
def zBn : AF:={ results:=[.tmp 2,.tmp 3],body:=zDL }
def zDM : AC:=.seq ( .seq ( .reg [0,4,5] false [oM 12 5,oM 13 0,oT 14 (.len false) 13,oD 15 (.bin .lss) 12 14]) ( .cond (.tmp 15) ( .skip) (
 .exit 0))) ( .seq ( .block 1 [0,4,5] ( .seq ( .reg [0,4,5] false [oM 18 0,oM 19 5,oD 20 (.idxAddr 1) 18 19,oL 21 1 false 20,oT 22 (.len false) 21,oI 23
 (.bin .eql) [.tmp 22,oK 0]]) ( .cond (.tmp 23) ( .seq ( .reg [] false [oI 2 .mv [.const (.str [])],oI 3 .mv [oK 3]]) ( .ret)) ( .skip)))) ( .reg [0,4,5]
 false [oM 16 5,oI 17 (.bin .add) [.tmp 16,oK 1],oM 5 17]))
def zDN : AC:=.seq ( .seq ( .reg [8,6,0,7,4,10,9] false [oM 61 10,oM 62 8,oT 63 (.len true) 62,oD 64 (.bin .lss) 61 63]) ( .cond (.tmp 64)
 ( .skip) ( .exit 6))) ( .seq ( .block 7 [8,6,0,7,9,4,10] ( .seq ( .reg [8,6,0,7,4,10,9] false [oM 67 8,oM 68 10,oD 69 .idxStr 67 68,oI 70 (.bin
 .eql) [.tmp 69,.const (.int .u8 44)],oM 71 70,oG 72 71 false .mv [.tmp 8],oG 73 71 false .mv [.tmp 10],oG 74 71 false .idxStr [.tmp 72,.tmp 73],oG 75 71
 false (.bin .eql) [.tmp 74,.const (.int .u8 34)],oI 76 .pick [.tmp 71,oB true,.tmp 75],oM 77 76,oG 78 77 false .mv [.tmp 8],oG 79 77 false .mv [.tmp 10],
 oG 80 77 false .idxStr [.tmp 78,.tmp 79],oG 81 77 false (.bin .eql) [.tmp 80,.const (.int .u8 10)],oI 82 .pick [.tmp 77,oB true,.tmp 81],oM 83 82,oG 84
 83 false .mv [.tmp 8],oG 85 83 false .mv [.tmp 10],oG 86 83 false .idxStr [.tmp 84,.tmp 85],oG 87 83 false (.bin .eql) [.tmp 86,.const (.int .u8 13)],oI 88
 .pick [.tmp 83,oB true,.tmp 87]]) ( .cond (.tmp 88) ( .reg [8,6,0,7,4,10] false [oI 9 .mv [oB true]]) ( .skip)))) ( .reg [8,6,0,7,9,4,10] false [oM
 65 10,oI 66 (.bin .add) [.tmp 65,oK 1],oM 10 66]))
def zDO : AC:=.seq ( .seq ( .reg [8,6,0,7,9,11,4] false [oM 93 11,oM 94 8,oT 95 (.len true) 94,oD 96 (.bin .lss) 93 95,oM 97 96,oG 98 97
 true .mv [.tmp 4],oG 99 97 true (.len false) [.tmp 98],oG 100 97 true (.bin .leq) [.tmp 99,oK 4000],oI 101 .pick [.tmp 97,.tmp 100,oB false]]) ( .cond
 (.tmp 101) ( .skip) ( .exit 8))) ( .seq ( .block 9 [8,4,6,0,7,9,11] ( .seq ( .reg [8,6,0,7,9,11,4] false [oM 104 4,oM 105 8,oM 106 11,oD 107
 .idxStr 105 106,oT 108 (.bslice 1) 107,oD 109 (.append 1 1) 104 108,oM 4 109]) ( .seq ( .reg [8,6,0,7,9,11,4] false [oM 110 8,oM 111 11,oD 112 .idxStr
 110 111,oI 113 (.bin .eql) [.tmp 112,.const (.int .u8 34)]]) ( .cond (.tmp 113) ( .reg [8,6,0,7,9,11,4] false [oM 114 4,oI 115 (.bslice 1) [.const (.int
 .u8 34)],oD 116 (.append 1 1) 114 115,oM 4 116]) ( .skip))))) ( .reg [8,4,6,0,7,9,11] false [oM 102 11,oI 103 (.bin .add) [.tmp 102,oK 1],oM 11 103]))
def zDP : AC:=.seq ( .seq ( .reg [6,0,7,4] false [oM 30 7,oM 31 0,oM 32 6,oD 33 (.idxAddr 1) 31 32,oL 34 1 false 33,oT 35 (.len false) 34,
 oD 36 (.bin .lss) 30 35]) ( .cond (.tmp 36) ( .skip) ( .exit 4))) ( .seq ( .block 5 [6,0,4,7] ( .seq ( .reg [6,0,7,4] false [oM 39 0,oM 40 6,oD 41
 (.idxAddr 1) 39 40,oL 42 1 false 41,oM 43 7,oD 44 (.idxAddr 1) 42 43,oL 45 1 false 44,oM 8 45]) ( .seq ( .seq ( .reg [8,6,0,7,4] false [oM 46 7,oI 47
 (.bin .gtr) [.tmp 46,oK 0]]) ( .cond (.tmp 47) ( .reg [8,6,0,7,4] false [oM 48 4,oI 49 (.bslice 1) [.const (.int .u8 44)],oD 50 (.append 1 1) 48 49,oM 4
 50]) ( .skip))) ( .seq ( .reg [8,6,0,7,4] false [oM 51 8,oI 52 (.bin .eql) [.tmp 51,.const (.str [])],oM 53 52,oG 54 53 true .mv [.tmp 0],oG 55 53 true
 .mv [.tmp 6],oG 56 53 true (.idxAddr 1) [.tmp 54,.tmp 55],oG 57 53 true (.load 1 false) [.tmp 56],oG 58 53 true (.len false) [.tmp 57],oG 59 53 true (.bin
 .eql) [.tmp 58,oK 1],oI 60 .pick [.tmp 53,.tmp 59,oB false],oM 9 60]) ( .seq ( .seq ( .reg [8,6,0,7,9,4] false [oI 10 .mv [oK 0]]) ( .block 6 [8,6,0,
 7,9,4] ( .loop [10,8,6,0,7,9,4] zDN))) ( .seq ( .seq ( .reg [8,6,0,7,9,4] false [oM 89 9]) ( .cond (.tmp 89) ( .reg [8,6,0,7,9,4]
 false [oM 90 4,oI 91 (.bslice 1) [.const (.int .u8 34)],oD 92 (.append 1 1) 90 91,oM 4 92]) ( .skip))) ( .seq ( .seq ( .reg [8,4,6,0,7,9] false [oI 11
 .mv [oK 0]]) ( .block 8 [6,0,7,4,9] ( .loop [11,8,4,6,0,7,9] zDO))) ( .seq ( .seq ( .reg [6,0,7,4,9] false [oM 117 9]) ( .cond (.tmp
 117) ( .reg [6,0,7,4] false [oM 118 4,oI 119 (.bslice 1) [.const (.int .u8 34)],oD 120 (.append 1 1) 118 119,oM 4 120]) ( .skip))) ( .seq ( .reg [6,0,4,
 7] false [oM 121 4,oT 122 (.len false) 121,oI 123 (.bin .gtr) [.tmp 122,oK 4000]]) ( .cond (.tmp 123) ( .seq ( .reg [] false [oI 2 .mv [.const (.str [])],oI
 3 .mv [oK 4]]) ( .ret)) ( .skip))))))))))) ( .reg [6,0,4,7] false [oM 37 7,oI 38 (.bin .add) [.tmp 37,oK 1],oM 7 38]))
def zDQ : AC:=.seq ( .seq ( .reg [6,0,4] false [oM 24 6,oM 25 0,oT 26 (.len false) 25,oD 27 (.bin .lss) 24 26]) ( .cond (.tmp 27) ( .skip) (
 .exit 2))) ( .seq ( .block 3 [0,4,6] ( .seq ( .seq ( .reg [6,0,4] false [oI 7 .mv [oK 0]]) ( .block 4 [0,6,4] ( .loop [7,6,0,4] zDP))) (
 .reg [0,6,4] false [oM 124 4,oI 125 (.bslice 1) [.const (.int .u8 10)],oD 126 (.append 1 1) 124 125,oM 4 126]))) ( .reg [0,4,6] false [oM 28 6,oI 29
 (.bin .add) [.tmp 28,oK 1],oM 6 29]))
def zB9 : AC:=.seq ( .reg [0] false [oI 2 .mv [.const (.str [])],oI 3 .mv [oK 0]]) ( .seq ( .reg [0] false [oI 4 .mv [.const (.lst (some true) 0
 [])]]) ( .seq ( .seq ( .reg [0,4] false [oI 5 .mv [oK 0]]) ( .block 0 [0,4] ( .loop [5,0,4] zDM))) ( .seq ( .seq ( .reg [0,4] false [oI 6 .mv
 [oK 0]]) ( .block 2 [4] ( .loop [6,0,4] zDQ))) ( .seq ( .seq ( .reg [4] false [oM 127 4,oT 128 (.len false) 127,oI 129 (.bin .gtr) [.tmp 128,oK
 4000]]) ( .cond (.tmp 129) ( .seq ( .reg [] false [oI 2 .mv [.const (.str [])],oI 3 .mv [oK 4]]) ( .ret)) ( .skip))) ( .seq ( .reg [4] false [oM 130 4,oT 131
 .bytesToStr 130,oM 2 131,oI 3 .mv [oK 0]]) ( .ret))))))
def zA5 : AF:={ results:=[.tmp 2,.tmp 3],body:=zB9 }
def zDR : AC:=.seq ( .reg [1,0] false [oI 4 .mv [oB false]]) ( .seq ( .reg [1,0] false [oM 6 0,oT 7 (.call zAB true) 6,oM 5 7]) ( .seq
 ( .reg [1,5] false [oM 8 5,oM 9 1,oD 10 (.bin .eql) 8 9,oM 4 10]) ( .ret)))
def zBK : AF:={ results:=[.tmp 4],body:=zDR }
def zAN : AC:=.seq ( .reg [1,0] false [oI 4 .mv [.const (.nili)]]) ( .seq ( .reg [1,0] false [oM 5 0,oT 6 (.call
 zJ false) 5]) ( .seq ( .reg [1,0] false [oM 7 0,oM 8 0,oN 9 8,oF 10 1 9,oL 11 1 false 10,oM 12 1,oT 13 (.bslice 1) 12,oD 14
 (.appT z7 false) 11 13,oN 15 7,oF 16 1 15,oS 1 16 14]) ( .seq ( .reg [] false [oI 4 .mv [.const (.nili)]]) ( .ret))))
def zr : AF:={ results:=[.tmp 4],body:=zAN }
def zAG : AC:=.seq ( .reg [1,0] false [oI 4 .mv [oK 0],oI 5 .mv [.const (.nili)]]) ( .seq ( .reg [1,0] false [oM 6 0,oT 7
 (.call zJ false) 6]) ( .seq ( .reg [1,0] false [oM 8 0,oM 9 0,oN 10 9,oF 11 1 10,oL 12 1 false 11,oM 13 1,oD 14 (.appT z7 true) 12
 13,oN 15 8,oF 16 1 15,oS 1 16 14]) ( .seq ( .reg [1] false [oM 17 1,oT 18 (.len true) 17,oM 4 18,oI 5 .mv [.const (.nili)]]) ( .ret))))
def zl : AF:={ results:=[.tmp 4,.tmp 5],body:=zAG }
def zAt : AC:=.seq ( .reg [0] false [oI 2 .mv [oK 0]]) ( .seq ( .reg [0] false [oM 3 0,oN 4 3,oF 5 1 4,oL 6 1 false 5,oT 7 (.len
 false) 6,oM 2 7]) ( .ret))
def zAC : AF:={ results:=[.tmp 2],body:=zAt }
def zFH : AC:=.seq ( .reg [0] false [oI 2 .mv [oK 0]]) ( .seq ( .seq ( .reg [0] false [oM 4 0,oI 5 (.eqn .iface false true) [.tmp 4,.const
 (.nili)]]) ( .cond (.tmp 5) ( .seq ( .reg [] false [oI 2 .mv [oK 0]]) ( .ret)) ( .skip))) ( .seq ( .reg [0] false [⟨some 3,none,.alloc [.int .i64 0],[]⟩]) (
 .seq ( .seq ( .reg [3,0] false [oM 6 0,oT 7 (.mkIface zBJ) 3,oD 8 (.call zBl false) 6 7]) ( .cond (.tmp 8) ( .seq ( .reg [3] false [oL 9 1
 false 3,oM 2 9]) ( .ret)) ( .skip))) ( .seq ( .reg [] false [oI 2 .mv [oK (-1)]]) ( .ret)))))
def zBL : AF:={ results:=[.tmp 2],body:=zFH }
end Go.AM
namespace Go.AM
def zH3 (n : Int) : AV:=.iface zAK (.int .i64 n)
def ErrIs (x : AV) (n : Int) : Prop:=(x = .nili ∧ n = 0) ∨ x = zH3 n
end Go.AM
