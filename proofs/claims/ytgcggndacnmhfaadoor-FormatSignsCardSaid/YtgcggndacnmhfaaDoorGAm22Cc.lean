/- Several texts of mine in one (Am22, Am23, Cn, Cc). Own work. -/
import Derived.Test.YtgcggndacnmhfaaDoorGAm17Am21
import Derived.IntWalk
import Derived.Below
set_option linter.all false
namespace Go.AM
theorem zBq {x : Int} {r : Nat} {K : Int → Prop} (h : x = r) (hr : r ≤ 9223372036854775807) (k : K (r : Int)) : valP (IntKind.wrap .i64 x) K:=
  zFZ (by rw [IntWalk.i64_in x tO,h]) k
def AV.plain : AV → Bool
  | .sl ..=>false
  | .agg _=>false
  | .tup _=>false
  | .iface _ _=>false
  | .mp _=>false
  | _=>true
theorem zKg {p : AV} {H : Heap} {s o : Nat} {ag : Bool} {cs : List AV} {K : AV → Prop} (r : AV) (hp : ze H p = some (cs,o)) (hr : part cs o s ag = some r) (q : K r) : loadN s ag p H K:=by
  rw [zFx]; unfold zG8
  split
  · simp only [ze,Option.some.injEq,Prod.mk.injEq] at hp
    obtain ⟨rfl,rfl⟩:=hp
    exact zR hr q
  · exact zR hp (zR hr q)
theorem zLm {x : AV} {H : Heap} {s o : Nat} {ag : Bool} {K : AV → Prop} (r : AV) (hr : part x.cells o s ag = some r) (q : K r) : loadN s ag (.lref x o) H K:=zKg r rfl hr q
theorem zAK {b k o : Nat} {H : Heap} {cs : List AV} (h : H[b]? = some (.box cs)) : ze H (.ref b k 0 o) = some (cs,o):=by
  simp only [ze,h,if_true]
theorem zA {b k o s : Nat} {ag : Bool} {H : Heap} {cs : List AV} (r : AV) {K : AV → Prop} (h : H[b]? = some (.box cs)) (hr : part cs o s ag = some r) (q : K r) : loadN s ag (.ref b k 0 o) H K:=
  zKg r (zAK h) hr q
def zH0 (n : Nat) (f : Nat → AV) : List AV:=(List.range n).map f
def upd {α : Type} (f : Nat → α) (i : Nat) (v : α) : Nat → α:=fun j=>if j = i then v else f j
theorem zJx (n : Nat) (f : Nat → AV) : (zH0 n f).length = n:=by simp [zH0]
theorem zJy {n i : Nat} {f : Nat → AV} (h : i < n) : (zH0 n f)[i]? = some (f i):=by simp [zH0,h]
theorem zJz {n i : Nat} {f : Nat → AV} {v : AV} : (zH0 n f).set i v = zH0 n (upd f i v):=by
  apply List.ext_getElem?
  intro j
  simp only [zH0,List.getElem?_set,List.getElem?_map,List.length_map,List.length_range]
  by_cases hj : j < n
  · rw [List.getElem?_range hj]
    by_cases e : i = j
    · subst e; simp [hj,upd]
    · simp [e,upd,Ne.symm e]
  · rw [List.getElem?_eq_none (l:=List.range n) (by simpa using hj)]
    simp only [Option.map_none,ite_eq_right_iff]
    intro e; subst e; simp [hj]
theorem zH1 {n : Nat} {f g : Nat → AV} (h : ∀ i,i < n → f i = g i) : zH0 n f = zH0 n g:=by
  unfold zH0
  exact List.map_congr_left fun i hi=>h i (List.mem_range.1 hi)
def fB (f : Nat → Bool) : Nat → AV:=fun j=>.bool (f j)
theorem zDw : ∀ u : List UInt8,zA2 (u.map zO) = some u
  | []=>rfl
  | c :: u=>by simp [zA2,zO,zDw u]
def Old (H0 H : Heap) : Prop:=H0.length ≤ H.length ∧ ∀ c,c < H0.length → H[c]? = H0[c]?
theorem Old.refl (H : Heap) : Old H H:=⟨Nat.le_refl _,fun _ _=>rfl⟩
theorem Old.push {H0 H : Heap} (h : Old H0 H) (x : List ABlk) : Old H0 (H ++ x):=
  ⟨by rw [List.length_append]; have:=h.1; omega,fun c hc=>by rw [List.getElem?_append_left (Nat.lt_of_lt_of_le hc h.1)]; exact h.2 c hc⟩
theorem Old.set {H0 H : Heap} (h : Old H0 H) {b : Nat} (hb : H0.length ≤ b) (x : ABlk) : Old H0 (H.set b x):=
  ⟨by rw [List.length_set]; exact h.1,fun c hc=>by rw [List.getElem?_set_ne tO]; exact h.2 c hc⟩
theorem Old.trans {H0 H1 H2 : Heap} (h : Old H0 H1) (k : Old H1 H2) : Old H0 H2:=
  ⟨Nat.le_trans h.1 k.1,fun c hc=>(k.2 c (Nat.lt_of_lt_of_le hc h.1)).trans (h.2 c hc)⟩
theorem Old.take {H0 H : Heap} (h : Old H0 H) : H.take H0.length = H0:=by
  apply List.ext_getElem?
  intro i
  rw [List.getElem?_take]
  split
  · rename_i hi; exact h.2 i hi
  · rename_i hi; rw [List.getElem?_eq_none tO]
theorem Old.ok {H0 H : Heap} (h : Old H0 H) : zJW H0 H:=fun b hb=>.inl (h.2 b hb)
theorem zF {H : Heap} {x : ABlk} : (H ++ [x])[H.length]? = some x:=by simp
theorem zAL {H : Heap} {x : ABlk} {b : Nat} {y : ABlk} (h : H[b]? = some y) : (H ++ [x])[b]? = some y:=by
  rw [List.getElem?_append_left (zg h).1]; exact h
theorem zC {H : Heap} {b : Nat} {x y : ABlk} (h : H[b]? = some y) : (H.set b x)[b]? = some x:=by
  rw [List.getElem?_set_self (zg h).1]
theorem zw {H : Heap} {b c : Nat} {x y : ABlk} (hn : b ≠ c) (h : H[c]? = some y) : (H.set b x)[c]? = some y:=by
  rw [List.getElem?_set_ne hn]; exact h
abbrev oR (L : List Nat) (ops : List AI) : AC:=.reg L false ops
abbrev oC (t : Nat) (a b : AC) : AC:=.cond (.tmp t) a b
abbrev oA (d : Nat) (z : List AV) : AI:=⟨some d,none,.alloc z,[]⟩
abbrev oE (d : Nat) (o : BinOp) (a : Nat) (n : Int) : AI:=⟨some d,none,.bin o,[.tmp a,.const (.int .i64 n)]⟩
abbrev oX (d : Nat) (o : BinOp) (a b : Nat) : AI:=⟨some d,none,.bin o,[.tmp a,.tmp b]⟩
abbrev oV (d g : Nat) (b : Bool) (a : Nat) : AI:=⟨some d,some (g,b),.mv,[.tmp a]⟩
abbrev oW (d g : Nat) (b : Bool) (k : AK) (a : Nat) : AI:=⟨some d,some (g,b),k,[.tmp a]⟩
abbrev oY (d g : Nat) (b : Bool) (k : AK) (a c : Nat) : AI:=⟨some d,some (g,b),k,[.tmp a,.tmp c]⟩
abbrev oEG (d g : Nat) (b : Bool) (o : BinOp) (a : Nat) (n : Int) : AI:=⟨some d,some (g,b),.bin o,[.tmp a,.const (.int .i64 n)]⟩
abbrev oXG (d g : Nat) (b : Bool) (o : BinOp) (a c : Nat) : AI:=⟨some d,some (g,b),.bin o,[.tmp a,.tmp c]⟩
abbrev oXI (d k a b : Nat) : AI:=⟨some d,none,.idxAddr k,[.tmp a,.tmp b]⟩
abbrev oYI (d g : Nat) (b : Bool) (k a c : Nat) : AI:=⟨some d,some (g,b),.idxAddr k,[.tmp a,.tmp c]⟩
abbrev oLen (d : Nat) (a : Nat) : AI:=⟨some d,none,.len false,[.tmp a]⟩
abbrev oO (d a : Nat) : AI:=⟨some d,none,.load 1 false,[.tmp a]⟩
abbrev oQ (L : List Nat) (ops : List AI) (c : AC) : AC:=.seq (.reg L false ops) c
abbrev oP (d g : Nat) (c : Bool) (b : Nat) : AI:=⟨some d,none,.pick,[.tmp g,.const (.bool c),.tmp b]⟩
abbrev oZ : List AV:=[.int .i64 0,.int .i64 0,.str [],.int .i64 0,.int .i64 0,.bool false,.bool false,.int .i64 0,.int .i64 0,.bool false,.bool false,.lst (some true) 0 []]
abbrev oM (d s : Nat) : AI:=⟨some d,none,.mv,[.tmp s]⟩
abbrev oL (d k : Nat) (b : Bool) (s : Nat) : AI:=⟨some d,none,.load k b,[.tmp s]⟩
abbrev oF (d k s : Nat) : AI:=⟨some d,none,.fieldAddr k,[.tmp s]⟩
abbrev oS (k a b : Nat) : AI:=⟨none,none,.store k,[.tmp a,.tmp b]⟩
abbrev oN (d s : Nat) : AI:=⟨some d,none,.nilchk,[.tmp s]⟩
abbrev oI (d : Nat) (k : AK) (xs : List Opd) : AI:=⟨some d,none,k,xs⟩
abbrev oJ (k : AK) (xs : List Opd) : AI:=⟨none,none,k,xs⟩
abbrev oG (d g : Nat) (b : Bool) (k : AK) (xs : List Opd) : AI:=⟨some d,some (g,b),k,xs⟩
abbrev oT (d : Nat) (k : AK) (s : Nat) : AI:=⟨some d,none,k,[.tmp s]⟩
abbrev oD (d : Nat) (k : AK) (a b : Nat) : AI:=⟨some d,none,k,[.tmp a,.tmp b]⟩
abbrev oK (n : Int) : Opd:=.const (.int .i64 n)
abbrev oB (b : Bool) : Opd:=.const (.bool b)
theorem tA {P : Prop} (h : P:=by first | assumption | exact Nat.le_refl _ | omega | (simp only [List.length_set,List.length_append,List.length_cons,List.length_nil]; omega) | (simp; done) | (simp; omega)) : P:=h
theorem tC {P : Prop} (h : P:=by first | exact Nat.le_refl _ | omega | (simp only [List.length_set,List.length_append,List.length_cons,List.length_nil]; omega) | (simp; done) | (simp; omega)) : P:=h
def AV.blk : AV → Option Nat
  | .sl _ b _ _ _=>some b
  | _=>none
def Owns (H0 H : Heap) (v : AV) (k : Nat) (xs : List AV) : Prop:=
  (v = .lst (some true) 0 [] ∧ xs = []) ∨ ∃ b,v = .sl (some true) b k 0 xs.length ∧ H0.length ≤ b ∧ H[b]? = some (.row k xs) ∧ xs ≠ []
theorem Owns.nil (H0 H : Heap) (k : Nat) : Owns H0 H (.lst (some true) 0 []) k []:=.inl ⟨rfl,rfl⟩
theorem Owns.lt {H0 H : Heap} {v : AV} {k : Nat} {xs : List AV} (h : Owns H0 H v k xs) {b : Nat} (hb : v.blk = some b) : H0.length ≤ b ∧ b < H.length:=by
  rcases h with ⟨rfl,_⟩ | ⟨b',rfl,h1,h2,_⟩
  · cases hb
  · simp only [AV.blk,Option.some.injEq] at hb
    subst hb
    exact ⟨h1,(zg h2).1⟩
theorem Owns.keep {H0 H H' : Heap} {v : AV} {k : Nat} {xs : List AV} (h : Owns H0 H v k xs) (hk : ∀ b x,v.blk = some b → H[b]? = some x → H'[b]? = some x) : Owns H0 H' v k xs:=by
  rcases h with h | ⟨b,rfl,h1,h2,h3⟩
  · exact .inl h
  · exact .inr ⟨b,rfl,h1,hk b _ rfl h2,h3⟩
theorem Owns.push {H0 H : Heap} {v : AV} {k : Nat} {xs : List AV} (h : Owns H0 H v k xs) (x : ABlk) : Owns H0 (H ++ [x]) v k xs:=
  h.keep fun _ _ _ hx=>zAL hx
theorem Owns.view {H0 H : Heap} {v : AV} {k : Nat} {xs : List AV} (h : Owns H0 H v k xs) : view H k v = some xs:=by
  rcases h with ⟨rfl,rfl⟩ | ⟨b,rfl,_,h2,_⟩
  · simp [Go.AM.view]
  · simp [Go.AM.view,h2]
theorem zDT {H : Heap} {k : Nat} {q : Option Bool} {xs : List AV} : view (H ++ [.row k xs]) k (.sl q H.length k 0 xs.length) = some xs:=by
  simp [Go.AM.view]
theorem zFD {k : Nat} {vs vs' : List AV} {H : Heap} {K : AV → Heap → Prop} (hf : zHR 0 vs H = some (vs',H)) (he : vs'.all (fun v=>v.elem k) = true)
    (q : K (.sl (some false) H.length k 0 vs'.length) (H ++ [.row k vs'])) : actP (.bslice k) vs H K:=
  zK3 (by simp only [astep,hf]; rw [if_pos he]) q
theorem zFE {H0 H : Heap} {v y : AV} {k bytes : Nat} {xs ys : List AV} {K : AV → Heap → Prop} (ho : Owns H0 H v k xs) (hH : Old H0 H) (hy : view H k y = some ys) (hb : bytes ≤ 1024) (hl : xs.length + ys.length ≤ 137438953472) (h0 : ys ≠ [])
    (q : ∀ v' H',Owns H0 H' v' k (xs ++ ys) → Old H0 H' → v'.blk = some H.length → (∀ c x,v.blk ≠ some c → H[c]? = some x → H'[c]? = some x) → K v' H') : actP (.append k bytes) [v,y] H K:=by
  have hm : (xs.length + ys.length) * bytes ≤ 137438953472 * 1024:=Nat.mul_le_mul hl hb
  rcases ho with ⟨rfl,rfl⟩ | ⟨b,rfl,h1,h2,_⟩
  · simp only [List.length_nil,Nat.zero_add] at hl hm
    refine zK3 (v:=.sl (some true) H.length k 0 ys.length) (H':=H ++ [.row k ys]) ?_ ?_
    · simp only [astep,hy]
      rw [if_pos ⟨by omega,by omega⟩]
    · exact q _ _ (.inr ⟨_,rfl,hH.1,zF,h0⟩) (hH.push _) rfl fun _ _ _ hx=>zAL hx
  · refine zK3 (v:=.sl (some true) H.length k 0 (xs.length + ys.length)) (H':=H.set b .dead ++ [.row k (xs ++ ys)]) ?_ ?_
    · simp only [astep,hy,h2]
      rw [if_pos ⟨trivial,trivial,by omega,by omega,by omega⟩]
      simp
    · refine q _ _ (.inr ⟨_,by rw [List.length_append],hH.1, ?_,by simp [h0]⟩) ((hH.set h1 _).push _) rfl fun c x hc hx=>?_
      · have : (H.set b .dead).length = H.length:=List.length_set
        rw [← this]; exact zF
      · exact zAL (zw (fun e=>hc (by rw [e]; rfl)) hx)
theorem zIx {H0 H : Heap} {v : AV} {u : List UInt8} {K : AV → Heap → Prop} (ho : Owns H0 H v 1 (u.map zO)) (q : K (.str u) H) : actP .bytesToStr [v] H K:=
  zK3 (by simp only [astep,ho.view,zDw,Option.map_some]) q
def zH2 (x : AV) (k : Nat) (xs : List AV) : Prop:=∃ q k',x = .lst q k' xs ∧ (k' = k ∨ xs = [])
theorem zH2.view {x : AV} {k : Nat} {xs : List AV} (h : zH2 x k xs) (H : Heap) : view H k x = some xs:=by
  obtain ⟨q,k',rfl,rfl | rfl⟩:=h
  · simp [Go.AM.view]
  · simp [Go.AM.view]
theorem zH2.cells {x : AV} {k : Nat} {xs : List AV} (h : zH2 x k xs) : x.cells = [x]:=by obtain ⟨q,k',rfl,_⟩:=h; rfl
theorem sBox {x : AV} {H : Heap} {K : AV → Heap → Prop} (h : x.cells.all AV.one = true) (q : K (.ref H.length 0 0 0) (H ++ [.box x.cells])) : actP .box [x] H K:=
  zK3 (by simp only [astep]; rw [if_pos h]) q
theorem zIy {b k s o : Nat} {v : AV} {cs : List AV} {H : Heap} {K : AV → Heap → Prop} (h : H[b]? = some (.box cs)) (hl : v.cells.length = s) (h1 : v.cells.all AV.one = true) (ho : o + s ≤ cs.length)
    (q : K .undef (H.set b (.box (splice cs o v.cells)))) : actP (.store s) [.ref b k 0 o,v] H K:=by
  refine zK3 ?_ q
  simp only [astep]
  rw [if_pos ⟨hl,h1⟩,h]
  simp only
  rw [if_pos ⟨trivial,ho⟩]
theorem Owns.set {H0 H : Heap} {v : AV} {k : Nat} {xs : List AV} (h : Owns H0 H v k xs) {c : Nat} (hc : v.blk ≠ some c) (x : ABlk) : Owns H0 (H.set c x) v k xs:=
  h.keep fun b _ hb hx=>zw (fun e=>hc (by rw [e]; exact hb)) hx
theorem Owns.pushSet {H0 H : Heap} {v : AV} {k : Nat} {xs : List AV} (h : Owns H0 H v k xs) (x y : ABlk) : Owns H0 ((H ++ [x]).set H.length y) v k xs:=
  (h.push x).set (fun e=>by have:=(h.lt e).2; omega) y
theorem Old.pushSet {H0 H : Heap} (h : Old H0 H) (x y : ABlk) : Old H0 ((H ++ [x]).set H.length y):=(h.push [x]).set h.1 y
def lstF (k : Nat) : List AV → AV
  | []=>.lst (some true) 0 []
  | x :: xs=>.lst (some false) k (x :: xs)
theorem Owns.frz {H0 H : Heap} {v : AV} {k : Nat} {xs : List AV} (h : Owns H0 H v k xs) (hO : Old H0 H) : ∃ H',zDW H0.length v H = some (lstF k xs,H') ∧ Old H0 H' ∧ ∀ c x,v.blk ≠ some c → H[c]? = some x → H'[c]? = some x:=by
  rcases h with ⟨rfl,rfl⟩ | ⟨b,rfl,h1,h2,h3⟩
  · exact ⟨H,rfl,hO,fun _ _ _ h=>h⟩
  · refine ⟨H.set b (.frz k xs), ?_,hO.set h1 _,fun c x hc hx=>zw (fun e=>hc (by rw [e]; rfl)) hx⟩
    cases xs with
    | nil=>exact absurd rfl h3
    | cons x xs=>
      simp only [zDW]
      rw [if_neg tO,h2]
      simp [lstF,zKc]
theorem zF8 {F : AF} {H H1 : Heap} {fr : Fr} {v : AV} (hk : F.keep = false) (hr : (zAz fr H1 F.results).map tupled = some v) (hf : zDW H.length v H1 = some (v,H1)) (hb : v.bel H.length = true) (ho : Old H H1) : retP F H fr H1 v H:=by
  refine sRet ?_
  unfold zIH
  cases hs : zAz fr H1 F.results with
  | none=>rw [hs] at hr; cases hr
  | some vs=>
    rw [hs] at hr
    simp only [Option.map_some,Option.some.injEq] at hr
    subst hr
    simp only [hk,hf,Bool.false_eq_true,if_false]
    exact ⟨hb,ho.ok,trivial,ho.take.symm⟩
theorem sRr {F : AF} {H : Heap} {fr : Fr} {v : AV} (hk : F.keep = false:=by rfl) (hr : (zAz fr H F.results).map tupled = some v:=by rfl) (hf : zDW H.length v H = some (v,H):=by rfl) (hb : v.bel H.length = true:=by rfl) : retP F H fr H v H:=zF8 hk hr hf hb (Old.refl H)
end Go.AM
namespace Go.AM
open Go.RowKit
theorem zFF {P : Program} {GT : Nat → Option AV} {w : World} {M : AMap} {I : Nat → Prop} {H H' : Heap} {f : FuncId} {fn : Func} {args : List AV} {cargs : List Value} {v : AV}
    (hf : P.funcs[f]? = some fn) (hname : (fn.name == "runtime.NumGoroutine") = false) (hb : fn.body.isSome = true) (hg : Good P GT f args H v H') (hS : Sim GT w M I H) (hA : zAS w M I H.length args cargs) :
    Calls P f cargs.toArray w fun e w'=>∃ v',e = .returned v' ∧ ∃ M' I',Grow w M I H w' M' I' H' ∧ Sim GT w' M' I' H' ∧ Rel w' M' I' H'.length v v':=by
  have h1 : fn.name ≠ "runtime.NumGoroutine" := by simpa using hname
  obtain ⟨c,hb⟩:=Option.isSome_iff_exists.1 hb
  have hrun : (callFunc f cargs.toArray).run P w = .ok (.enter f cargs.toArray) w:=by simp [callFunc,hf,h1,hb]
  have h:=hg.n hA w M I cargs hS hA
  rw [hrun] at h
  exact h
def zDB (w : World) : Nat → Prop:=fun k=>k < w.heap.size
theorem zFG {w w' : World} {M M' : AMap} {I I' : Nat → Prop} {H' : Heap} (h : Grow w M I [] w' M' I' H') : Below w.heap.size w w':=
  ⟨h.os,h.tape,h.output,h.size,fun k hk=>h.frame k hk (by rintro ⟨b,x,o,hb,_⟩; simp at hb)⟩
theorem zJ0 (w : World) (M : AMap) (I : Nat → Prop) (n : Nat) : zAS w M I n [] []:=⟨rfl,fun i c v h=>by simp at h⟩
theorem zDx {w : World} {M : AMap} {I : Nat → Prop} {n : Nat} {x : AV} {v : Value} {xs : List AV} {vs : List Value} (h : Rel w M I n x v) (hs : zAS w M I n xs vs) : zAS w M I n (x :: xs) (v :: vs):=
  ⟨by rw [List.length_cons,List.length_cons,hs.1],fun i c u hc hu=>by
    cases i with
    | zero=>simp only [List.getElem?_cons_zero,Option.some.injEq] at hc hu; subst hc; subst hu; exact h
    | succ i=>simp only [List.getElem?_cons_succ] at hc hu; exact hs.2 i c u hc hu⟩
theorem zK6 (w : World) (M : AMap) (I : Nat → Prop) (n : Nat) (s : ByteArray) : Rel w M I n (.str s.data.toList) (.string s):=.str s.data.toList
theorem zBv {w : World} {M : AMap} {I : Nat → Prop} {n : Nat} {s : List UInt8} {v : Value} (h : Rel w M I n (.str s) v) : v = .string ⟨s.toArray⟩:=by cases h; rfl
theorem zCg {w : World} {M : AMap} {I : Nat → Prop} {n : Nat} {k : IntKind} {m : Int} {v : Value} (h : Rel w M I n (.int k m) v) : v = .int k m:=by cases h; rfl
theorem zJ1 {w : World} {M : AMap} {I : Nat → Prop} {n : Nat} {x : AV} {vs : List Value} (h : zAS w M I n [x] vs) : ∃ v,vs = [v] ∧ Rel w M I n x v:=by
  obtain ⟨hl,h⟩:=h
  obtain ⟨v,rfl⟩:=List.length_eq_one_iff.1 hl.symm
  exact ⟨v,rfl,h 0 x v rfl rfl⟩
theorem zDU {w : World} {M : AMap} {I : Nat → Prop} {n : Nat} {x y : AV} {vs : List Value} (h : zAS w M I n [x,y] vs) : ∃ v u,vs = [v,u] ∧ Rel w M I n x v ∧ Rel w M I n y u:=by
  obtain ⟨hl,h⟩:=h
  match vs,hl with
  | [v,u],_=>exact ⟨v,u,rfl,h 0 x v rfl rfl,h 1 y u rfl rfl⟩
theorem zCh {GT : Nat → Option AV} {w w' : World} {M : AMap} {I : Nat → Prop} {H : Heap} (hS : Sim GT w M I H) (h : Below w.heap.size w w') : Grow w M I H w' M I H ∧ Sim GT w' M I H:=by
  have hb : ∀ k,k < w.heap.size → w'.heap[k]? = w.heap[k]?:=fun k hk=>h.block k hk
  have hs : ∀ g s,w.shape? g = some s → w'.shape? g = some s:=fun g s hg=>by
    have hlt : g < w.heap.size:=by
      unfold World.shape? at hg
      split at hg
      · rename_i e; exact (Array.getElem?_eq_some_iff.1 e).1
      · cases hg
    rw [zS (hb g hlt)]; exact hg
  refine ⟨⟨h.os,h.tape,h.output,h.size,fun _ _=>rfl,fun _ h=>h,fun _ h _=>.inl h,fun k hk _=>hb k hk,fun _ _ h=>h,hs,Nat.le_refl _⟩, ?_⟩
  refine ⟨fun g x hg=>(hS.glob g x hg).mono (fun _ h=>h) (fun k hk=>hb k (hS.idom k hk)) (fun _ _=>rfl) (Nat.le_refl _) hs,fun k hk=>Nat.lt_of_lt_of_le (hS.idom k hk) h.size,fun b x hx=>?_,hS.inj,fun g x hg=>(hS.shp g x hg).imp fun e h=>hs g _ h⟩
  exact (hS.blk b x hx).mono (zg hx).1 (fun _ h=>h) (fun k hk=>hb k (hS.idom k hk)) (fun _ _=>rfl) (Nat.le_refl _) hs (fun g o hM hm=>hb g (hS.live_lt ⟨b,x,o,hx,hm,hM⟩)) (fun _ _ _ _ h=>h)
theorem zAM {P : Program} {GT : Nat → Option AV} {f : FuncId} {fn : Func} {args : List AV} {H : Heap} {v : AV} (hf : P.funcs[f]? = some fn) (hname : (fn.name == "runtime.NumGoroutine") = false) (hb : fn.body.isSome = true)
    (h : ∀ (w : World) (M : AMap) (I : Nat → Prop) (cargs : List Value),Sim GT w M I H → zAS w M I H.length args cargs → Calls P f cargs.toArray w fun e w'=>∃ v',e = .returned v' ∧ Below w.heap.size w w' ∧ Rel w' M I H.length v v') (hn : zE2 args = true:=by first | rfl | exact Go.AM.zCy (by assumption) | exact Go.AM.zF5 (by assumption) | exact Go.AM.zF6 (by assumption)) : Good P GT f args H v H:=by
  refine zFi hn ?_
  intro w M I cargs hS hA
  have h1 : fn.name ≠ "runtime.NumGoroutine" := by simpa using hname
  obtain ⟨c,hb⟩:=Option.isSome_iff_exists.1 hb
  have hrun : (callFunc f cargs.toArray).run P w = .ok (.enter f cargs.toArray) w:=by simp [callFunc,hf,h1,hb]
  rw [hrun]
  exact (h w M I cargs hS hA).mono fun e w' ⟨v',he,hB,hR⟩=>⟨v',he,M,I,(zCh hS hB).1,(zCh hS hB).2,hR⟩
end Go.AM
namespace Go.AM
abbrev zAb : Nat:=3
abbrev zW : Nat:=5
abbrev zf : Nat:=4
abbrev zx : Nat:=6
abbrev zAi : Nat:=7
abbrev zF9 : Nat:=8
abbrev zl : Nat:=9
abbrev zAB : Nat:=10
abbrev zAj : Nat:=11
abbrev zBQ : Nat:=12
abbrev zDy : Nat:=13
abbrev zFH : Nat:=14
abbrev zH3 : Nat:=15
abbrev zAN : Nat:=16
abbrev zq : Nat:=17
abbrev zAX : Nat:=18
abbrev zm : Nat:=27
abbrev zAY : Nat:=28
abbrev zAZ : Nat:=29
abbrev zAk : Nat:=31
abbrev zX : Nat:=32
abbrev zu : Nat:=33
abbrev zM : Nat:=41
abbrev zU : Nat:=44
abbrev zBR : Nat:=46
abbrev zBf : Nat:=45
abbrev zd : Nat:=47
abbrev zV : Nat:=49
abbrev zY : Nat:=48
abbrev zAu : Nat:=51
abbrev zA6 : Nat:=50
abbrev zD : Nat:=63
abbrev zGj : Nat:=36
end Go.AM
namespace Go.AM
def zBS : AC:=.seq ( .seq ( .reg [2,0,1,10,9] false [oM 37 10,oM 38 1,oD 39 (.bin .lss) 37 38]) ( .cond (.tmp 39) ( .skip) ( .exit
 0))) ( .seq ( .block 1 [9,2,0,1,10] ( .reg [2,0,1,10,9] false [oM 42 9,oI 43 (.bin .add) [.tmp 42,.const (.str [48])],oM 9 43])) ( .reg [9,2,0,1,
 10] false [oM 40 10,oI 41 (.bin .add) [.tmp 40,oK 1],oM 10 41]))
def zBT : AC:=.seq ( .seq ( .reg [11,2,0,1,15,13,16,14] false [oM 65 15,oM 66 11,oT 67 (.len true) 66,oD 68 (.bin .lss) 65 67]) (
 .cond (.tmp 68) ( .skip) ( .exit 2))) ( .block 3 [15,13,16,11,14,2,0,1] ( .seq ( .reg [11,2,0,1,15,13,16,14] false [oM 69 11,oM 70 15,oD 71
 .idxStr 69 70,oM 17 71]) ( .seq ( .seq ( .reg [11,2,0,1,15,17,13,16,14] false [oM 72 17,oI 73 (.bin .neq) [.tmp 72,.const (.int .u8 44)]]) ( .cond
 (.tmp 73) ( .seq ( .reg [11,2,0,1,15,17,13,16,14] false [oM 74 14,oI 75 (.bin .add) [.tmp 74,oK 1],oM 14 75]) ( .seq ( .seq ( .reg [11,14,2,0,1,
 15,17,13,16] false [oM 76 17,oI 77 (.bin .neq) [.tmp 76,.const (.int .u8 48)],oM 78 77,oG 79 78 false .mv [.tmp 15],oG 80 78 false .mv [.tmp 11],oG 81
 78 false (.len true) [.tmp 80],oG 82 78 false (.bin .sub) [.tmp 81,oK 1],oG 83 78 false (.bin .eql) [.tmp 79,.tmp 82],oI 84 .pick [.tmp 78,oB true,.tmp
 83]]) ( .cond (.tmp 84) ( .reg [11,14,2,0,1,15,17,13] false [oI 16 .mv [oB true]]) ( .skip))) ( .seq ( .reg [16,11,14,2,0,1,15,17,13] false [oM 85
 16]) ( .cond (.tmp 85) ( .reg [16,11,14,2,0,1,15,17,13] false [oM 86 13,oM 87 17,oT 88 (.bslice 1) 87,oD 89 (.append 1 1) 86 88,oM 13 89]) (
 .skip))))) ( .seq ( .reg [13,16,11,14,2,0,1,15] false [oM 90 2,oT 91 (.un .not) 90,oM 92 91,oG 93 92 false .mv [.tmp 11],oG 94 92 false (.len true)
 [.tmp 93],oG 95 92 false .mv [.tmp 15],oG 96 92 false (.bin .sub) [.tmp 94,.tmp 95],oG 97 92 false (.bin .rem) [.tmp 96,oK 4],oG 98 92 false (.bin .neq)
 [.tmp 97,oK 0],oI 99 .pick [.tmp 92,oB true,.tmp 98]]) ( .cond (.tmp 99) ( .seq ( .reg [] false [oI 6 .mv [oB false]]) ( .ret)) ( .skip))))) ( .reg [13,16,
 11,14,2,0,1,15] false [oM 100 15,oI 101 (.bin .add) [.tmp 100,oK 1],oM 15 101]))))
def zh : AC:=.seq ( .reg [2,0,1] false [oI 6 .mv [oB false]]) ( .seq ( .reg [2,0,1] false [oI 20 (.call zW true) [oK
 (-1234567)],oI 21 (.call zf true) [.tmp 20,.const (.str [34,36,34,35,44,48,46,48,48])],oM 19 21,oT 22 (.extract 0) 19,oT 23 (.extract 1)
 19,oM 7 22,oM 8 23]) ( .seq ( .seq ( .reg [2,0,1,7,8] false [oM 24 8,oI 25 (.eqn .iface true true) [.tmp 24,.const (.nili)],oM 26 25,oG 27 26 false .mv
 [.tmp 7],oG 28 26 false (.bin .neq) [.tmp 27,.const (.str [45,36,49,50,44,51,52,53,46,54,55])],oI 29 .pick [.tmp 26,oB true,.tmp 28]]) ( .cond
 (.tmp 29) ( .seq ( .reg [] false [oI 6 .mv [oB false]]) ( .ret)) ( .skip))) ( .seq ( .reg [2,0,1] false [oI 9 .mv [.const (.str [])]]) ( .seq ( .seq ( .reg [2,
 0,1,9] false [oM 30 2]) ( .cond (.tmp 30) ( .reg [2,0,1] false [oI 9 .mv [.const (.str [35,44])]]) ( .skip))) ( .seq ( .seq ( .reg [9,2,0,1] false [oM 31
 1,oI 32 (.bin .lss) [.tmp 31,oK 1],oM 33 32,oG 34 33 false .mv [.tmp 1],oG 35 33 false (.bin .gtr) [.tmp 34,oK 20],oI 36 .pick [.tmp 33,oB true,.tmp
 35]]) ( .cond (.tmp 36) ( .seq ( .reg [] false [oI 6 .mv [oB true]]) ( .ret)) ( .skip))) ( .seq ( .seq ( .reg [9,2,0,1] false [oI 10 .mv [oK 0]]) ( .block 0
 [2,0,1,9] ( .loop [10,9,2,0,1] zBS))) ( .seq ( .reg [2,0,1,9] false [oM 45 0,oT 46 (.call zW true) 45,oM 47 9,oD 48
 (.call zf true) 46 47,oM 44 48,oT 49 (.extract 0) 44,oT 50 (.extract 1) 44,oM 11 49,oM 12 50]) ( .seq ( .seq ( .reg [11,2,0,1,12] false [oM
 51 12,oI 52 (.eqn .iface true true) [.tmp 51,.const (.nili)]]) ( .cond (.tmp 52) ( .seq ( .reg [] false [oI 6 .mv [oB false]]) ( .ret)) ( .skip))) ( .seq (
 .reg [11,2,0,1] false [oI 13 .mv [.const (.lst (some true) 0 [])]]) ( .seq ( .reg [11,2,0,1,13] false [oI 14 .mv [oK 0]]) ( .seq ( .reg [11,14,2,0,1,
 13] false [oI 15 .mv [oK 0]]) ( .seq ( .seq ( .reg [11,14,2,0,1,13,15] false [oM 53 0,oI 54 (.bin .lss) [.tmp 53,oK 0]]) ( .cond (.tmp 54) ( .seq ( .seq
 ( .reg [11,14,2,0,1,13] false [oM 55 11,oI 56 (.bin .eql) [.tmp 55,.const (.str [])],oM 57 56,oG 58 57 false .mv [.tmp 11],oG 59 57 false .idxStr [.tmp
 58,oK 0],oG 60 57 false (.bin .neq) [.tmp 59,.const (.int .u8 45)],oI 61 .pick [.tmp 57,oB true,.tmp 60]]) ( .cond (.tmp 61) ( .seq ( .reg [] false [oI 6
 .mv [oB false]]) ( .ret)) ( .skip))) ( .seq ( .reg [11,14,2,0,1,13] false [oM 62 13,oI 63 (.bslice 1) [.const (.int .u8 45)],oD 64 (.append 1 1) 62 63,oM
 13 64]) ( .reg [13,11,14,2,0,1] false [oI 15 .mv [oK 1]]))) ( .skip))) ( .seq ( .reg [15,13,11,14,2,0,1] false [oI 16 .mv [oB false]]) ( .seq ( .block
 2 [0,1,14,13] ( .loop [15,13,16,11,14,2,0,1] zBT)) ( .seq ( .reg [0,1,14,13] false [oM 102 13,oT 103 .bytesToStr 102,oT 104
 (.call zx true) 103,⟨some 18,none,.alloc [.int .i64 0,.int .i64 0,.str []],[]⟩,oS 3 18 104]) ( .seq ( .reg [0,18,1,14] true [oM 105 14,oM
 106 1,oD 107 (.bin .geq) 105 106,oM 108 107,oG 109 108 true (.load 3 true) [.tmp 18],oG 110 108 true .mv [.tmp 0],oG 111 108 true (.call zW true)
 [.tmp 110],⟨some 112,some (108,true),.eqs false [.int .i64,.int .i64,.str],[.tmp 109,.tmp 111]⟩,oI 113 .pick [.tmp 108,.tmp 112,oB false],oM 6 113])
 ( .ret)))))))))))))))))
def zT : AF:={ results:=[.tmp 6],body:=zh }
def zDz : AC:=.seq ( .seq ( .reg [6,9,12,13,11] false [oM 68 13,oI 69 (.bin .gtr) [.tmp 68,oK 0]]) ( .cond (.tmp 69) ( .skip) ( .exit 0))) (
 .seq ( .block 1 [11,6,9,12,13] ( .reg [6,9,12,13,11] true [oM 72 11,oM 73 13,oD 74 (.slc none false true) 72 73,oI 75 (.bin .add) [.tmp 74,.const
 (.str [44])],oM 76 11,oM 77 13,oD 78 (.slc none true false) 76 77,oD 79 (.bin .add) 75 78,oM 11 79])) ( .reg [11,6,9,12,13] false [oM 70 13,oI 71 (.bin
 .sub) [.tmp 70,oK 3],oM 13 71]))
def zBU : AC:=.seq ( .reg [1,0] false [oT 2 .box 0,oI 4 .mv [.const (.str [])],oI 5 .mv [.const (.nili)]]) ( .seq ( .reg [2,1] false [oM 15 1,oT
 16 (.call zAi true) 15,oM 14 16,oT 17 (.extract 0) 14,oT 18 (.extract 1) 14,⟨some 6,none,.alloc [.str [],.str [],.bool false,.int .i64 0,.int
 .i64 0],[]⟩,oS 5 6 17,oM 7 18]) ( .seq ( .seq ( .reg [2,6,7] false [oM 19 7,oT 20 (.un .not) 19]) ( .cond (.tmp 20) ( .seq ( .reg [] false [oI 21 (.mkIface
 zGj) [oK 2],oI 4 .mv [.const (.str [])],oM 5 21]) ( .ret)) ( .skip))) ( .seq ( .seq ( .reg [2,6] false [oF 22 0 2,oL 23 1 false 22,oI 24 (.bin .neq)
 [.tmp 23,oK 1]]) ( .cond (.tmp 24) ( .seq ( .reg [2] false [oL 25 3 true 2,oT 26 (.call zF9 true) 25,oM 4 26,oI 5 .mv [.const (.nili)]]) ( .ret)) (
 .skip))) ( .seq ( .reg [6,2] false [oF 27 1 2,oL 28 1 false 27,oT 29 (.convInt .u64) 28,oM 8 29,oI 9 .mv [.const (.str [])]]) ( .seq ( .seq ( .reg [6,8,9,
 2] false [oF 30 1 2,oL 31 1 false 30,oI 32 (.bin .lss) [.tmp 31,oK 0]]) ( .cond (.tmp 32) ( .reg [6,8] false [oM 33 8,oT 34 (.un .neg) 33,oM 8 34,oI 9 .mv
 [.const (.str [45])]]) ( .skip))) ( .seq ( .reg [6,9,8] false [oM 35 8,oI 36 (.call zl true) [.tmp 35,oK 10],oM 10 36]) ( .seq ( .reg [6,
 9,10] false [oF 37 3 6,oL 38 1 false 37,oF 39 4 6,oL 40 1 false 39,oD 41 (.bin .add) 38 40,oM 42 10,oT 43 (.len true) 42,oD 44 (.bin .sub) 41 43,oI 45
 .max [oK 0,.tmp 44],oI 46 (.call zAB true) [.const (.str [48]),.tmp 45],oM 47 10,oD 48 (.bin .add) 46 47,oM 10 48]) ( .seq ( .reg [6,9,10]
 true [oM 49 10,oM 50 10,oT 51 (.len true) 50,oF 52 4 6,oL 53 1 false 52,oD 54 (.bin .sub) 51 53,oD 55 (.slc none false true) 49 54,oM 56 10,oM 57 10,oT
 58 (.len true) 57,oF 59 4 6,oL 60 1 false 59,oD 61 (.bin .sub) 58 60,oD 62 (.slc none true false) 56 61,oM 11 55,oM 12 62]) ( .seq ( .seq ( .reg [11,6,9,
 12] false [oF 63 2 6,oL 64 1 false 63]) ( .cond (.tmp 64) ( .seq ( .reg [11,6,9,12] false [oM 65 11,oT 66 (.len true) 65,oI 67 (.bin .sub) [.tmp 66,oK 3],
 oM 13 67]) ( .block 0 [6,11,9,12] ( .loop [13,11,6,9,12] zDz))) ( .skip))) ( .seq ( .seq ( .reg [6,11,9,12] false [oM 80 12,oI 81 (.bin
 .neq) [.tmp 80,.const (.str [])]]) ( .cond (.tmp 81) ( .reg [6,11,9,12] false [oM 82 12,oI 83 (.bin .add) [.const (.str [46]),.tmp 82],oM 12 83]) (
 .skip))) ( .seq ( .reg [6,12,11,9] false [oM 84 9,oF 85 0 6,oL 86 1 false 85,oD 87 (.bin .add) 84 86,oM 88 11,oD 89 (.bin .add) 87 88,oM 90 12,oD 91
 (.bin .add) 89 90,oF 92 1 6,oL 93 1 false 92,oD 94 (.bin .add) 91 93,oM 4 94,oI 5 .mv [.const (.nili)]]) ( .ret))))))))))))
def zAl : AF:={ results:=[.tmp 4,.tmp 5],body:=zBU }
def zFI : AC:=.seq ( .reg [0] false [⟨some 2,none,.alloc [.int .i64 0,.int .i64 0,.str []],[]⟩]) ( .seq ( .reg [2,0] false [oM 3 0,⟨some 4,
 none,.build [.int .i64 0,.int .i64 0,.str []] [(0,1),(1,1)],[oK 1,.tmp 3]⟩,oS 3 2 4]) ( .ret))
def zCi : AF:={ results:=[.cell 2 3 true],body:=zFI }
def zGA : AC:=.seq ( .reg [0] false [⟨some 2,none,.alloc [.int .i64 0,.int .i64 0,.str []],[]⟩]) ( .seq ( .seq ( .reg [2,0] false [oM 7 0,oI 8
 (.bin .eql) [.tmp 7,.const (.str [])]]) ( .cond (.tmp 8) ( .seq ( .reg [2] false [⟨some 9,none,.build [.int .i64 0,.int .i64 0,.str []] [],[]⟩,oS 3 2 9])
 ( .ret)) ( .skip))) ( .seq ( .seq ( .reg [2,0] false [oM 11 0,oT 12 (.call zAj true) 11,oM 10 12,oT 13 (.extract 0) 10,oT 14 (.extract 1) 10,oM 3
 13,oM 4 14]) ( .seq ( .reg [2,3,0,4] false [oM 15 4]) ( .cond (.tmp 15) ( .seq ( .reg [2,3] false [oM 16 3,oT 17 (.call zBQ true) 16,oS 3 2 17]) (
 .ret)) ( .skip)))) ( .seq ( .seq ( .reg [2,0] false [oM 19 0,oT 20 (.call zDy true) 19,oM 18 20,oT 21 (.extract 0) 18,oT 22 (.extract 1) 18,
 ⟨some 5,none,.alloc [.int .i64 0,.int .i64 0,.str []],[]⟩,oS 3 5 21,oM 6 22]) ( .seq ( .reg [2,5,0,6] false [oM 23 6]) ( .cond (.tmp 23) ( .seq ( .reg
 [2,5] false [oL 24 3 true 5,oS 3 2 24]) ( .ret)) ( .skip)))) ( .seq ( .seq ( .reg [2,0] false [oM 25 0,oT 26 (.len true) 25,oI 27 (.bin .gtr) [.tmp 26,oK
 200]]) ( .cond (.tmp 27) ( .seq ( .reg [2] false [oI 28 (.call zFH true) [oK 2],oS 3 2 28]) ( .ret)) ( .skip))) ( .seq ( .reg [2,0] false [oM 29 0,
 oT 30 (.call zH3 true) 29,oS 3 2 30]) ( .ret))))))
def zDC : AF:={ results:=[.cell 2 3 true],body:=zGA }
def zBV : AC:=.seq ( .reg [0] false [⟨some 2,none,.alloc [.str [],.str [],.bool false,.int .i64 0,.int .i64 0],[]⟩,oI 3 .mv [oB false]]) (
 .seq ( .seq ( .reg [2,0] false [oM 6 0,oT 7 (.len true) 6,oI 8 (.bin .gtr) [.tmp 7,oK 40]]) ( .cond (.tmp 8) ( .seq ( .reg [2] false [oL 9 5 true 2,oS 5 2
 9,oI 3 .mv [oB false]]) ( .ret)) ( .skip))) ( .seq ( .seq ( .reg [2,0] false [oM 11 0,oT 12 (.call zAN true) 11,oM 10 12,oT 13 (.extract 0) 10,
 oT 14 (.extract 1) 10,oT 15 (.extract 2) 10,oF 16 0 2,oS 1 16 13,oM 0 14,oM 3 15]) ( .seq ( .reg [2,0,3] false [oM 17 3,oT 18 (.un .not) 17]) ( .cond
 (.tmp 18) ( .seq ( .reg [2] false [oL 19 5 true 2,oS 5 2 19,oI 3 .mv [oB false]]) ( .ret)) ( .skip)))) ( .seq ( .reg [2,0] false [oM 21 0,oI 22 (.call
 zq true) [.tmp 21,.const (.str [35,44])],oM 20 22,oT 23 (.extract 0) 20,oT 24 (.extract 1) 20,oM 0 23,oF 25 2 2,oS 1 25 24]) ( .seq (
 .reg [2,0] false [oM 26 0,oT 27 (.call zAX true) 26,oF 28 3 2,oS 1 28 27]) ( .seq ( .reg [2,0] false [oM 29 0,oF 30 3 2,oL 31 1 false 30,oD 32
 (.slc none true false) 29 31,oM 0 32]) ( .seq ( .seq ( .reg [2,0] false [oM 34 0,oI 35 (.call zq true) [.tmp 34,.const (.str [46])],oM 33
 35,oT 36 (.extract 0) 33,oT 37 (.extract 1) 33,oM 4 36,oM 5 37]) ( .seq ( .reg [2,4,0,5] false [oM 38 5]) ( .cond (.tmp 38) ( .seq ( .reg [2,4] false [oM
 39 4,oT 40 (.call zAX true) 39,oF 41 4 2,oS 1 41 40]) ( .seq ( .reg [2,4] false [oM 42 4,oF 43 4 2,oL 44 1 false 43,oD 45 (.slc none true
 false) 42 44,oM 0 45]) ( .seq ( .reg [2,0] false [oF 46 4 2,oL 47 1 false 46,oI 48 (.bin .lss) [.tmp 47,oK 1],oM 49 48,oG 50 49 false (.fieldAddr 4) [.tmp
 2],oG 51 49 false (.load 1 false) [.tmp 50],oG 52 49 false (.bin .gtr) [.tmp 51,oK 6],oI 53 .pick [.tmp 49,oB true,.tmp 52]]) ( .cond (.tmp 53) ( .seq (
 .reg [2] false [oL 54 5 true 2,oS 5 2 54,oI 3 .mv [oB false]]) ( .ret)) ( .skip))))) ( .skip)))) ( .seq ( .seq ( .reg [2,0] false [oM 55 0,oI 56 (.bin .eql)
 [.tmp 55,.const (.str [37])]]) ( .cond (.tmp 56) ( .reg [2] false [oF 57 1 2,oJ (.store 1) [.tmp 57,.const (.str [37])],oI 0 .mv [.const (.str [])]]) ( .seq
 ( .reg [2,0] false [oM 59 0,oT 60 (.call zAN true) 59,oM 58 60,oT 61 (.extract 0) 58,oT 62 (.extract 1) 58,oT 63 (.extract 2) 58,oF 64 1 2,oS
 1 64 61,oM 0 62,oM 3 63]) ( .seq ( .reg [2,0,3] false [oM 65 3,oT 66 (.un .not) 65]) ( .cond (.tmp 66) ( .seq ( .reg [2] false [oL 67 5 true 2,oS 5 2 67,
 oI 3 .mv [oB false]]) ( .ret)) ( .skip)))))) ( .seq ( .reg [2,0] false [oL 68 5 true 2,oF 69 3 2,oL 70 1 false 69,oI 71 (.bin .gtr) [.tmp 70,oK 0],oM 72
 71,oG 73 72 true .mv [.tmp 0],oG 74 72 true (.bin .eql) [.tmp 73,.const (.str [])],oI 75 .pick [.tmp 72,.tmp 74,oB false],oS 5 2 68,oM 3 75]) (
 .ret)))))))))
def zAm : AF:={ results:=[.cell 2 5 true,.tmp 3],body:=zBV }
def zFJ : AC:=.seq ( .reg [0] false [oI 2 .mv [oK 0],oI 3 .mv [oB false]]) ( .seq ( .reg [0] false [oM 7 0,oI 8 (.call zm true)
 [.tmp 7,.const (.str [45])],oM 4 8]) ( .seq ( .seq ( .reg [0,4] false [oM 9 4,oI 10 (.bin .eql) [.tmp 9,.const (.str [])],oM 11 10,oG 12 11 false .mv
 [.tmp 4],oG 13 11 false .idxStr [.tmp 12,oK 0],oG 14 11 false (.bin .eql) [.tmp 13,.const (.int .u8 48)],oG 15 11 false .mv [.tmp 14],oG 16 15 true .mv
 [.tmp 0],oG 17 15 true (.bin .neq) [.tmp 16,.const (.str [48])],oG 18 11 false .pick [.tmp 15,.tmp 17,oB false],oI 19 .pick [.tmp 11,oB true,.tmp 18],oM
 20 19,oG 21 20 false .mv [.tmp 4],oG 22 20 false (.call zAY true) [.tmp 21,.const (.str [48,49,50,51,52,53,54,55,56,57])],oG 23 20 false
 (.bin .neq) [.tmp 22,.const (.str [])],oI 24 .pick [.tmp 20,oB true,.tmp 23]]) ( .cond (.tmp 24) ( .seq ( .reg [] false [oI 2 .mv [oK 0],oI 3 .mv [oB
 false]]) ( .ret)) ( .skip))) ( .seq ( .reg [0] false [oM 26 0,oT 27 (.call zAZ true) 26,oM 25 27,oT 28 (.extract 0) 25,oT 29 (.extract 1) 25,oM 5
 28,oM 6 29]) ( .seq ( .reg [6,5] true [oM 30 5,oM 31 6,oI 32 (.eqn .iface false true) [.tmp 31,.const (.nili)],oM 2 30,oM 3 32]) ( .ret)))))
def zCj : AF:={ results:=[.tmp 2,.tmp 3],body:=zFJ }
def zGk : AC:=.seq ( .reg [0] false [⟨some 2,none,.alloc [.int .i64 0,.int .i64 0,.str []],[]⟩]) ( .seq ( .reg [2,0] false [oM 3 0,⟨some 4,
 none,.build [.int .i64 0,.int .i64 0,.str []] [(0,1),(1,1)],[oK 1,.tmp 3]⟩,oS 3 2 4]) ( .ret))
def zD0 : AF:={ results:=[.cell 2 3 true],body:=zGk }
def zD1 : AC:=.seq ( .reg [0] false [oI 2 .mv [.const (.str [])],oI 3 .mv [.const (.str [])],oI 4 .mv [oB false]]) ( .seq ( .seq ( .reg [0] false
 [oM 5 0,oI 6 (.bin .eql) [.tmp 5,.const (.str [])],oM 7 6,oG 8 7 false .mv [.tmp 0],oG 9 7 false .idxStr [.tmp 8,oK 0],oG 10 7 false (.bin .neq) [.tmp 9,
 .const (.int .u8 34)],oI 11 .pick [.tmp 7,oB true,.tmp 10]]) ( .cond (.tmp 11) ( .seq ( .reg [0] false [oM 12 0,oI 2 .mv [.const (.str [])],oM 3 12,oI 4
 .mv [oB true]]) ( .ret)) ( .skip))) ( .seq ( .reg [0] false [oM 13 0,oI 14 (.slc none true false) [.tmp 13,oK 1],oI 15 (.call zAk true) [.tmp 14,
 .const (.str [34])],oT 16 (.extract 0) 15,oT 17 (.extract 1) 15,oT 18 (.extract 2) 15,oM 2 16,oM 3 17,oM 4 18]) ( .ret)))
def zBr : AF:={ results:=[.tmp 2,.tmp 3,.tmp 4],body:=zD1 }
def zCJ : AC:=.seq ( .reg [1,0] false [oI 4 .mv [.const (.str [])],oI 5 .mv [oB false]]) ( .seq ( .reg [1,0] false [oM 6 0,oM 7 1,oD 8
 (.call zX true) 6 7,oT 9 (.extract 0) 8,oT 10 (.extract 1) 8,oM 4 9,oM 5 10]) ( .ret))
def zAs : AF:={ results:=[.tmp 4,.tmp 5],body:=zCJ }
def zEH : AC:=.seq ( .reg [0] false [oI 2 .mv [oK 0]]) ( .seq ( .reg [0] false [oM 3 0,oT 4 (.len true) 3,oM 5 0,oI 6 (.call zu
 true) [.tmp 5,.const (.str [48])],oT 7 (.len true) 6,oD 8 (.bin .sub) 4 7,oM 2 8]) ( .ret))
def zB4 : AF:={ results:=[.tmp 2],body:=zEH }
def zBx : AC:=.seq ( .reg [1,0] false [oI 4 .mv [.const (.str [])]]) ( .seq ( .reg [1,0] false [oM 5 0,oM 6 1,oD 7 (.call
 zU true) 5 6,oM 4 7]) ( .ret))
def zAf : AF:={ results:=[.tmp 4],body:=zBx }
def zEI : AC:=.seq ( .reg [0,1] false [oI 4 .mv [.const (.str [])]]) ( .seq ( .seq ( .reg [0,1] false [oM 7 0,oI 8 (.bin .eql) [.tmp 7,.const
 (.str [])],oM 9 8,oG 10 9 false .mv [.tmp 1],oG 11 9 false (.bin .eql) [.tmp 10,.const (.str [])],oI 12 .pick [.tmp 9,oB true,.tmp 11]]) ( .cond (.tmp 12)
 ( .seq ( .reg [0] false [oM 13 0,oM 4 13]) ( .ret)) ( .skip))) ( .seq ( .seq ( .reg [1,0] false [oM 14 1,oT 15 (.len true) 14,oI 16 (.bin .eql) [.tmp 15,oK
 1],oM 17 16,oG 18 17 true .mv [.tmp 1],oG 19 17 true .idxStr [.tmp 18,oK 0],oG 20 17 true (.bin .lss) [.tmp 19,.const (.int .u8 128)],oI 21 .pick [.tmp
 17,.tmp 20,oB false]]) ( .cond (.tmp 21) ( .seq ( .reg [1,0] true [oM 22 0,oM 23 1,oI 24 .idxStr [.tmp 23,oK 0],oD 25 (.call zBR true)
 22 24,oM 26 1,oI 27 .idxStr [.tmp 26,oK 0],oD 28 (.call zBf true) 25 27,oM 4 28]) ( .ret)) ( .skip))) ( .seq ( .seq ( .reg [0,1] false
 [oM 30 1,oT 31 (.call zd true) 30,oM 29 31,oT 32 (.extract 0) 29,oT 33 (.extract 1) 29,⟨some 5,none,.alloc (List.replicate 256 (.bool
 false)),[]⟩,oS 256 5 32,oM 6 33]) ( .seq ( .reg [5,0,1,6] false [oM 34 6]) ( .cond (.tmp 34) ( .seq ( .reg [5,0] false [oM 35 0,oD 36 (.call
 zV true) 35 5,oD 37 (.call zY true) 36 5,oM 4 37]) ( .ret)) ( .skip)))) ( .seq ( .reg [1,0] false [oM 38 0,oM 39
 1,oD 40 (.call zAu true) 38 39,oM 41 1,oD 42 (.call zA6 true) 40 41,oM 4 42]) ( .ret)))))
def zB5 : AF:={ results:=[.tmp 4],body:=zEI }
def zBW : AC:=.seq ( .reg [0,1] false [oI 4 .mv [.const (.str [])],oI 5 .mv [oB false]]) ( .seq ( .seq ( .reg [0,1] false [oM 6 0,oM 7
 1,oD 8 (.call zM true) 6 7,oT 9 (.un .not) 8]) ( .cond (.tmp 9) ( .seq ( .reg [0] false [oM 10 0,oM 4 10,oI 5 .mv [oB false]]) ( .ret))
 ( .skip))) ( .seq ( .reg [1,0] false [oM 11 0,oM 12 1,oT 13 (.len true) 12,oD 14 (.slc none true false) 11 13,oM 4 14,oI 5 .mv [oB true]]) ( .ret)))
def zAO : AF:={ results:=[.tmp 4,.tmp 5],body:=zBW }
def zBX : AC:=.seq ( .reg [1,0] false [oI 4 .mv [oB false]]) ( .seq ( .reg [1,0] false [oM 5 0,oT 6 (.len true) 5,oM 7 1,oT 8 (.len
 true) 7,oD 9 (.bin .geq) 6 8,oM 10 9,oG 11 10 true .mv [.tmp 0],oG 12 10 true .mv [.tmp 1],oG 13 10 true (.len true) [.tmp 12],oG 14 10 true (.slc none
 false true) [.tmp 11,.tmp 13],oG 15 10 true .mv [.tmp 1],oG 16 10 true (.bin .eql) [.tmp 14,.tmp 15],oI 17 .pick [.tmp 10,.tmp 16,oB false],oM 4 17]) (
 .ret))
def zAP : AF:={ results:=[.tmp 4],body:=zBX }
def zBH : AC:=.seq ( .reg [1,0] false [oI 4 .mv [.const (.str [])]]) ( .seq ( .seq ( .reg [1,0] false [oM 5 0,oM 6 1,oD 7 (.call
 zM true) 5 6]) ( .cond (.tmp 7) ( .seq ( .reg [1,0] false [oM 8 0,oM 9 1,oT 10 (.len true) 9,oD 11 (.slc none true false) 8 10,oM 4
 11]) ( .ret)) ( .skip))) ( .seq ( .reg [0] false [oM 12 0,oM 4 12]) ( .ret)))
def zAF : AF:={ results:=[.tmp 4],body:=zBH }
def zBI : AC:=.seq ( .seq ( .reg [2,0,4] false [oM 6 4,oM 7 0,oT 8 (.len true) 7,oD 9 (.bin .lss) 6 8]) ( .cond (.tmp 9) ( .skip) (
 .exit 0))) ( .seq ( .block 1 [2,0,4] ( .seq ( .reg [2,0,4] false [oM 12 0,oM 13 4,oD 14 .idxStr 12 13,oM 5 14]) ( .seq ( .seq ( .reg [2,0,4,5] false
 [oM 15 5,oI 16 (.bin .geq) [.tmp 15,.const (.int .u8 128)]]) ( .cond (.tmp 16) ( .seq ( .reg [2] false [oL 17 256 true 2,oS 256 2 17,oI 3 .mv [oB false]]) (
 .ret)) ( .skip))) ( .reg [2,0,4,5] false [oM 18 5,oD 19 (.idxArr 1 256) 2 18,oJ (.store 1) [.tmp 19,oB true]])))) ( .reg [2,0,4] false [oM 10 4,oI 11
 (.bin .add) [.tmp 10,oK 1],oM 4 11]))
def zBg : AC:=.seq ( .reg [0] false [⟨some 2,none,.alloc (List.replicate 256 (.bool false)),[]⟩,oI 3 .mv [oB false]]) ( .seq ( .seq (
 .reg [2,0] false [oI 4 .mv [oK 0]]) ( .block 0 [2] ( .loop [2,4,0] zBI))) ( .seq ( .reg [2] false [oL 20 256 true 2,oS 256 2 20,oI 3
 .mv [oB true]]) ( .ret)))
def zAT : AF:={ results:=[.cell 2 256 true,.tmp 3],body:=zBg }
def zA7 : AC:=.seq ( .seq ( .reg [0,1] false [oM 5 0,oT 6 (.len true) 5,oI 7 (.bin .gtr) [.tmp 6,oK 0]]) ( .cond (.tmp 7) ( .skip) (
 .exit 0))) ( .block 1 [0,1] ( .seq ( .seq ( .reg [0,1] false [oM 8 1,oM 9 0,oI 10 .idxStr [.tmp 9,oK 0],oD 11 (.call zD true) 8
 10,oT 12 (.un .not) 11]) ( .cond (.tmp 12) ( .exit 0) ( .skip))) ( .reg [1,0] false [oM 13 0,oI 14 (.slc none true false) [.tmp 13,oK 1],oM 0 14])))
def zBY : AC:=.seq ( .reg [0,1] false [oI 4 .mv [.const (.str [])]]) ( .seq ( .block 0 [0] ( .loop [0,1] zA7)) (
 .seq ( .reg [0] false [oM 15 0,oM 4 15]) ( .ret)))
def zAQ : AF:={ results:=[.tmp 4],body:=zBY }
def zAv : AC:=.seq ( .seq ( .reg [0,1] false [oM 5 0,oT 6 (.len true) 5,oI 7 (.bin .gtr) [.tmp 6,oK 0]]) ( .cond (.tmp 7) ( .skip) (
 .exit 0))) ( .block 1 [0,1] ( .seq ( .seq ( .reg [0,1] false [oM 8 1,oM 9 0,oM 10 0,oT 11 (.len true) 10,oI 12 (.bin .sub) [.tmp 11,oK 1],oD 13 .idxStr 9
 12,oD 14 (.call zD true) 8 13,oT 15 (.un .not) 14]) ( .cond (.tmp 15) ( .exit 0) ( .skip))) ( .reg [1,0] false [oM 16 0,oM 17 0,
 oT 18 (.len true) 17,oI 19 (.bin .sub) [.tmp 18,oK 1],oD 20 (.slc none false true) 16 19,oM 0 20])))
def zBJ : AC:=.seq ( .reg [0,1] false [oI 4 .mv [.const (.str [])]]) ( .seq ( .block 0 [0] ( .loop [0,1] zAv)) (
 .seq ( .reg [0] false [oM 21 0,oM 4 21]) ( .ret)))
def zAG : AF:={ results:=[.tmp 4],body:=zBJ }
def zAc : AC:=.seq ( .reg [1,0] false [oI 4 .mv [oB false]]) ( .seq ( .reg [1,0] false [oM 5 0,oM 6 1,oN 7 5,oD 8 (.idxArr 1
 256) 7 6,oL 9 1 false 8,oM 4 9]) ( .ret))
def zp : AF:={ results:=[.tmp 4],body:=zAc }
end Go.AM
