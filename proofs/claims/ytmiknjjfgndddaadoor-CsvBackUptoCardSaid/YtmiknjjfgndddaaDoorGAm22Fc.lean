/- Several texts of mine in one (Am22, Am23, Fn, Fc). Own work. -/
import Derived.Test.YtmiknjjfgndddaaDoorGAm17Am21
import Derived.IntWalk
import Derived.Below
set_option linter.all false
namespace Go.AM
theorem zAl {x : Int} {r : Nat} {K : Int → Prop} (h : x = r) (hr : r ≤ 9223372036854775807) (k : K (r : Int)) : valP (IntKind.wrap .i64 x) K:=
  sVal (by rw [IntWalk.i64_in x tO,h]) k
def AV.plain : AV → Bool
  | .sl ..=>false
  | .agg _=>false
  | .tup _=>false
  | .iface _ _=>false
  | .mp _=>false
  | _=>true
theorem zIM {n : Nat} {v : AV} {H : Heap} (h : v.plain = true) : zB9 n v H = some (v,H):=by
  cases v <;> first | rfl | (simp [AV.plain] at h)
theorem zIN {p : AV} {H : Heap} {s o : Nat} {ag : Bool} {cs : List AV} {K : AV → Prop} (r : AV) (hp : zW H p = some (cs,o)) (hr : part cs o s ag = some r) (q : K r) : loadN s ag p H K:=by
  rw [zE7]; unfold zGN
  split
  · simp only [zW,Option.some.injEq,Prod.mk.injEq] at hp
    obtain ⟨rfl,rfl⟩:=hp
    exact zt hr q
  · exact zt hp (zt hr q)
theorem zB4 {x : AV} {H : Heap} {s o : Nat} {ag : Bool} {K : AV → Prop} (r : AV) (hr : part x.cells o s ag = some r) (q : K r) : loadN s ag (.lref x o) H K:=zIN r rfl hr q
theorem zKD {b k i o : Nat} {H : Heap} {xs : List AV} {x : AV} (h : H[b]? = some (.row k xs)) (hx : xs[i]? = some x) : zW H (.ref b k i o) = some (x.cells,o):=by
  simp only [zW,h,if_true,hx,Option.map_some]
theorem zKE {b k o : Nat} {H : Heap} {cs : List AV} (h : H[b]? = some (.box cs)) : zW H (.ref b k 0 o) = some (cs,o):=by
  simp only [zW,h,if_true]
theorem zJR {b k i o s : Nat} {ag : Bool} (j : Nat) {H : Heap} {xs : List AV} (x r : AV) {K : AV → Prop} (hi : i = j) (h : H[b]? = some (.row k xs)) (hx : xs[j]? = some x) (hr : part x.cells o s ag = some r) (q : K r) : loadN s ag (.ref b k i o) H K:=
  zIN r (zKD h (by rw [hi]; exact hx)) hr q
theorem zCj {b k o s : Nat} {ag : Bool} {H : Heap} {cs : List AV} (r : AV) {K : AV → Prop} (h : H[b]? = some (.box cs)) (hr : part cs o s ag = some r) (q : K r) : loadN s ag (.ref b k 0 o) H K:=
  zIN r (zKE h) hr q
theorem zIO {q : Option Bool} {b k off n : Nat} {K : Int → Prop} (h : K (n : Int)) : lenP (.sl q b k off n) K:=by rw [zEF]; unfold zH9; exact h
theorem zKh {q : Option Bool} {k : Nat} {xs : List AV} {K : Int → Prop} (h : K (xs.length : Int)) : lenP (.lst q k xs) K:=by rw [zEF]; unfold zH9; exact h
theorem sLenV {v : AV} {H : Heap} {k : Nat} {xs : List AV} {K : Int → Prop} (hv : view H k v = some xs) (q : K (xs.length : Int)) : lenP v K:=by
  unfold view at hv
  split at hv
  · refine zKh ?_
    split at hv
    · cases hv; exact q
    · split at hv
      · rename_i h
        simp only [List.isEmpty_iff] at h
        cases hv; rw [h]; exact q
      · cases hv
  · refine zIO ?_
    split at hv
    · split at hv
      · split at hv
        · rename_i hc
          cases hv
          rw [List.length_take,List.length_drop] at q
          rwa [Nat.min_eq_left tO] at q
        · cases hv
      · split at hv
        · rename_i hc
          cases hv
          rw [List.length_take,List.length_drop] at q
          rwa [Nat.min_eq_left tO] at q
        · cases hv
      · cases hv
    · cases hv
  · cases hv
theorem sLenN {v : AV} {H : Heap} {k : Nat} {xs : List AV} {K : Int → Prop} (n : Nat) (hv : view H k v = some xs) (hn : xs.length = n) (q : K (n : Int)) : lenP v K:=sLenV hv (by rw [hn]; exact q)
theorem sIdx {q' : Option Bool} {k i : Nat} {xs : List AV} {n : Int} {x : AV} {K : AV → Prop} (hn : n = (i : Int)) (hx : xs[i]? = some x) (q : K (.lref x 0)) : idxN k (.lst q' k xs) n K:=by
  rw [zEG]; unfold zIA
  exact zA6 rfl (sIdxP hn hx q)
theorem sAt {q' : Option Bool} {b k off len : Nat} {n : Int} {K : AV → Prop} (h : 0 ≤ n ∧ n < (len : Int)) (q : K (.ref b k (off + n.toNat) 0)) : idxN k (.sl q' b k off len) n K:=by
  rw [zEG]; unfold zIA
  exact zA6 ⟨rfl,h⟩ q
theorem zDH {α : Type} {l : List α} {i : Nat} {x : α} (h : l[i]? = some x) : l.drop i = x :: l.drop (i + 1):=by
  obtain ⟨hi,he⟩:=zg h
  rw [List.drop_eq_getElem_cons hi,he]
theorem zDI : ∀ u : List UInt8,zAY (u.map zG) = some u
  | []=>rfl
  | c :: u=>by simp [zAY,zG,zDI u]
def Old (H0 H : Heap) : Prop:=H0.length ≤ H.length ∧ ∀ c,c < H0.length → H[c]? = H0[c]?
theorem Old.refl (H : Heap) : Old H H:=⟨Nat.le_refl _,fun _ _=>rfl⟩
theorem Old.push {H0 H : Heap} (h : Old H0 H) (x : List ABlk) : Old H0 (H ++ x):=
  ⟨by rw [List.length_append]; have:=h.1; omega,fun c hc=>by rw [List.getElem?_append_left (Nat.lt_of_lt_of_le hc h.1)]; exact h.2 c hc⟩
theorem Old.set {H0 H : Heap} (h : Old H0 H) {b : Nat} (hb : H0.length ≤ b) (x : ABlk) : Old H0 (H.set b x):=
  ⟨by rw [List.length_set]; exact h.1,fun c hc=>by rw [List.getElem?_set_ne tO]; exact h.2 c hc⟩
theorem Old.trans {H0 H1 H2 : Heap} (h : Old H0 H1) (k : Old H1 H2) : Old H0 H2:=
  ⟨Nat.le_trans h.1 k.1,fun c hc=>(k.2 c (Nat.lt_of_lt_of_le hc h.1)).trans (h.2 c hc)⟩
theorem Old.take {H0 H : Heap} (h : Old H0 H) : H.take H0.length = H0:=by
  apply List.ext_getElem?
  intro i
  rw [List.getElem?_take]
  split
  · rename_i hi; exact h.2 i hi
  · rename_i hi; rw [List.getElem?_eq_none tO]
theorem Old.ok {H0 H : Heap} (h : Old H0 H) : zI3 H0 H:=fun b hb=>.inl (h.2 b hb)
theorem zc {H : Heap} {x : ABlk} : (H ++ [x])[H.length]? = some x:=by simp
theorem zM {H : Heap} {x : ABlk} {b : Nat} {y : ABlk} (h : H[b]? = some y) : (H ++ [x])[b]? = some y:=by
  rw [List.getElem?_append_left (zg h).1]; exact h
theorem zKi {H : Heap} {b : Nat} {x y : ABlk} (h : H[b]? = some y) : (H.set b x)[b]? = some x:=by
  rw [List.getElem?_set_self (zg h).1]
theorem zV {H : Heap} {b c : Nat} {x y : ABlk} (hn : b ≠ c) (h : H[c]? = some y) : (H.set b x)[c]? = some y:=by
  rw [List.getElem?_set_ne hn]; exact h
abbrev oR (L : List Nat) (ops : List AI) : AC:=.reg L false ops
abbrev oC (t : Nat) (a b : AC) : AC:=.cond (.tmp t) a b
abbrev oA (d : Nat) (z : List AV) : AI:=⟨some d,none,.alloc z,[]⟩
abbrev oE (d : Nat) (o : BinOp) (a : Nat) (n : Int) : AI:=⟨some d,none,.bin o,[.tmp a,.const (.int .i64 n)]⟩
abbrev oX (d : Nat) (o : BinOp) (a b : Nat) : AI:=⟨some d,none,.bin o,[.tmp a,.tmp b]⟩
abbrev oV (d g : Nat) (b : Bool) (a : Nat) : AI:=⟨some d,some (g,b),.mv,[.tmp a]⟩
abbrev oW (d g : Nat) (b : Bool) (k : AK) (a : Nat) : AI:=⟨some d,some (g,b),k,[.tmp a]⟩
abbrev oY (d g : Nat) (b : Bool) (k : AK) (a c : Nat) : AI:=⟨some d,some (g,b),k,[.tmp a,.tmp c]⟩
abbrev oEG (d g : Nat) (b : Bool) (o : BinOp) (a : Nat) (n : Int) : AI:=⟨some d,some (g,b),.bin o,[.tmp a,.const (.int .i64 n)]⟩
abbrev oXG (d g : Nat) (b : Bool) (o : BinOp) (a c : Nat) : AI:=⟨some d,some (g,b),.bin o,[.tmp a,.tmp c]⟩
abbrev oXI (d k a b : Nat) : AI:=⟨some d,none,.idxAddr k,[.tmp a,.tmp b]⟩
abbrev oYI (d g : Nat) (b : Bool) (k a c : Nat) : AI:=⟨some d,some (g,b),.idxAddr k,[.tmp a,.tmp c]⟩
abbrev oLen (d : Nat) (a : Nat) : AI:=⟨some d,none,.len false,[.tmp a]⟩
abbrev oO (d a : Nat) : AI:=⟨some d,none,.load 1 false,[.tmp a]⟩
abbrev oQ (L : List Nat) (ops : List AI) (c : AC) : AC:=.seq (.reg L false ops) c
abbrev oP (d g : Nat) (c : Bool) (b : Nat) : AI:=⟨some d,none,.pick,[.tmp g,.const (.bool c),.tmp b]⟩
abbrev oZ : List AV:=[.int .i64 0,.int .i64 0,.str [],.int .i64 0,.int .i64 0,.bool false,.bool false,.int .i64 0,.int .i64 0,.bool false,.bool false,.lst (some true) 0 []]
abbrev oM (d s : Nat) : AI:=⟨some d,none,.mv,[.tmp s]⟩
abbrev oL (d k : Nat) (b : Bool) (s : Nat) : AI:=⟨some d,none,.load k b,[.tmp s]⟩
abbrev oF (d k s : Nat) : AI:=⟨some d,none,.fieldAddr k,[.tmp s]⟩
abbrev oS (k a b : Nat) : AI:=⟨none,none,.store k,[.tmp a,.tmp b]⟩
abbrev oN (d s : Nat) : AI:=⟨some d,none,.nilchk,[.tmp s]⟩
abbrev oI (d : Nat) (k : AK) (xs : List Opd) : AI:=⟨some d,none,k,xs⟩
abbrev oG (d g : Nat) (b : Bool) (k : AK) (xs : List Opd) : AI:=⟨some d,some (g,b),k,xs⟩
abbrev oT (d : Nat) (k : AK) (s : Nat) : AI:=⟨some d,none,k,[.tmp s]⟩
abbrev oD (d : Nat) (k : AK) (a b : Nat) : AI:=⟨some d,none,k,[.tmp a,.tmp b]⟩
abbrev oK (n : Int) : Opd:=.const (.int .i64 n)
abbrev oB (b : Bool) : Opd:=.const (.bool b)
theorem tA {P : Prop} (h : P:=by first | assumption | exact Nat.le_refl _ | omega | (simp only [List.length_set,List.length_append,List.length_cons,List.length_nil]; omega) | (simp; done) | (simp; omega)) : P:=h
theorem tC {P : Prop} (h : P:=by first | exact Nat.le_refl _ | omega | (simp only [List.length_set,List.length_append,List.length_cons,List.length_nil]; omega) | (simp; done) | (simp; omega)) : P:=h
theorem sBlk {id : Nat} {L : List Nat} {K : Post} {fr F : Fr} {H : Heap} (h : zE fr L = F) (k : K .normal F H) : zCS id L K (.exit id) fr H:=by
  rw [zFD]; simp only [zA4,if_true,← zX,h]; exact k
def AV.blk : AV → Option Nat
  | .sl _ b _ _ _=>some b
  | _=>none
def Owns (H0 H : Heap) (v : AV) (k : Nat) (xs : List AV) : Prop:=
  (v = .lst (some true) 0 [] ∧ xs = []) ∨ ∃ b,v = .sl (some true) b k 0 xs.length ∧ H0.length ≤ b ∧ H[b]? = some (.row k xs) ∧ xs ≠ []
theorem Owns.nil (H0 H : Heap) (k : Nat) : Owns H0 H (.lst (some true) 0 []) k []:=.inl ⟨rfl,rfl⟩
theorem Owns.lt {H0 H : Heap} {v : AV} {k : Nat} {xs : List AV} (h : Owns H0 H v k xs) {b : Nat} (hb : v.blk = some b) : H0.length ≤ b ∧ b < H.length:=by
  rcases h with ⟨rfl,_⟩ | ⟨b',rfl,h1,h2,_⟩
  · cases hb
  · simp only [AV.blk,Option.some.injEq] at hb
    subst hb
    exact ⟨h1,(zg h2).1⟩
theorem Owns.keep {H0 H H' : Heap} {v : AV} {k : Nat} {xs : List AV} (h : Owns H0 H v k xs) (hk : ∀ b x,v.blk = some b → H[b]? = some x → H'[b]? = some x) : Owns H0 H' v k xs:=by
  rcases h with h | ⟨b,rfl,h1,h2,h3⟩
  · exact .inl h
  · exact .inr ⟨b,rfl,h1,hk b _ rfl h2,h3⟩
theorem Owns.push {H0 H : Heap} {v : AV} {k : Nat} {xs : List AV} (h : Owns H0 H v k xs) (x : ABlk) : Owns H0 (H ++ [x]) v k xs:=
  h.keep fun _ _ _ hx=>zM hx
theorem Owns.view {H0 H : Heap} {v : AV} {k : Nat} {xs : List AV} (h : Owns H0 H v k xs) : view H k v = some xs:=by
  rcases h with ⟨rfl,rfl⟩ | ⟨b,rfl,_,h2,_⟩
  · simp [Go.AM.view]
  · simp [Go.AM.view,h2]
theorem zEK {H : Heap} {k : Nat} {q : Option Bool} {xs : List AV} : view (H ++ [.row k xs]) k (.sl q H.length k 0 xs.length) = some xs:=by
  simp [Go.AM.view]
theorem zFv {k : Nat} {vs vs' : List AV} {H : Heap} {K : AV → Heap → Prop} (hf : zEm 0 vs H = some (vs',H)) (he : vs'.all (fun v=>v.elem k) = true)
    (q : K (.sl (some false) H.length k 0 vs'.length) (H ++ [.row k vs'])) : actP (.bslice k) vs H K:=
  zH7 (by simp only [astep,hf]; rw [if_pos he]) q
theorem zIP {n : Nat} {a a' : AV} {r r' : List AV} {H H1 H2 : Heap} (h1 : zB9 n a H = some (a',H1)) (h2 : zEm n r H1 = some (r',H2)) : zEm n (a :: r) H = some (a' :: r',H2):=by
  simp only [zEm,h1,h2]
theorem zGS {k : Nat} {vs : List AV} (vs' : List AV) {H : Heap} (H' : Heap) {K : AV → Heap → Prop} (hf : zEm 0 vs H = some (vs',H')) (he : vs'.all (fun v=>v.elem k) = true)
    (q : K (.sl (some false) H'.length k 0 vs'.length) (H' ++ [.row k vs'])) : actP (.bslice k) vs H K:=
  zH7 (by simp only [astep,hf]; rw [if_pos he]) q
theorem zKj {b k n : Nat} {xs : List AV} {H : Heap} (h : H[b]? = some (.row k xs)) (hn : xs.length = n) : zB9 0 (.sl (some false) b k 0 n) H = some (.lst (some false) k xs,H.set b (.frz k xs)):=by
  subst hn
  simp only [zB9,Nat.not_lt_zero,if_false,h]
  simp [zI0]
theorem zIQ {H0 H : Heap} {v y : AV} {k bytes : Nat} {xs ys : List AV} {K : AV → Heap → Prop} (ho : Owns H0 H v k xs) (hH : Old H0 H) (hy : view H k y = some ys) (hb : bytes ≤ 1024) (hl : xs.length + ys.length ≤ 137438953472) (h0 : ys ≠ [])
    (q : ∀ v' H',Owns H0 H' v' k (xs ++ ys) → Old H0 H' → v'.blk = some H.length → (∀ c x,v.blk ≠ some c → H[c]? = some x → H'[c]? = some x) → K v' H') : actP (.append k bytes) [v,y] H K:=by
  have hm : (xs.length + ys.length) * bytes ≤ 137438953472 * 1024:=Nat.mul_le_mul hl hb
  rcases ho with ⟨rfl,rfl⟩ | ⟨b,rfl,h1,h2,_⟩
  · simp only [List.length_nil,Nat.zero_add] at hl hm
    refine zH7 (v:=.sl (some true) H.length k 0 ys.length) (H':=H ++ [.row k ys]) ?_ ?_
    · simp only [astep,hy]
      rw [if_pos ⟨by omega,by omega⟩]
    · exact q _ _ (.inr ⟨_,rfl,hH.1,zc,h0⟩) (hH.push _) rfl fun _ _ _ hx=>zM hx
  · refine zH7 (v:=.sl (some true) H.length k 0 (xs.length + ys.length)) (H':=H.set b .dead ++ [.row k (xs ++ ys)]) ?_ ?_
    · simp only [astep,hy,h2]
      rw [if_pos ⟨trivial,trivial,by omega,by omega,by omega⟩]
      simp
    · refine q _ _ (.inr ⟨_,by rw [List.length_append],hH.1, ?_,by simp [h0]⟩) ((hH.set h1 _).push _) rfl fun c x hc hx=>?_
      · have : (H.set b .dead).length = H.length:=List.length_set
        rw [← this]; exact zc
      · exact zM (zV (fun e=>hc (by rw [e]; rfl)) hx)
theorem zIR {H0 H : Heap} {v : AV} {u : List UInt8} {K : AV → Heap → Prop} (ho : Owns H0 H v 1 (u.map zG)) (q : K (.str u) H) : actP .bytesToStr [v] H K:=
  zH7 (by simp only [astep,ho.view,zDI,Option.map_some]) q
def zB5 (x : AV) (k : Nat) (xs : List AV) : Prop:=∃ q k',x = .lst q k' xs ∧ (k' = k ∨ xs = [])
theorem zB5.view {x : AV} {k : Nat} {xs : List AV} (h : zB5 x k xs) (H : Heap) : view H k x = some xs:=by
  obtain ⟨q,k',rfl,rfl | rfl⟩:=h
  · simp [Go.AM.view]
  · simp [Go.AM.view]
theorem zB5.cells {x : AV} {k : Nat} {xs : List AV} (h : zB5 x k xs) : x.cells = [x]:=by obtain ⟨q,k',rfl,_⟩:=h; rfl
theorem zEL {v : AV} {k : Nat} {xs : List AV} {n : Int} {K : AV → Prop} (i : Nat) (x : AV) (hv : zB5 v k xs) (hn : n = (i : Int)) (hx : xs[i]? = some x) (q : K (.lref x 0)) : idxN k v n K:=by
  obtain ⟨qq,k',rfl,rfl | rfl⟩:=hv
  · exact sIdx hn hx q
  · simp at hx
theorem zA7 {v : AV} {k : Nat} {xs : List AV} {K : Int → Prop} (n : Nat) (hv : zB5 v k xs) (hn : xs.length = n) (q : K (n : Int)) : lenP v K:=sLenN n (hv.view []) hn q
theorem zIS {b k s o : Nat} {v : AV} {cs : List AV} {H : Heap} {K : AV → Heap → Prop} (h : H[b]? = some (.box cs)) (hl : v.cells.length = s) (h1 : v.cells.all AV.one = true) (ho : o + s ≤ cs.length)
    (q : K .undef (H.set b (.box (splice cs o v.cells)))) : actP (.store s) [.ref b k 0 o,v] H K:=by
  refine zH7 ?_ q
  simp only [astep]
  rw [if_pos ⟨hl,h1⟩,h]
  simp only
  rw [if_pos ⟨trivial,ho⟩]
theorem Owns.set {H0 H : Heap} {v : AV} {k : Nat} {xs : List AV} (h : Owns H0 H v k xs) {c : Nat} (hc : v.blk ≠ some c) (x : ABlk) : Owns H0 (H.set c x) v k xs:=
  h.keep fun b _ hb hx=>zV (fun e=>hc (by rw [e]; exact hb)) hx
def zHY (k : Nat) : List AV → AV
  | []=>.lst (some true) 0 []
  | x :: xs=>.lst (some false) k (x :: xs)
theorem zIT (k : Nat) (xs : List AV) : zB5 (zHY k xs) k xs:=by
  cases xs
  · exact ⟨_,_,rfl,.inr rfl⟩
  · exact ⟨_,_,rfl,.inl rfl⟩
theorem zGT (n k : Nat) (xs : List AV) : (zHY k xs).bel n = true:=by cases xs <;> rfl
theorem Owns.frz {H0 H : Heap} {v : AV} {k : Nat} {xs : List AV} (h : Owns H0 H v k xs) (hO : Old H0 H) : ∃ H',zB9 H0.length v H = some (zHY k xs,H') ∧ Old H0 H' ∧ ∀ c x,v.blk ≠ some c → H[c]? = some x → H'[c]? = some x:=by
  rcases h with ⟨rfl,rfl⟩ | ⟨b,rfl,h1,h2,h3⟩
  · exact ⟨H,rfl,hO,fun _ _ _ h=>h⟩
  · refine ⟨H.set b (.frz k xs), ?_,hO.set h1 _,fun c x hc hx=>zV (fun e=>hc (by rw [e]; rfl)) hx⟩
    cases xs with
    | nil=>exact absurd rfl h3
    | cons x xs=>
      simp only [zB9]
      rw [if_neg tO,h2]
      simp [zHY,zI0]
theorem zKk {F : AF} {H H1 H2 : Heap} {fr : Fr} {v0 v : AV} (hk : F.keep = false) (hr : (zAA fr H1 F.results).map tupled = some v0) (hf : zB9 H.length v0 H1 = some (v,H2)) (hb : v.bel H.length = true) (ho : Old H H2) : retP F H fr H1 v H:=by
  refine sRet ?_
  unfold zEk
  cases hs : zAA fr H1 F.results with
  | none=>rw [hs] at hr; cases hr
  | some vs=>
    rw [hs] at hr
    simp only [Option.map_some,Option.some.injEq] at hr
    subst hr
    simp only [hk,hf,Bool.false_eq_true,if_false]
    exact ⟨hb,ho.ok,trivial,ho.take.symm⟩
theorem zAx {F : AF} {H H1 : Heap} {fr : Fr} {v : AV} (hk : F.keep = false) (hr : (zAA fr H1 F.results).map tupled = some v) (hf : zB9 H.length v H1 = some (v,H1)) (hb : v.bel H.length = true) (ho : Old H H1) : retP F H fr H1 v H:=by
  refine sRet ?_
  unfold zEk
  cases hs : zAA fr H1 F.results with
  | none=>rw [hs] at hr; cases hr
  | some vs=>
    rw [hs] at hr
    simp only [Option.map_some,Option.some.injEq] at hr
    subst hr
    simp only [hk,hf,Bool.false_eq_true,if_false]
    exact ⟨hb,ho.ok,trivial,ho.take.symm⟩
theorem sRr {F : AF} {H : Heap} {fr : Fr} {v : AV} (hk : F.keep = false:=by rfl) (hr : (zAA fr H F.results).map tupled = some v:=by rfl) (hf : zB9 H.length v H = some (v,H):=by rfl) (hb : v.bel H.length = true:=by rfl) : retP F H fr H v H:=zAx hk hr hf hb (Old.refl H)
end Go.AM
namespace Go.AM
open Go.RowKit
theorem zEM {P : Program} {GT : Nat → Option AV} {w : World} {M : AMap} {I : Nat → Prop} {H H' : Heap} {f : FuncId} {fn : Func} {args : List AV} {cargs : List Value} {v : AV}
    (hf : P.funcs[f]? = some fn) (hname : (fn.name == "runtime.NumGoroutine") = false) (hb : fn.body.isSome = true) (hg : Good P GT f args H v H') (hS : Sim GT w M I H) (hA : zx w M I H.length args cargs) :
    Calls P f cargs.toArray w fun e w'=>∃ v',e = .returned v' ∧ ∃ M' I',Grow w M I H w' M' I' H' ∧ Sim GT w' M' I' H' ∧ Rel w' M' I' H'.length v v':=by
  have h1 : fn.name ≠ "runtime.NumGoroutine" := by simpa using hname
  obtain ⟨c,hb⟩:=Option.isSome_iff_exists.1 hb
  have hrun : (callFunc f cargs.toArray).run P w = .ok (.enter f cargs.toArray) w:=by simp [callFunc,hf,h1,hb]
  have h:=hg.n hA w M I cargs hS hA
  rw [hrun] at h
  exact h
def zCT (w : World) : Nat → Prop:=fun k=>k < w.heap.size
theorem zEN {w w' : World} {M M' : AMap} {I I' : Nat → Prop} {H' : Heap} (h : Grow w M I [] w' M' I' H') : Below w.heap.size w w':=
  ⟨h.os,h.tape,h.output,h.size,fun k hk=>h.frame k hk (by rintro ⟨b,x,o,hb,_⟩; simp at hb)⟩
theorem zJS (w : World) (M : AMap) (I : Nat → Prop) (n : Nat) : zx w M I n [] []:=⟨rfl,fun i c v h=>by simp at h⟩
theorem zFI {w : World} {M : AMap} {I : Nat → Prop} {n : Nat} {x : AV} {v : Value} {xs : List AV} {vs : List Value} (h : Rel w M I n x v) (hs : zx w M I n xs vs) : zx w M I n (x :: xs) (v :: vs):=
  ⟨by rw [List.length_cons,List.length_cons,hs.1],fun i c u hc hu=>by
    cases i with
    | zero=>simp only [List.getElem?_cons_zero,Option.some.injEq] at hc hu; subst hc; subst hu; exact h
    | succ i=>simp only [List.getElem?_cons_succ] at hc hu; exact hs.2 i c u hc hu⟩
theorem zKF (w : World) (M : AMap) (I : Nat → Prop) (n : Nat) (s : ByteArray) : Rel w M I n (.str s.data.toList) (.string s):=.str s.data.toList
theorem zBJ {w : World} {M : AMap} {I : Nat → Prop} {n : Nat} {s : List UInt8} {v : Value} (h : Rel w M I n (.str s) v) : v = .string ⟨s.toArray⟩:=by cases h; rfl
theorem zGU {w : World} {M : AMap} {I : Nat → Prop} {n : Nat} {k : IntKind} {m : Int} {v : Value} (h : Rel w M I n (.int k m) v) : v = .int k m:=by cases h; rfl
theorem zEO {w : World} {M : AMap} {I : Nat → Prop} {n : Nat} {x : AV} {vs : List Value} (h : zx w M I n [x] vs) : ∃ v,vs = [v] ∧ Rel w M I n x v:=by
  obtain ⟨hl,h⟩:=h
  obtain ⟨v,rfl⟩:=List.length_eq_one_iff.1 hl.symm
  exact ⟨v,rfl,h 0 x v rfl rfl⟩
theorem zJT {w : World} {M : AMap} {I : Nat → Prop} {n : Nat} {x y : AV} {vs : List Value} (h : zx w M I n [x,y] vs) : ∃ v u,vs = [v,u] ∧ Rel w M I n x v ∧ Rel w M I n y u:=by
  obtain ⟨hl,h⟩:=h
  match vs,hl with
  | [v,u],_=>exact ⟨v,u,rfl,h 0 x v rfl rfl,h 1 y u rfl rfl⟩
theorem zB6 {GT : Nat → Option AV} {w w' : World} {M : AMap} {I : Nat → Prop} {H : Heap} (hS : Sim GT w M I H) (h : Below w.heap.size w w') : Grow w M I H w' M I H ∧ Sim GT w' M I H:=by
  have hb : ∀ k,k < w.heap.size → w'.heap[k]? = w.heap[k]?:=fun k hk=>h.block k hk
  have hs : ∀ g s,w.shape? g = some s → w'.shape? g = some s:=fun g s hg=>by
    have hlt : g < w.heap.size:=by
      unfold World.shape? at hg
      split at hg
      · rename_i e; exact (Array.getElem?_eq_some_iff.1 e).1
      · cases hg
    rw [zL (hb g hlt)]; exact hg
  refine ⟨⟨h.os,h.tape,h.output,h.size,fun _ _=>rfl,fun _ h=>h,fun _ h _=>.inl h,fun k hk _=>hb k hk,fun _ _ h=>h,hs,Nat.le_refl _⟩, ?_⟩
  refine ⟨fun g x hg=>(hS.glob g x hg).mono (fun _ h=>h) (fun k hk=>hb k (hS.idom k hk)) (fun _ _=>rfl) (Nat.le_refl _) hs,fun k hk=>Nat.lt_of_lt_of_le (hS.idom k hk) h.size,fun b x hx=>?_,hS.inj,fun g x hg=>(hS.shp g x hg).imp fun e h=>hs g _ h⟩
  exact (hS.blk b x hx).mono (zg hx).1 (fun _ h=>h) (fun k hk=>hb k (hS.idom k hk)) (fun _ _=>rfl) (Nat.le_refl _) hs (fun g o hM hm=>hb g (hS.live_lt ⟨b,x,o,hx,hm,hM⟩)) (fun _ _ _ _ h=>h)
theorem zAy {P : Program} {GT : Nat → Option AV} {f : FuncId} {fn : Func} {args : List AV} {H : Heap} {v : AV} (hf : P.funcs[f]? = some fn) (hname : (fn.name == "runtime.NumGoroutine") = false) (hb : fn.body.isSome = true)
    (h : ∀ (w : World) (M : AMap) (I : Nat → Prop) (cargs : List Value),Sim GT w M I H → zx w M I H.length args cargs → Calls P f cargs.toArray w fun e w'=>∃ v',e = .returned v' ∧ Below w.heap.size w w' ∧ Rel w' M I H.length v v') (hn : zCX args = true:=by first | rfl | exact Go.AM.zBI (by assumption) | exact Go.AM.zDF (by assumption) | exact Go.AM.zDG (by assumption)) : Good P GT f args H v H:=by
  refine zC2 hn ?_
  intro w M I cargs hS hA
  have h1 : fn.name ≠ "runtime.NumGoroutine" := by simpa using hname
  obtain ⟨c,hb⟩:=Option.isSome_iff_exists.1 hb
  have hrun : (callFunc f cargs.toArray).run P w = .ok (.enter f cargs.toArray) w:=by simp [callFunc,hf,h1,hb]
  rw [hrun]
  exact (h w M I cargs hS hA).mono fun e w' ⟨v',he,hB,hR⟩=>⟨v',he,M,I,(zB6 hS hB).1,(zB6 hS hB).2,hR⟩
end Go.AM
namespace Go.AM
abbrev zAm : Nat:=3
abbrev zAS : Nat:=5
abbrev zn : Nat:=6
abbrev zAF : Nat:=7
abbrev zH : Nat:=10
abbrev zi : Nat:=11
abbrev zb : Nat:=12
abbrev zJ : Nat:=13
abbrev zP : Nat:=14
abbrev zK : Nat:=15
abbrev zAC : Nat:=16
abbrev zI : Nat:=18
abbrev zf : Nat:=21
abbrev zR : Nat:=32
abbrev zA : Nat:=39
abbrev zj : Nat:=40
abbrev zq : Nat:=5
end Go.AM
namespace Go.AM
def zAn : AC:=.seq ( .reg [1,0] false [oI 4 .mv [oB false]]) ( .seq ( .reg [1,0] false [oI 21 (.bslice 1) [.const (.str [97,44,98]),.const
 (.str [99])],oT 22 (.bslice 1) 21,oT 23 (.call zAS true) 22,oM 20 23,oT 24 (.extract 0) 20,oT 25 (.extract 1) 20,oM 5 24,oM 6 25]) ( .seq ( .seq (
 .reg [1,0,5,6] false [oM 26 6,oI 27 (.eqn .iface true true) [.tmp 26,.const (.nili)],oM 28 27,oG 29 28 false .mv [.tmp 5],oG 30 28 false (.bin .neq)
 [.tmp 29,.const (.str [34,97,44,98,34,44,99,10])],oI 31 .pick [.tmp 28,oB true,.tmp 30]]) ( .cond (.tmp 31) ( .seq ( .reg [] false [oI 4 .mv [oB
 false]]) ( .ret)) ( .skip))) ( .seq ( .reg [1,0] false [oM 33 0,oT 34 (.call zAS true) 33,oM 32 34,oT 35 (.extract 0) 32,oT 36 (.extract 1) 32,oM 7
 35,oM 8 36]) ( .seq ( .seq ( .reg [1,0,7,8] false [oM 37 8,oI 38 (.eqn .iface false true) [.tmp 37,.const (.nili)]]) ( .cond (.tmp 38) ( .seq ( .reg [1,0,
 7] false [oM 40 7,oT 41 (.call zn true) 40,oM 39 41,oT 42 (.extract 0) 39,oT 43 (.extract 1) 39,oT 44 (.extract 2) 39,oM 9 42,oM 10 43,oM 11 44])
 ( .seq ( .reg [1,11,0,9] false [oM 45 9,oM 46 0,oD 47 (.call zAF true) 45 46,oM 12 47]) ( .seq ( .reg [1,12,11] false [oM 48 11,oI 49 (.eqn
 .iface true true) [.tmp 48,.const (.nili)],oM 50 49,oG 51 50 false .mv [.tmp 12],oG 52 50 false (.un .not) [.tmp 51],oI 53 .pick [.tmp 50,oB true,.tmp
 52]]) ( .cond (.tmp 53) ( .seq ( .reg [] false [oI 4 .mv [oB false]]) ( .ret)) ( .skip))))) ( .skip))) ( .seq ( .reg [1] false [oM 55 1,oT 56 (.call zn
 true) 55,oM 54 56,oT 57 (.extract 0) 54,oT 58 (.extract 1) 54,oT 59 (.extract 2) 54,oM 13 57,oM 14 58,oM 15 59]) ( .seq ( .seq ( .reg [13,15] false [oM
 60 15,oI 61 (.eqn .iface true true) [.tmp 60,.const (.nili)]]) ( .cond (.tmp 61) ( .seq ( .reg [] false [oI 4 .mv [oB true]]) ( .ret)) ( .skip))) ( .seq ( .reg
 [13] false [oM 63 13,oT 64 (.call zAS true) 63,oM 62 64,oT 65 (.extract 0) 62,oT 66 (.extract 1) 62,oM 16 65,oM 8 66]) ( .seq ( .seq ( .reg [13,
 16,8] false [oM 67 8,oI 68 (.eqn .iface true true) [.tmp 67,.const (.nili)]]) ( .cond (.tmp 68) ( .seq ( .reg [] false [oI 4 .mv [oB true]]) ( .ret)) (
 .skip))) ( .seq ( .reg [13,16] false [oM 70 16,oT 71 (.call zn true) 70,oM 69 71,oT 72 (.extract 0) 69,oT 73 (.extract 1) 69,oT 74 (.extract 2) 69,
 oM 17 72,oM 18 73,oM 15 74]) ( .seq ( .reg [15,17,13] false [oM 75 13,oM 76 17,oD 77 (.call zAF true) 75 76,oM 19 77]) ( .seq ( .reg [19,15]
 false [oM 78 15,oI 79 (.eqn .iface false true) [.tmp 78,.const (.nili)],oM 80 79,oG 81 80 true .mv [.tmp 19],oI 82 .pick [.tmp 80,.tmp 81,oB false],oM 4
 82]) ( .ret))))))))))))
def zAD : AF:={ results:=[.tmp 4],body:=zAn }
def zEP : AC:=.seq ( .reg [11,4,0,12,13] false [oD 14 (.bin .lss) 13 12]) ( .seq ( .cond (.tmp 14) ( .skip) ( .exit 0)) ( .seq ( .block 1 [11,4,
 0,12,13] ( .seq ( .reg [11,4,0,12,13] false [oD 15 (.idxAddr 1) 11 13,oL 16 1 false 15,oM 6 16]) ( .seq ( .reg [11,4,0,12,13,6] false [oM 17 6,oT
 18 (.len false) 17,oI 19 (.bin .eql) [.tmp 18,oK 0]]) ( .cond (.tmp 19) ( .seq ( .reg [] false [oI 20 (.mkIface zj) [oK 3],oI 2 .mv [.const (.str
 [])],oM 3 20]) ( .ret)) ( .skip))))) ( .reg [11,4,0,12,13] false [oI 21 (.bin .add) [.tmp 13,oK 1],oM 13 21])))
def zEQ : AC:=.seq ( .reg [4,8,28,22,23,24,29,30] false [oD 31 (.bin .lss) 30 29]) ( .seq ( .cond (.tmp 31) ( .skip) ( .exit 4)) ( .seq (
 .block 5 [4,8,28,22,23,24,29,30] ( .seq ( .reg [4,8,28,22,23,24,29,30] false [oM 32 30,oD 33 (.idxAddr 1) 28 30,oL 34 1 false 33,oM 9 32,oM 10
 34]) ( .seq ( .seq ( .reg [4,8,28,22,23,24,29,30,10,9] false [oM 35 9,oI 36 (.bin .gtr) [.tmp 35,oK 0]]) ( .cond (.tmp 36) ( .reg [4,8,28,22,23,
 24,29,30,10] false [oI 37 (.call zH false) [.tmp 4,.const (.int .u8 44)]]) ( .skip))) ( .seq ( .seq ( .reg [4,8,28,22,23,24,
 29,30,10] false [oM 38 10,oI 39 (.bin .eql) [.tmp 38,.const (.str [])],oM 40 39,oG 41 40 true .mv [.tmp 8],oG 42 40 true (.len false) [.tmp 41],oG 43 40
 true (.bin .eql) [.tmp 42,oK 1],oI 44 .pick [.tmp 40,.tmp 43,oB false],oM 45 44,oG 46 45 false .mv [.tmp 10],oG 47 45 false (.call zi
 true) [.tmp 46,.const (.str [44,34,10,13])],oI 48 .pick [.tmp 45,oB true,.tmp 47]]) ( .cond (.tmp 48) ( .reg [4,8,28,22,23,24,29,30,10] false [oM
 49 10,oI 50 (.call zb true) [.tmp 49,.const (.str [34]),.const (.str [34,34])],oI 51 (.bin .add) [.const (.str [34]),.tmp 50],oI 52
 (.bin .add) [.tmp 51,.const (.str [34])],oM 10 52]) ( .skip))) ( .seq ( .reg [4,8,28,22,23,24,29,30,10] false [oM 53 10,oD 54 (.call
 zJ false) 4 53]) ( .seq ( .reg [4,8,28,22,23,24,29,30] false [oT 55 (.call zP true) 4,oI 56 (.bin
 .gtr) [.tmp 55,oK 4000]]) ( .cond (.tmp 56) ( .seq ( .reg [] false [oI 57 (.mkIface zj) [oK 4],oI 2 .mv [.const (.str [])],oM 3 57]) ( .ret)) (
 .skip)))))))) ( .reg [4,8,28,22,23,24,29,30] false [oI 58 (.bin .add) [.tmp 30,oK 1],oM 30 58])))
def zER : AC:=.seq ( .reg [4,22,23,24] false [oD 25 (.bin .lss) 24 23]) ( .seq ( .cond (.tmp 25) ( .skip) ( .exit 2)) ( .seq ( .block 3 [4,22,
 23,24] ( .seq ( .reg [4,22,23,24] false [oD 26 (.idxAddr 1) 22 24,oL 27 1 false 26,oM 8 27]) ( .seq ( .seq ( .reg [4,8,22,23,24] false [oM 28 8,oT 29
 (.len false) 28,oI 30 .mv [oK 0]]) ( .block 4 [4,22,23,24] ( .loop [30,4,8,28,22,23,24,29] zEQ))) ( .reg [4,22,23,24] false [oI 59 (.call
 zH false) [.tmp 4,.const (.int .u8 10)]])))) ( .reg [4,22,23,24] false [oI 60 (.bin .add) [.tmp 24,oK 1],oM 24 60])))
def zDJ : AC:=.seq ( .reg [0] false [oI 2 .mv [.const (.str [])],oI 3 .mv [.const (.nili)]]) ( .seq ( .reg [0] false [⟨some 4,none,.allocT
 zA [.nilp,.lst (some true) 0 []],[]⟩]) ( .seq ( .seq ( .reg [4,0] false [oM 11 0,oT 12 (.len false) 11,oI 13 .mv [oK 0]]) ( .block 0 [4,0] (
 .loop [13,11,4,0,12] zEP))) ( .seq ( .seq ( .reg [4,0] false [oM 22 0,oT 23 (.len false) 22,oI 24 .mv [oK 0]]) ( .block 2 [4] ( .loop [4,24,
 22,23] zER))) ( .seq ( .seq ( .reg [4] false [oT 61 (.call zP true) 4,oI 62 (.bin .gtr) [.tmp 61,oK 4000]]) ( .cond (.tmp 62)
 ( .seq ( .reg [] false [oI 63 (.mkIface zj) [oK 4],oI 2 .mv [.const (.str [])],oM 3 63]) ( .ret)) ( .skip))) ( .seq ( .reg [4] false [oT 64 (.call
 zK false) 4,oM 2 64,oI 3 .mv [.const (.nili)]]) ( .ret))))))
def zBh : AF:={ results:=[.tmp 2,.tmp 3],body:=zDJ }
def zFJ : AC:=.seq ( .block 3 [0,5,8,6,7] ( .seq ( .seq ( .reg [7,0,5,8,6] false [oM 25 7,oM 26 0,oT 27 (.len true) 26,oD 28 (.bin .eql) 25
 27]) ( .cond (.tmp 28) ( .seq ( .reg [7] false [oM 29 7,oI 30 (.mkIface zj) [oK 2],oI 2 .mv [.const (.lst (some true) 0 [])],oM 3 29,oM 4 30]) (
 .ret)) ( .skip))) ( .seq ( .seq ( .reg [0,5,8,6,7] false [oM 31 0,oM 32 7,oD 33 .idxStr 31 32,oI 34 (.bin .eql) [.tmp 33,.const (.int .u8 34)]]) ( .cond
 (.tmp 34) ( .seq ( .reg [0,5,8,6,7] false [oM 35 7,oI 36 (.bin .add) [.tmp 35,oK 1],oM 7 36]) ( .seq ( .reg [0,7,5,8,6] false [oM 37 7,oM 38 0,oT 39
 (.len true) 38,oD 40 (.bin .eql) 37 39,oM 41 40,oG 42 41 false .mv [.tmp 0],oG 43 41 false .mv [.tmp 7],oG 44 41 false .idxStr [.tmp 42,.tmp 43],oG 45 41
 false (.bin .neq) [.tmp 44,.const (.int .u8 34)],oI 46 .pick [.tmp 41,oB true,.tmp 45]]) ( .cond (.tmp 46) ( .exit 2) ( .skip)))) ( .skip))) ( .reg [0,5,6,
 7,8] false [oM 47 8,oM 48 0,oM 49 7,oD 50 .idxStr 48 49,oT 51 (.bslice 1) 50,oD 52 (.append 1 1) 47 51,oM 8 52])))) ( .reg [0,5,8,6,7] false [oM 23 7,
 oI 24 (.bin .add) [.tmp 23,oK 1],oM 7 24])
def zFK : AC:=.seq ( .seq ( .reg [7,0,5,6,8] false [oM 53 7,oM 54 0,oT 55 (.len true) 54,oD 56 (.bin .lss) 53 55,oM 57 56,oG 58 57 true .mv
 [.tmp 0],oG 59 57 true .mv [.tmp 7],oG 60 57 true (.slc none true false) [.tmp 58,.tmp 59],oG 61 57 true (.call zAC true) [.tmp 60],oG 62 57 true
 (.un .not) [.tmp 61],oI 63 .pick [.tmp 57,.tmp 62,oB false]]) ( .cond (.tmp 63) ( .skip) ( .exit 4))) ( .block 5 [7,0,8,5,6] ( .seq ( .seq ( .reg [7,0,
 5,6,8] false [oM 64 0,oM 65 7,oD 66 .idxStr 64 65,oI 67 (.bin .eql) [.tmp 66,.const (.int .u8 34)]]) ( .cond (.tmp 67) ( .seq ( .reg [7] false [oM 68 7,oI
 69 (.mkIface zj) [oK 2],oI 2 .mv [.const (.lst (some true) 0 [])],oM 3 68,oM 4 69]) ( .ret)) ( .skip))) ( .seq ( .reg [0,5,6,7,8] false [oM 70 8,
 oM 71 0,oM 72 7,oD 73 .idxStr 71 72,oT 74 (.bslice 1) 73,oD 75 (.append 1 1) 70 74,oM 8 75]) ( .reg [0,8,5,6,7] false [oM 76 7,oI 77 (.bin .add) [.tmp
 76,oK 1],oM 7 77]))))
def zAX : AC:=.seq ( .seq ( .reg [0,5,6,7] false [oM 13 7,oM 14 0,oT 15 (.len true) 14,oD 16 (.bin .lss) 13 15]) ( .cond (.tmp 16) ( .skip) (
 .exit 0))) ( .block 1 [5,0,6,7] ( .seq ( .reg [0,5,6,7] false [oI 8 .mv [.const (.lst (some true) 0 [])]]) ( .seq ( .seq ( .reg [0,5,8,6,7] false [oM
 17 0,oM 18 7,oD 19 .idxStr 17 18,oI 20 (.bin .eql) [.tmp 19,.const (.int .u8 34)]]) ( .cond (.tmp 20) ( .seq ( .reg [0,5,8,6,7] false [oM 21 7,oI 22
 (.bin .add) [.tmp 21,oK 1],oM 7 22]) ( .block 2 [0,7,5,8,6] ( .loop [7,0,5,8,6] zFJ))) ( .block 4 [0,7,5,8,6] ( .loop [7,0,8,5,6]
 zFK)))) ( .seq ( .reg [0,7,5,8,6] false [oM 78 6,oM 79 8,oT 80 .bytesToStr 79,oT 81 (.bslice 1) 80,oD 82 (.append 1 16) 78 81,oM 6 82]) ( .seq
 ( .block 6 [0,7,6,5] ( .seq ( .reg [0,7,6,5] false [oM 86 7,oM 87 0,oT 88 (.len true) 87,oD 89 (.bin .eql) 86 88,oM 85 89]) ( .cond (.tmp 85) ( .skip)
 ( .seq ( .reg [5,0,6,7] false [oM 91 0,oM 92 7,oD 93 .idxStr 91 92,oI 94 (.bin .eql) [.tmp 93,.const (.int .u8 44)],oM 90 94]) ( .cond (.tmp 90) ( .seq (
 .seq ( .reg [5,0,6,7] false [oM 95 7,oI 96 (.bin .add) [.tmp 95,oK 1],oM 7 96]) ( .seq ( .reg [5,0,7,6] false [oM 97 7,oM 98 0,oT 99 (.len true) 98,
 oD 100 (.bin .eql) 97 99]) ( .cond (.tmp 100) ( .reg [5,0,7,6] false [oM 101 6,oI 102 (.bslice 1) [.const (.str [])],oD 103 (.append 1 16) 101 102,oM 6
 103]) ( .skip)))) ( .exit 1)) ( .seq ( .reg [7,0,6,5] false [oM 105 0,oM 106 7,oD 107 (.slc none true false) 105 106,oT 108 (.call zAC true) 107,oT
 109 (.un .not) 108,oM 104 109]) ( .cond (.tmp 104) ( .seq ( .reg [7] false [oM 110 7,oI 111 (.mkIface zj) [oK 2],oI 2 .mv [.const (.lst (some true) 0
 [])],oM 3 110,oM 4 111]) ( .ret)) ( .seq ( .reg [0,6,5,7] false [oM 113 0,oM 114 7,oD 115 .idxStr 113 114,oI 116 (.bin .eql) [.tmp 115,.const (.int .u8
 13)],oM 112 116]) ( .cond (.tmp 112) ( .reg [0,6,5,7] false [oM 117 7,oI 118 (.bin .add) [.tmp 117,oK 2],oM 7 118]) ( .reg [0,6,5,7] false [oM 83 7,oI
 84 (.bin .add) [.tmp 83,oK 1],oM 7 84])))))))))) ( .reg [0,7,6,5] false [oM 119 5,oM 120 6,oT 121 (.bslice 1) 120,oD 122 (.append 1 24) 119 121,oM 5
 122,oI 6 .mv [.const (.lst (some true) 0 [])]]))))))
def zHC : AC:=.seq ( .reg [0] false [oI 2 .mv [.const (.lst (some true) 0 [])],oI 3 .mv [oK 0],oI 4 .mv [.const (.nili)]]) ( .seq ( .seq ( .reg [0]
 false [oM 9 0,oT 10 (.len true) 9,oI 11 (.bin .gtr) [.tmp 10,oK 4000]]) ( .cond (.tmp 11) ( .seq ( .reg [] false [oI 12 (.mkIface zj) [oK 4],oI 2
 .mv [.const (.lst (some true) 0 [])],oI 3 .mv [oK 0],oM 4 12]) ( .ret)) ( .skip))) ( .seq ( .reg [0] false [oI 5 .mv [.const (.lst (some true) 0 [])]]) ( .seq
 ( .reg [5,0] false [oI 6 .mv [.const (.lst (some true) 0 [])]]) ( .seq ( .seq ( .reg [5,0,6] false [oI 7 .mv [oK 0]]) ( .block 0 [6,5] ( .loop [5,0,6,7]
 zAX))) ( .seq ( .seq ( .reg [6,5] false [oM 123 6,oI 124 (.eqn .sl true true) [.tmp 123,.const (.lst (some true) 0 [])]]) ( .cond (.tmp 124) ( .reg
 [6,5] false [oM 125 5,oM 126 6,oT 127 (.bslice 1) 126,oD 128 (.append 1 24) 125 127,oM 5 128]) ( .skip))) ( .seq ( .reg [5] false [oM 129 5,oM 2 129,oI 3
 .mv [oK 0],oI 4 .mv [.const (.nili)]]) ( .ret)))))))
def zCH : AF:={ results:=[.tmp 2,.tmp 3,.tmp 4],body:=zHC }
def zCY : AC:=.seq ( .seq ( .reg [5,1,0,6] false [oM 29 6,oM 30 0,oM 31 5,oD 32 (.idxAddr 1) 30 31,oL 33 1 false 32,oT 34 (.len false) 33,
 oD 35 (.bin .lss) 29 34]) ( .cond (.tmp 35) ( .skip) ( .exit 2))) ( .seq ( .block 3 [5,1,0,6] ( .seq ( .reg [5,1,0,6] true [oM 38 0,oM 39 5,oD 40
 (.idxAddr 1) 38 39,oL 41 1 false 40,oM 42 6,oD 43 (.idxAddr 1) 41 42,oL 44 1 false 43,oM 45 1,oM 46 5,oD 47 (.idxAddr 1) 45 46,oL 48 1 false 47,oM 49 6,
 oD 50 (.idxAddr 1) 48 49,oL 51 1 false 50,oD 52 (.bin .neq) 44 51]) ( .cond (.tmp 52) ( .seq ( .reg [] false [oI 4 .mv [oB false]]) ( .ret)) ( .skip)))) ( .reg
 [5,1,0,6] false [oM 36 6,oI 37 (.bin .add) [.tmp 36,oK 1],oM 6 37]))
def zCZ : AC:=.seq ( .seq ( .reg [5,1,0] false [oM 12 5,oM 13 0,oT 14 (.len false) 13,oD 15 (.bin .lss) 12 14]) ( .cond (.tmp 15) ( .skip) (
 .exit 0))) ( .seq ( .block 1 [1,0,5] ( .seq ( .seq ( .reg [5,1,0] true [oM 18 0,oM 19 5,oD 20 (.idxAddr 1) 18 19,oL 21 1 false 20,oT 22 (.len false) 21,
 oM 23 1,oM 24 5,oD 25 (.idxAddr 1) 23 24,oL 26 1 false 25,oT 27 (.len false) 26,oD 28 (.bin .neq) 22 27]) ( .cond (.tmp 28) ( .seq ( .reg [] false [oI 4 .mv
 [oB false]]) ( .ret)) ( .skip))) ( .seq ( .reg [5,1,0] false [oI 6 .mv [oK 0]]) ( .block 2 [1,0,5] ( .loop [6,5,1,0] zCY))))) ( .reg [1,0,
 5] false [oM 16 5,oI 17 (.bin .add) [.tmp 16,oK 1],oM 5 17]))
def zDT : AC:=.seq ( .reg [1,0] false [oI 4 .mv [oB false]]) ( .seq ( .seq ( .reg [1,0] false [oM 7 0,oT 8 (.len false) 7,oM 9 1,oT 10 (.len
 false) 9,oD 11 (.bin .neq) 8 10]) ( .cond (.tmp 11) ( .seq ( .reg [] false [oI 4 .mv [oB false]]) ( .ret)) ( .skip))) ( .seq ( .seq ( .reg [1,0] false [oI 5
 .mv [oK 0]]) ( .block 0 [] ( .loop [5,1,0] zCZ))) ( .seq ( .reg [] false [oI 4 .mv [oB true]]) ( .ret))))
def zBS : AF:={ results:=[.tmp 4],body:=zDT }
def zAH : AC:=.seq ( .reg [1,0] false [oI 4 .mv [.const (.nili)]]) ( .seq ( .reg [1,0] false [oM 5 0,oT 6 (.call
 zI false) 5]) ( .seq ( .reg [1,0] false [oM 7 0,oM 8 0,oN 9 8,oF 10 1 9,oL 11 1 false 10,oM 12 1,oT 13 (.bslice 1) 12,oD 14
 (.appT zq false) 11 13,oN 15 7,oF 16 1 15,oS 1 16 14]) ( .seq ( .reg [] false [oI 4 .mv [.const (.nili)]]) ( .ret))))
def ze : AF:={ results:=[.tmp 4],body:=zAH }
def z7 : AC:=.seq ( .reg [1,0] false [oI 4 .mv [oK 0],oI 5 .mv [.const (.nili)]]) ( .seq ( .reg [1,0] false [oM 6 0,oT 7
 (.call zI false) 6]) ( .seq ( .reg [1,0] false [oM 8 0,oM 9 0,oN 10 9,oF 11 1 10,oL 12 1 false 11,oM 13 1,oD 14 (.appT zq true) 12
 13,oN 15 8,oF 16 1 15,oS 1 16 14]) ( .seq ( .reg [1] false [oM 17 1,oT 18 (.len true) 17,oM 4 18,oI 5 .mv [.const (.nili)]]) ( .ret))))
def zZ : AF:={ results:=[.tmp 4,.tmp 5],body:=z7 }
def zAo : AC:=.seq ( .reg [0] false [oI 2 .mv [oK 0]]) ( .seq ( .reg [0] false [oM 3 0,oN 4 3,oF 5 1 4,oL 6 1 false 5,oT 7 (.len
 false) 6,oM 2 7]) ( .ret))
def zw : AF:={ results:=[.tmp 2],body:=zAo }
def zHD : AC:=.seq ( .reg [0] false [oI 2 .mv [oB false]]) ( .seq ( .reg [0] false [oM 3 0,oI 4 .idxStr [.tmp 3,oK 0],oI 5 (.bin .eql) [.tmp 4,
 .const (.int .u8 44)],oM 6 5,oG 7 6 false .mv [.tmp 0],oG 8 6 false .idxStr [.tmp 7,oK 0],oG 9 6 false (.bin .eql) [.tmp 8,.const (.int .u8 10)],oI 10
 .pick [.tmp 6,oB true,.tmp 9],oM 11 10,oG 12 11 false .mv [.tmp 0],oG 13 11 false (.call zf true) [.tmp 12,.const (.str [13,10])],oI 14
 .pick [.tmp 11,oB true,.tmp 13],oM 2 14]) ( .ret))
def zDu : AF:={ results:=[.tmp 2],body:=zHD }
def zBi : AC:=.seq ( .reg [1,0] false [oI 4 .mv [oB false]]) ( .seq ( .reg [1,0] false [oM 5 0,oM 6 1,oD 7 (.call zR
 true) 5 6,oM 4 7]) ( .ret))
def zAT : AF:={ results:=[.tmp 4],body:=zBi }
def zAz : AC:=.seq ( .reg [1,0] false [oI 4 .mv [oB false]]) ( .seq ( .reg [1,0] false [oM 5 0,oT 6 (.len true) 5,oM 7 1,oT 8 (.len
 true) 7,oD 9 (.bin .geq) 6 8,oM 10 9,oG 11 10 true .mv [.tmp 0],oG 12 10 true .mv [.tmp 1],oG 13 10 true (.len true) [.tmp 12],oG 14 10 true (.slc none
 false true) [.tmp 11,.tmp 13],oG 15 10 true .mv [.tmp 1],oG 16 10 true (.bin .eql) [.tmp 14,.tmp 15],oI 17 .pick [.tmp 10,.tmp 16,oB false],oM 4 17]) (
 .ret))
def zz : AF:={ results:=[.tmp 4],body:=zAz }
end Go.AM
