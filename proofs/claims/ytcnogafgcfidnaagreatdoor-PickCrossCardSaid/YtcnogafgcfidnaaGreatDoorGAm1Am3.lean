/- Several texts of mine in one (Am1, Am2, Am3). Own work. -/
import Derived.WalkKit
set_option linter.all false
namespace Go.AM
theorem zg {α : Type _} {l : List α} {i : Nat} {a : α} (h : l[i]? = some a) : ∃ (w : i < l.length),l[i] = a:=List.getElem?_eq_some_iff.1 h
theorem tO {P : Prop} (h : P:=by omega) : P:=h
theorem tT {p : Prop} [Decidable p] (h : p:=by omega) : decide p = true:=decide_eq_true h
theorem tF {p : Prop} [Decidable p] (h : ¬ p:=by omega) : decide p = false:=decide_eq_false h
theorem tE {α : Type} [BEq α] [LawfulBEq α] {a b : α} (h : a = b:=by omega) : (a == b) = true:=beq_iff_eq.2 h
theorem tN {α : Type} [BEq α] [LawfulBEq α] {a b : α} (h : a ≠ b:=by omega) : (a == b) = false:=beq_eq_false_iff_ne.2 h
inductive AV where
 | undef
 | bool (b : Bool)
 | int (k : IntKind) (n : Int)
 | str (s : List UInt8)
 | agg (cs : List AV)
 | tup (vs : List AV)
 | lst (q : Option Bool) (k : Nat) (xs : List AV)
 | lref (x : AV) (o : Nat)
 | ref (b k i o : Nat)
 | sl (q : Option Bool) (b k off len : Nat)
 | nilp
 | nilf
 | nili
 | nilm
 | fn (f : FuncId) (first caps : List AV)
 | iface (t : TypeId) (v : AV)
 | raw (v : Value)
 | pan (v : AV)
 | sca
 | mp (b : Nat)
 | mps (ks : List (Int × Int)) (vs : List AV)
 deriving Inhabited
def AV.cells : AV → List AV
 | .agg cs=>cs
 | v=>[v]
mutual
def AV.bel (n : Nat) : AV → Bool
 | .ref b _ _ _=>decide (b < n)
 | .sl _ b _ _ _=>decide (b < n)
 | .agg cs=>AV.belL n cs
 | .tup cs=>AV.belL n cs
 | .lst _ _ _=>true
 | .lref _ _=>true
 | .fn _ a b=>AV.belL n a && AV.belL n b
 | .iface _ v=>AV.bel n v
 | .mp b=>decide (b < n)
 | _=>true
def AV.belL (n : Nat) : List AV → Bool
 | []=>true
 | x :: r=>AV.bel n x && AV.belL n r
end
theorem AV.belL_iff (n : Nat) : ∀ l,AV.belL n l = true ↔ ∀ x ∈ l,AV.bel n x = true
 | []=>by simp [AV.belL]
 | x :: r=>by simp [AV.belL,AV.belL_iff n r]
def AV.noRef (v : AV) : Bool:=v.bel 0
inductive ABlk where
 | dead
 | box (cs : List AV)
 | row (k : Nat) (xs : List AV)
 | frz (k : Nat) (xs : List AV)
 | mp (ks : List (Int × Int)) (vs : List AV)
 | shp (b t k : Nat)
 | ty (b t : Nat)
 | hd (b t n : Nat)
 deriving Inhabited
abbrev Heap:=List ABlk
def ABlk.mut : ABlk → Bool
 | .box _=>true
 | .row _ _=>true
 | .mp _ _=>true
 | _=>false
def AV.one : AV → Bool
 | .undef | .agg _ | .tup _ | .raw _ | .pan _=>false
 | _=>true
def AV.elem (k : Nat) (x : AV) : Bool:=x.cells.length == k && x.noRef && x.cells.all AV.one
def Elems (k : Nat) (xs : List AV) : Prop:=∀ x ∈ xs,x.elem k = true
theorem AV.elem_iff {k : Nat} {x : AV} : x.elem k = true ↔ x.cells.length = k ∧ x.noRef = true ∧ ∀ c ∈ x.cells,c.one = true:=by
 simp [AV.elem,and_assoc]
abbrev AMap:=Nat → Option (Nat × Nat)
def zEM (p : Int × Int) : Value:=.agg #[.int .i64 p.1,.int .i64 p.2]
inductive Rel (w : World) (M : AMap) (I : Nat → Prop) (n : Nat) : AV → Value → Prop where
 | undef (v : Value) : Rel w M I n .undef v
 | bool (b : Bool) : Rel w M I n (.bool b) (.bool b)
 | int (k : IntKind) (m : Int) : Rel w M I n (.int k m) (.int k m)
 | str (s : List UInt8) : Rel w M I n (.str s) (.string ⟨s.toArray⟩)
 | agg (cs : List AV) (vs : List Value) (hl : cs.length = vs.length) (h : ∀ (i : Nat) (c : AV) (v : Value),cs[i]? = some c → vs[i]? = some v → Rel w M I n c v) : Rel w M I n (.agg cs) (.agg vs.toArray)
 | tup (cs : List AV) (vs : List Value) (hl : cs.length = vs.length) (h : ∀ (i : Nat) (c : AV) (v : Value),cs[i]? = some c → vs[i]? = some v → Rel w M I n c v) : Rel w M I n (.tup cs) (.tuple vs.toArray)
 | lnil (q : Option Bool) (k : Nat) (hq : q ≠ some false) : Rel w M I n (.lst q k []) (.slice none 0 0)
 | lemp (q : Option Bool) (k : Nat) (a : Addr) (hq : q ≠ some true) : Rel w M I n (.lst q k []) (.slice (some a) 0 0)
 | lst (q : Option Bool) (k : Nat) (xs : List AV) (g o cap : Nat) (V : Nat → Nat → Value) (hq : q ≠ some true) (hc : xs.length ≤ cap) (hm : cap ≤ maxLen) (hI : I g) (he : Elems k xs)
   (hv : ∀ (i j : Nat) (x c : AV),xs[i]? = some x → x.cells[j]? = some c → w.cell? ⟨g,o + i * k + j,none⟩ = some (V i j))
   (hr : ∀ (i j : Nat) (x c : AV),xs[i]? = some x → x.cells[j]? = some c → Rel w M I n c (V i j)) : Rel w M I n (.lst q k xs) (.slice (some ⟨g,o,none⟩) xs.length cap)
 | lref (x : AV) (oo g o : Nat) (V : Nat → Value) (hI : I g) (hx : x.noRef = true)
   (hv : ∀ (j : Nat) (c : AV),x.cells[oo + j]? = some c → w.cell? ⟨g,o + j,none⟩ = some (V j))
   (hr : ∀ (j : Nat) (c : AV),x.cells[oo + j]? = some c → Rel w M I n c (V j)) : Rel w M I n (.lref x oo) (.pointer (some ⟨g,o,none⟩))
 | ref (b k i oo g o : Nat) (hb : b < n) (hM : M b = some (g,o)) : Rel w M I n (.ref b k i oo) (.pointer (some ⟨g,o + i * k + oo,none⟩))
 | sln (q : Option Bool) (b k off : Nat) (hb : b < n) (hM : M b = none) (hq : q ≠ some false) : Rel w M I n (.sl q b k off 0) (.slice none 0 0)
 | sl (q : Option Bool) (b k off len g o p cap : Nat) (hb : b < n) (hM : M b = some (g,o)) (hc : len ≤ cap) (hm : cap ≤ maxLen) (hq : q = some true → 0 < len)
   (ha : 0 < cap → p = o + off * k ∧ ∃ e sz,w.shape? g = some (e,sz) ∧ o + (off + cap) * k ≤ sz) : Rel w M I n (.sl q b k off len) (.slice (some ⟨g,p,none⟩) len cap)
 | nilp : Rel w M I n .nilp (.pointer none)
 | nilf : Rel w M I n .nilf .nilFunc
 | nili : Rel w M I n .nili .nilIface
 | nilm : Rel w M I n .nilm (.map none)
 | fn (f : FuncId) (as bs : List AV) (vs us : List Value) (hl : as.length = vs.length) (hl' : bs.length = us.length) (h : ∀ (i : Nat) (c : AV) (v : Value),as[i]? = some c → vs[i]? = some v → Rel w M I n c v)
   (h' : ∀ (i : Nat) (c : AV) (v : Value),bs[i]? = some c → us[i]? = some v → Rel w M I n c v) : Rel w M I n (.fn f as bs) (.func (.func f) vs.toArray us.toArray)
 | iface (t : TypeId) (x : AV) (v : Value) (h : Rel w M I n x v) : Rel w M I n (.iface t x) (.iface t v)
 | raw (v : Value) : Rel w M I n (.raw v) v
 | sca (v : Value) (h : v.oneCell' = true) : Rel w M I n .sca v
 | mp (b g : Nat) (hb : b < n) (hM : M b = some (g,0)) : Rel w M I n (.mp b) (.map (some g))
 | mps (ks : List (Int × Int)) (vs : List AV) (g : Nat) (es : Array MapEntry) (clock : Nat) (hI : I g) (hw : w.heap[g]? = some (.map es clock)) (hk : es.toList.map (·.key) = ks.map zEM) (hl : vs.length = es.size) (hn : ∀ x ∈ vs,x.noRef = true)
   (hv : ∀ (i : Nat) (x : AV) (e : MapEntry),vs[i]? = some x → es[i]? = some e → Rel w M I n x e.val) : Rel w M I n (.mps ks vs) (.map (some g))
def zBJ (w : World) (M : AMap) (I : Nat → Prop) (n : Nat) (cs : List AV) (vs : List Value) : Prop:=
 cs.length = vs.length ∧ ∀ (i : Nat) (c : AV) (v : Value),cs[i]? = some c → vs[i]? = some v → Rel w M I n c v
theorem Rel.mono {w w' : World} {M M' : AMap} {I I' : Nat → Prop} {n n' : Nat} (hI : ∀ k,I k → I' k) (hb : ∀ k,I k → w'.heap[k]? = w.heap[k]?) (hM : ∀ b,b < n → M' b = M b) (hn : n ≤ n')
  (hs : ∀ g s,w.shape? g = some s → w'.shape? g = some s) {x : AV} {v : Value} (h : Rel w M I n x v) : Rel w' M' I' n' x v:=by
 have hc : ∀ g o,I g → w'.cell? ⟨g,o,none⟩ = w.cell? ⟨g,o,none⟩:=fun g o hg=>by simp [World.cell?,hb g hg]
 induction h with
 | undef v=>exact .undef v
 | bool b=>exact .bool b
 | int k m=>exact .int k m
 | str s=>exact .str s
 | agg cs vs hl _ ih=>exact .agg cs vs hl ih
 | tup cs vs hl _ ih=>exact .tup cs vs hl ih
 | lnil q k hq=>exact .lnil q k hq
 | lemp q k a hq=>exact .lemp q k a hq
 | lst q k xs g o cap V hq hcap hm hg he hv _ ih=>exact .lst q k xs g o cap V hq hcap hm (hI g hg) he (fun i j x c hx hj=>by rw [hc g _ hg]; exact hv i j x c hx hj) ih
 | lref x oo g o V hg hx hv _ ih=>exact .lref x oo g o V (hI g hg) hx (fun j c hj=>by rw [hc g _ hg]; exact hv j c hj) ih
 | ref b k i oo g o hbn hMb=>exact .ref b k i oo g o (Nat.lt_of_lt_of_le hbn hn) (by rw [hM b hbn]; exact hMb)
 | sln q b k off hbn hMb hq=>exact .sln q b k off (Nat.lt_of_lt_of_le hbn hn) (by rw [hM b hbn]; exact hMb) hq
 | sl q b k off len g o p cap hbn hMb hcl hm hq ha=>
  exact .sl q b k off len g o p cap (Nat.lt_of_lt_of_le hbn hn) (by rw [hM b hbn]; exact hMb) hcl hm hq (fun h0=>by obtain ⟨h1,e,sz,h2,h3⟩:=ha h0; exact ⟨h1,e,sz,hs _ _ h2,h3⟩)
 | nilp=>exact .nilp
 | nilf=>exact .nilf
 | nili=>exact .nili
 | nilm=>exact .nilm
 | fn f as bs vs us hl hl' _ _ ih ih'=>exact .fn f as bs vs us hl hl' ih ih'
 | iface t x v _ ih=>exact .iface t x v ih
 | raw v=>exact .raw v
 | sca v h=>exact .sca v h
 | mp b g hbn hMb=>exact .mp b g (Nat.lt_of_lt_of_le hbn hn) (by rw [hM b hbn]; exact hMb)
 | mps ks vs g es clock hg hw hk hl hnr _ ih=>exact .mps ks vs g es clock (hI g hg) (by rw [hb g hg]; exact hw) hk hl hnr ih
theorem Rel.cut {w : World} {M M' : AMap} {I : Nat → Prop} {n m : Nat} (hM : ∀ b,b < m → M' b = M b) {x : AV} {v : Value} (h : Rel w M I n x v) (hx : x.bel m = true) : Rel w M' I m x v:=by
 have inner : ∀ {y : AV} {u : Value},Rel w M I n y u → y.noRef = true → y.bel m = true:=by
  intro y u hy hn
  unfold AV.noRef at hn
  revert hn
  clear hy hx h hM
  suffices H : ∀ y,(AV.bel 0 y = true → AV.bel m y = true) from H y
  intro y
  exact AV.rec (motive_1:=fun y=>AV.bel 0 y = true → AV.bel m y = true) (motive_2:=fun l=>AV.belL 0 l = true → AV.belL m l = true)
   (by simp [AV.bel]) (by simp [AV.bel]) (by simp [AV.bel]) (by simp [AV.bel])
   (fun cs ih=>by simpa [AV.bel] using ih) (fun cs ih=>by simpa [AV.bel] using ih) (by simp [AV.bel]) (by simp [AV.bel]) (by simp [AV.bel]) (by simp [AV.bel])
   (by simp [AV.bel]) (by simp [AV.bel]) (by simp [AV.bel]) (by simp [AV.bel])
   (fun f a b iha ihb=>by simp only [AV.bel,Bool.and_eq_true]; exact fun h=>⟨iha h.1,ihb h.2⟩) (fun t v ih=>by simpa [AV.bel] using ih) (by simp [AV.bel]) (fun v ih=>by simp [AV.bel]) (by simp [AV.bel]) (by simp [AV.bel]) (by simp [AV.bel])
   (by simp [AV.belL]) (fun x r ihx ihr=>by simp only [AV.belL,Bool.and_eq_true]; exact fun h=>⟨ihx h.1,ihr h.2⟩) y
 have cellsIn : ∀ {y c : AV} {j : Nat},y.noRef = true → y.cells[j]? = some c → c.noRef = true:=by
  intro y c j hy hj
  cases y with
  | agg cs=>
   simp only [AV.noRef,AV.bel,AV.belL_iff] at hy
   exact hy c (List.mem_of_getElem? hj)
  | _=>
   simp only [AV.cells] at hj
   have hcc:=List.mem_of_getElem? hj
   simp only [List.mem_singleton] at hcc
   rw [hcc]; exact hy
 induction h with
 | undef v=>exact .undef v
 | bool b=>exact .bool b
 | int k m=>exact .int k m
 | str s=>exact .str s
 | agg cs vs hl h ih=>
  simp only [AV.bel,AV.belL_iff] at hx
  exact .agg cs vs hl fun i c v hc hv=>ih i c v hc hv (hx c (List.mem_of_getElem? hc))
 | tup cs vs hl h ih=>
  simp only [AV.bel,AV.belL_iff] at hx
  exact .tup cs vs hl fun i c v hc hv=>ih i c v hc hv (hx c (List.mem_of_getElem? hc))
 | lnil q k hq=>exact .lnil q k hq
 | lemp q k a hq=>exact .lemp q k a hq
 | lst q k xs g o cap V hq hcap hm hg he hv hr ih=>
  exact .lst q k xs g o cap V hq hcap hm hg he hv fun i j x c hx hj=>ih i j x c hx hj (inner (hr i j x c hx hj) (cellsIn (AV.elem_iff.1 (he x (List.mem_of_getElem? hx))).2.1 hj))
 | lref x oo g o V hg hxn hv hr ih=>exact .lref x oo g o V hg hxn hv fun j c hj=>ih j c hj (inner (hr j c hj) (cellsIn hxn hj))
 | ref b k i oo g o hbn hMb=>simp [AV.bel] at hx; exact .ref b k i oo g o hx (by rw [hM b hx]; exact hMb)
 | sln q b k off hbn hMb hq=>simp [AV.bel] at hx; exact .sln q b k off hx (by rw [hM b hx]; exact hMb) hq
 | sl q b k off len g o p cap hbn hMb hcl hm hq ha=>simp [AV.bel] at hx; exact .sl q b k off len g o p cap hx (by rw [hM b hx]; exact hMb) hcl hm hq ha
 | nilp=>exact .nilp
 | nilf=>exact .nilf
 | nili=>exact .nili
 | nilm=>exact .nilm
 | fn f as bs vs us hl hl' _ _ ih ih'=>
  simp only [AV.bel,Bool.and_eq_true,AV.belL_iff] at hx
  exact .fn f as bs vs us hl hl' (fun i c v hc hv=>ih i c v hc hv (hx.1 c (List.mem_of_getElem? hc))) (fun i c v hc hv=>ih' i c v hc hv (hx.2 c (List.mem_of_getElem? hc)))
 | iface t x v _ ih=>simp only [AV.bel] at hx; exact .iface t x v (ih hx)
 | raw v=>exact .raw v
 | sca v h=>exact .sca v h
 | mp b g hbn hMb=>simp [AV.bel] at hx; exact .mp b g hx (by rw [hM b hx]; exact hMb)
 | mps ks vs g es clock hg hw hk hl hnr hv ih=>exact .mps ks vs g es clock hg hw hk hl hnr fun i x e h1 h2=>ih i x e h1 h2 (inner (hv i x e h1 h2) (hnr x (List.mem_of_getElem? h1)))
theorem Rel.bel {w : World} {M : AMap} {I : Nat → Prop} {n : Nat} {x : AV} {v : Value} (h : Rel w M I n x v) : x.bel n = true:=by
 induction h with
 | agg cs vs hl h ih=>
  simp only [AV.bel,AV.belL_iff]
  intro c hc
  obtain ⟨i,hi⟩:=List.getElem?_of_mem hc
  obtain ⟨u,hu⟩ : ∃ u,vs[i]? = some u:=⟨_,List.getElem?_eq_getElem (by have:=(zg hi).1; omega)⟩
  exact ih i c u hi hu
 | tup cs vs hl h ih=>
  simp only [AV.bel,AV.belL_iff]
  intro c hc
  obtain ⟨i,hi⟩:=List.getElem?_of_mem hc
  obtain ⟨u,hu⟩ : ∃ u,vs[i]? = some u:=⟨_,List.getElem?_eq_getElem (by have:=(zg hi).1; omega)⟩
  exact ih i c u hi hu
 | fn f as bs vs us hl hl' _ _ ih ih'=>
  simp only [AV.bel,Bool.and_eq_true,AV.belL_iff]
  refine ⟨fun c hc=>?_,fun c hc=>?_⟩
  ·obtain ⟨i,hi⟩:=List.getElem?_of_mem hc
   obtain ⟨u,hu⟩ : ∃ u,vs[i]? = some u:=⟨_,List.getElem?_eq_getElem (by have:=(zg hi).1; omega)⟩
   exact ih i c u hi hu
  ·obtain ⟨i,hi⟩:=List.getElem?_of_mem hc
   obtain ⟨u,hu⟩ : ∃ u,us[i]? = some u:=⟨_,List.getElem?_eq_getElem (by have:=(zg hi).1; omega)⟩
   exact ih' i c u hi hu
 | iface t x v _ ih=>simpa [AV.bel] using ih
 | ref b k i oo g o hbn hMb=>simpa [AV.bel] using hbn
 | sln q b k off hbn hMb hq=>simpa [AV.bel] using hbn
 | sl q b k off len g o p cap hbn hMb hcl hm hq ha=>simpa [AV.bel] using hbn
 | mp b g hbn hMb=>simpa [AV.bel] using hbn
 | _=>simp [AV.bel]
theorem AV.noRef_cells {y c : AV} {j : Nat} (hy : y.noRef = true) (hj : y.cells[j]? = some c) : c.noRef = true:=by
 cases y with
 | agg cs=>
  simp only [AV.noRef,AV.bel,AV.belL_iff] at hy
  exact hy c (List.mem_of_getElem? hj)
 | _=>
  simp only [AV.cells] at hj
  have hcc:=List.mem_of_getElem? hj
  simp only [List.mem_singleton] at hcc
  rw [hcc]; exact hy
theorem Rel.free {w : World} {M M' : AMap} {I : Nat → Prop} {n n' : Nat} {x : AV} {v : Value} (h : Rel w M I n x v) (hx : x.noRef = true) : Rel w M' I n' x v:=
 Rel.mono (M:=M') (n:=0) (fun _ h=>h) (fun _ _=>rfl) (fun _ h=>absurd h (Nat.not_lt_zero _)) (Nat.zero_le _) (fun _ _ h=>h) (Rel.cut (m:=0) (fun _ h=>absurd h (Nat.not_lt_zero _)) h hx)
theorem Rel.mk_lst {w : World} {M : AMap} {I : Nat → Prop} {n : Nat} {q : Option Bool} {xs : List AV} {g o cap k : Nat} (hq : q ≠ some true) (hc : xs.length ≤ cap) (hm : cap ≤ maxLen) (hI : I g) (he : Elems k xs)
  (h : ∀ i j x c,xs[i]? = some x → x.cells[j]? = some c → ∃ v,w.cell? ⟨g,o + i * k + j,none⟩ = some v ∧ Rel w M I n c v) : Rel w M I n (.lst q k xs) (.slice (some ⟨g,o,none⟩) xs.length cap):=by
 refine .lst q k xs g o cap (fun i j=>(w.cell? ⟨g,o + i * k + j,none⟩).getD Go.undef) hq hc hm hI he (fun i j x c hx hj=>?_) (fun i j x c hx hj=>?_)
 ·obtain ⟨v,h1,_⟩:=h i j x c hx hj; simp [h1]
 ·obtain ⟨v,h1,h2⟩:=h i j x c hx hj; simpa [h1] using h2
theorem Rel.mk_lref {w : World} {M : AMap} {I : Nat → Prop} {n : Nat} {x : AV} {oo g o : Nat} (hI : I g) (hx : x.noRef = true)
  (h : ∀ j c,x.cells[oo + j]? = some c → ∃ v,w.cell? ⟨g,o + j,none⟩ = some v ∧ Rel w M I n c v) : Rel w M I n (.lref x oo) (.pointer (some ⟨g,o,none⟩)):=by
 refine .lref x oo g o (fun j=>(w.cell? ⟨g,o + j,none⟩).getD Go.undef) hI hx (fun j c hj=>?_) (fun j c hj=>?_)
 ·obtain ⟨v,h1,_⟩:=h j c hj; simp [h1]
 ·obtain ⟨v,h1,h2⟩:=h j c hj; simpa [h1] using h2
theorem Rel.oneCell {w : World} {M : AMap} {I : Nat → Prop} {n : Nat} {x : AV} {v : Value} (h : Rel w M I n x v) (hx : x.one = true) : v.oneCell' = true:=by
 cases h <;> first | rfl | assumption | simp [AV.one] at hx
def Cells (w : World) (g : Nat) (cur : Array Value) (k : Nat:=1) : Prop:=
 ∃ e fz,w.heap[g]? = some (.cells cur e fz) ∧ ∀ j,j < cur.size + (k - 1) → ¬ (fz.1 ≤ j ∧ j < fz.2)
def zGF (w : World) (M : AMap) (I : Nat → Prop) (n b : Nat) : ABlk → Prop
 | .dead=>True
 | .box cs=>∃ g o cur,M b = some (g,o) ∧ Cells w g cur ∧ ¬ I g ∧ o + cs.length ≤ cur.size ∧ ∀ j c,cs[j]? = some c → ∃ v,cur[o + j]? = some v ∧ Rel w M I n c v
 | .row k xs=>Elems k xs ∧ ((M b = none ∧ xs = []) ∨ ∃ g o cur,M b = some (g,o) ∧ Cells w g cur k ∧ ¬ I g ∧ o + xs.length * k ≤ cur.size ∧
   ∀ i j x c,xs[i]? = some x → x.cells[j]? = some c → ∃ v,cur[o + i * k + j]? = some v ∧ Rel w M I n c v)
 | .frz k xs=>Elems k xs ∧ ((M b = none ∧ xs = []) ∨ ∃ g o,M b = some (g,o) ∧ I g ∧
   ∀ i j x c,xs[i]? = some x → x.cells[j]? = some c → ∃ v,w.cell? ⟨g,o + i * k + j,none⟩ = some v ∧ Rel w M I n c v)
 | .mp ks vs=>∃ (g : Nat) (es : Array MapEntry) (clock : Nat),M b = some (g,0) ∧ w.heap[g]? = some (.map es clock) ∧ ¬ I g ∧ es.toList.map (·.key) = ks.map zEM ∧ vs.length = es.size ∧ (∀ x ∈ vs,x.noRef = true) ∧
   ∀ (i : Nat) (x : AV) (e : MapEntry),vs[i]? = some x → es[i]? = some e → Rel w M I n x e.val
 | .shp b' t k=>b' < b ∧ ∃ g,M b' = some (g,0) ∧ w.shape? g = some (t,k)
 | .ty b' t=>b' < b ∧ ∃ g c,M b' = some (g,0) ∧ w.shape? g = some (t,c)
 | .hd b' t k=>b' < b ∧ ∃ g cur hi,M b' = some (g,0) ∧ I g ∧ k ≤ hi ∧ w.heap[g]? = some (.cells cur t (0,hi))
def zC2 (H : Heap) (M : AMap) (k : Nat) : Prop:=∃ b x o,H[b]? = some x ∧ x.mut = true ∧ M b = some (k,o)
structure Sim (GT : Nat → Option AV) (w : World) (M : AMap) (I : Nat → Prop) (H : Heap) : Prop where
 glob : ∀ g x,GT g = some x → Rel w M I 0 (.lref x 0) (.pointer (some ⟨g,0,none⟩))
 idom : ∀ k,I k → k < w.heap.size
 blk : ∀ b x,H[b]? = some x → zGF w M I H.length b x
 inj : ∀ b b' x x' g o o',H[b]? = some x → x.mut = true → H[b']? = some x' → x'.mut = true → M b = some (g,o) → M b' = some (g,o') → b = b'
 shp : ∀ g x,GT g = some x → ∃ e,w.shape? g = some (e,x.cells.length)
structure Grow (w : World) (M : AMap) (I : Nat → Prop) (H : Heap) (w' : World) (M' : AMap) (I' : Nat → Prop) (H' : Heap) : Prop where
 os : w'.os = w.os
 tape : w'.tape = w.tape
 output : w'.output = w.output
 size : w.heap.size ≤ w'.heap.size
 map : ∀ b,b < H.length → M' b = M b
 imm : ∀ k,I k → I' k
 imm' : ∀ k,I' k → k < w.heap.size → I k ∨ zC2 H M k
 frame : ∀ k,k < w.heap.size → ¬ zC2 H M k → w'.heap[k]? = w.heap[k]?
 live : ∀ k,k < w.heap.size → zC2 H' M' k → zC2 H M k
 shape : ∀ g s,w.shape? g = some s → w'.shape? g = some s
 len : H.length ≤ H'.length
theorem Sim.notLive {GT : Nat → Option AV} {w : World} {M : AMap} {I : Nat → Prop} {H : Heap} (h : Sim GT w M I H) {k : Nat} (hk : I k) : ¬ zC2 H M k:=by
 rintro ⟨b,x,o,hb,hm,hM⟩
 have hB:=h.blk b x hb
 cases x with
 | dead=>simp [ABlk.mut] at hm
 | shp=>simp [ABlk.mut] at hm
 | ty=>simp [ABlk.mut] at hm
 | hd=>simp [ABlk.mut] at hm
 | frz=>simp [ABlk.mut] at hm
 | box cs=>
  obtain ⟨g,o',cur,h1,_,h3,_⟩:=hB
  rw [hM] at h1; simp at h1; obtain ⟨rfl,_⟩:=h1; exact h3 hk
 | row k' xs=>
  obtain ⟨_,⟨h1,_⟩ | ⟨g,o',cur,h1,_,h3,_⟩⟩:=hB
  ·rw [hM] at h1; cases h1
  ·rw [hM] at h1; simp at h1; obtain ⟨rfl,_⟩:=h1; exact h3 hk
 | mp ks vs=>
  obtain ⟨g,es,cl,h1,_,h3,_⟩:=hB
  rw [hM] at h1; simp at h1; obtain ⟨rfl,_⟩:=h1; exact h3 hk
theorem Grow.refl (w : World) (M : AMap) (I : Nat → Prop) (H : Heap) : Grow w M I H w M I H:=
 ⟨rfl,rfl,rfl,Nat.le_refl _,fun _ _=>rfl,fun _ h=>h,fun _ h _=>.inl h,fun _ _ _=>rfl,fun _ _ h=>h,fun _ _ h=>h,Nat.le_refl _⟩
theorem Grow.trans {w w1 w2 : World} {M M1 M2 : AMap} {I I1 I2 : Nat → Prop} {H H1 H2 : Heap} (h : Grow w M I H w1 M1 I1 H1) (k : Grow w1 M1 I1 H1 w2 M2 I2 H2) : Grow w M I H w2 M2 I2 H2 where
 os:=k.os.trans h.os
 tape:=k.tape.trans h.tape
 output:=k.output.trans h.output
 size:=Nat.le_trans h.size k.size
 map:=fun b hb=>(k.map b (Nat.lt_of_lt_of_le hb h.len)).trans (h.map b hb)
 imm:=fun j hj=>k.imm j (h.imm j hj)
 imm':=fun j hj hlt=>by
  rcases k.imm' j hj (Nat.lt_of_lt_of_le hlt h.size) with h1 | h1
  ·exact h.imm' j h1 hlt
  ·exact .inr (h.live j hlt h1)
 frame:=fun j hj hn=>(k.frame j (Nat.lt_of_lt_of_le hj h.size) (fun hl=>hn (h.live j hj hl))).trans (h.frame j hj hn)
 live:=fun j hj hl=>h.live j hj (k.live j (Nat.lt_of_lt_of_le hj h.size) hl)
 shape:=fun g s hs=>k.shape g s (h.shape g s hs)
 len:=Nat.le_trans h.len k.len
theorem Grow.rel {GT : Nat → Option AV} {w w' : World} {M M' : AMap} {I I' : Nat → Prop} {H H' : Heap} (h : Grow w M I H w' M' I' H') (hS : Sim GT w M I H) {x : AV} {v : Value} (hx : Rel w M I H.length x v) : Rel w' M' I' H'.length x v:=
 hx.mono h.imm (fun k hk=>h.frame k (hS.idom k hk) (hS.notLive hk)) h.map h.len h.shape
theorem Grow.rel0 {GT : Nat → Option AV} {w w' : World} {M M' : AMap} {I I' : Nat → Prop} {H H' : Heap} (h : Grow w M I H w' M' I' H') (hS : Sim GT w M I H) {n : Nat} {x : AV} {v : Value} (hx : Rel w M I n x v) (hf : x.noRef = true) : Rel w' M' I' n x v:=
 (hx.free (M':=M) (n':=0) hf).mono h.imm (fun k hk=>h.frame k (hS.idom k hk) (hS.notLive hk)) (fun _ h=>absurd h (Nat.not_lt_zero _)) (Nat.zero_le _) h.shape
theorem Grow.glob {GT : Nat → Option AV} {w w' : World} {M M' : AMap} {I I' : Nat → Prop} {H H' : Heap} (h : Grow w M I H w' M' I' H') (hS : Sim GT w M I H) : ∀ g x,GT g = some x → Rel w' M' I' 0 (.lref x 0) (.pointer (some ⟨g,0,none⟩)):=
 fun g x hg=>h.rel0 hS (hS.glob g x hg) (by simp [AV.noRef,AV.bel])
theorem zGF.mono {w w' : World} {M M' : AMap} {I I' : Nat → Prop} {n n' b : Nat} {x : ABlk} (h : zGF w M I n b x) (hbn : b < n) (hI : ∀ k,I k → I' k) (hb : ∀ k,I k → w'.heap[k]? = w.heap[k]?) (hM : ∀ b,b < n → M' b = M b) (hn : n ≤ n')
  (hs : ∀ g s,w.shape? g = some s → w'.shape? g = some s) (hheap : ∀ g o,M b = some (g,o) → x.mut = true → w'.heap[g]? = w.heap[g]?) (hnI : ∀ g o,M b = some (g,o) → x.mut = true → ¬ I g → ¬ I' g) : zGF w' M' I' n' b x:=by
 have R : ∀ {c v},Rel w M I n c v → Rel w' M' I' n' c v:=fun h=>h.mono hI hb hM hn hs
 cases x with
 | dead=>trivial
 | shp b' t k=>
  obtain ⟨hlt,g,h1,h2⟩:=h
  exact ⟨hlt,g,(hM b' (Nat.lt_trans hlt hbn)).trans h1,hs _ _ h2⟩
 | ty b' t=>
  obtain ⟨hlt,g,k,h1,h2⟩:=h
  exact ⟨hlt,g,k,(hM b' (Nat.lt_trans hlt hbn)).trans h1,hs _ _ h2⟩
 | hd b' t k=>
  obtain ⟨hlt,g,cur,hi,h1,h2,h3,h4⟩:=h
  exact ⟨hlt,g,cur,hi,(hM b' (Nat.lt_trans hlt hbn)).trans h1,hI g h2,h3,(hb g h2).trans h4⟩
 | box cs=>
  obtain ⟨g,o,cur,h1,⟨e,fz,h2,h2'⟩,h3,h4,h5⟩:=h
  exact ⟨g,o,cur,(hM b hbn).trans h1,⟨e,fz,(hheap g o h1 rfl).trans h2,h2'⟩,hnI g o h1 rfl h3,h4,fun j c hj=>let ⟨v,a,b⟩:=h5 j c hj; ⟨v,a,R b⟩⟩
 | row k xs=>
  obtain ⟨he,⟨h1,h2⟩ | ⟨g,o,cur,h1,⟨e,fz,h2,h2'⟩,h3,h4,h5⟩⟩:=h
  ·exact ⟨he,.inl ⟨(hM b hbn).trans h1,h2⟩⟩
  ·exact ⟨he,.inr ⟨g,o,cur,(hM b hbn).trans h1,⟨e,fz,(hheap g o h1 rfl).trans h2,h2'⟩,hnI g o h1 rfl h3,h4,fun i j x c hx hj=>let ⟨v,a,b⟩:=h5 i j x c hx hj; ⟨v,a,R b⟩⟩⟩
 | frz k xs=>
  obtain ⟨he,⟨h1,h2⟩ | ⟨g,o,h1,h3,h5⟩⟩:=h
  ·exact ⟨he,.inl ⟨(hM b hbn).trans h1,h2⟩⟩
  ·exact ⟨he,.inr ⟨g,o,(hM b hbn).trans h1,hI g h3,fun i j x c hx hj=>let ⟨v,a,b⟩:=h5 i j x c hx hj; ⟨v,by simpa [World.cell?,hb g h3] using a,R b⟩⟩⟩
 | mp ks vs=>
  obtain ⟨g,es,cl,h1,h2,h3,h4,h5,h6,h7⟩:=h
  exact ⟨g,es,cl,(hM b hbn).trans h1,(hheap g 0 h1 rfl).trans h2,hnI g 0 h1 rfl h3,h4,h5,h6,fun i x e a c=>R (h7 i x e a c)⟩
theorem zd {w w' : World} {g : Nat} (h : w'.heap[g]? = w.heap[g]?) : w'.shape? g = w.shape? g:=by simp [World.shape?,h]
end Go.AM
namespace Go.AM
abbrev Fr:=List (Nat × AV)
def get : Fr → Nat → AV
 | [],_=>.undef
 | (j,v) :: r,i=>if j = i then v else get r i
def restrict (fr : Fr) (L : List Nat) : Fr:=L.map fun i=>(i,get fr i)
inductive Opd where
 | tmp (t : Nat)
 | const (v : AV)
 | glob (g : Nat)
 | fn (f : FuncId)
 deriving Inhabited
def ev (GT : Nat → Option AV) (fr : Fr) : Opd → AV
 | .tmp t=>get fr t
 | .const v=>v
 | .glob g=>match GT g with
  | some x=>.lref x 0
  | none=>.undef
 | .fn f=>.fn f [] []
inductive Sc where
 | int (k : IntKind)
 | bool
 | str
 deriving DecidableEq,Inhabited
inductive EK where
 | iface
 | ptr
 | sl
 | fn
 deriving DecidableEq,Inhabited
inductive AK where
 | mv
 | pick
 | bin (op : BinOp)
 | eqs (neg : Bool) (sh : List Sc)
 | eqb (neg : Bool)
 | eqn (e : EK) (neg lit : Bool)
 | un (op : UnOp)
 | convInt (k : IntKind)
 | convRune
 | convId
 | bytesToStr
 | strToBytes
 | mkIface (t : TypeId)
 | tyAs (t : TypeId)
 | mkFn (f : FuncId) (m : Nat)
 | len (s : Bool)
 | slc (k : Option Nat) (lo hi : Bool)
 | fieldAddr (o : Nat)
 | field (o s : Nat) (ag : Bool)
 | idxAddr (k : Nat)
 | idxArr (k n : Nat)
 | idxStr
 | idxAgg (k n : Nat) (ag : Bool)
 | nilchk
 | extract (i : Nat)
 | load (s : Nat) (ag : Bool)
 | store (s : Nat)
 | alloc (z : List AV)
 | allocT (t : Nat) (z : List AV)
 | box
 | build (z : List AV) (pl : List (Nat × Nat))
 | bslice (k : Nat)
 | make (k bytes : Nat) (z : AV)
 | append (k bytes : Nat)
 | copy (k : Nat)
 | min
 | max
 | call (f : FuncId) (rd : Bool)
 | callv (rd : Bool)
 | appendS
 | appT (t : Nat) (s : Bool)
 | stuck
 | callp (f : FuncId)
 | callvp
 | panic
 | mkmap
 | mget (z : AV) (ok : Bool)
 | mset
 | mlen
 | clear (k : Nat) (z : AV)
 deriving Inhabited
structure AI where
 dst : Option Nat
 g : Option (Nat × Bool)
 k : AK
 xs : List Opd
 deriving Inhabited
inductive OT where
 | done
 | step (j : Nat) (t : OT)
 | alt (a b : OT)
 deriving Inhabited
inductive AC where
 | skip
 | reg (L : List Nat) (draw : Bool) (ops : List AI)
 | seq (a b : AC)
 | cond (c : Opd) (a b : AC)
 | block (id : Nat) (L : List Nat) (c : AC)
 | loop (L : List Nat) (c : AC)
 | exit (id : Nat)
 | ret
 | stuck
 | regt (L : List Nat) (draw : Bool) (ops : List AI) (t : OT)
 | label
 | goto (l : Nat)
 | scope (L : List Nat) (l : Nat) (c r : AC)
 deriving Inhabited
def zDq (op : BinOp) (k : IntKind) (a b : Int) : Option AV:=
 match op with
 | .add=>some (.int k (k.wrap (a + b)))
 | .sub=>some (.int k (k.wrap (a - b)))
 | .mul=>some (.int k (k.wrap (a * b)))
 | .quo=>if b = 0 then none else some (.int k (k.wrap (a.tdiv b)))
 | .rem=>if b = 0 then none else some (.int k (a.tmod b))
 | .and=>some (.int k (k.wrap (BitVec.ofInt k.bits a &&& BitVec.ofInt k.bits b).toNat))
 | .or=>some (.int k (k.wrap (BitVec.ofInt k.bits a ||| BitVec.ofInt k.bits b).toNat))
 | .xor=>some (.int k (k.wrap (BitVec.ofInt k.bits a ^^^ BitVec.ofInt k.bits b).toNat))
 | .andNot=>some (.int k (k.wrap (BitVec.ofInt k.bits a &&& ~~~BitVec.ofInt k.bits b).toNat))
 | .eql=>some (.bool (a == b))
 | .neq=>some (.bool (a != b))
 | .lss=>some (.bool (decide (a < b)))
 | .leq=>some (.bool (decide (a ≤ b)))
 | .gtr=>some (.bool (decide (a > b)))
 | .geq=>some (.bool (decide (a ≥ b)))
 | _=>none
def zAj (op : BinOp) (k : IntKind) (a b : Int) : Option AV:=
 if b < 0 then none else
 match op with
 | .shl=>some (.int k (k.wrap (a * 2 ^ Nat.min b.toNat k.bits)))
 | .shr=>some (.int k (a.fdiv (2 ^ Nat.min b.toNat k.bits)))
 | _=>none
def zHY (op : BinOp) (a b : List UInt8) : Option AV:=
 match op with
 | .add=>if a.length + b.length ≤ 9223372036854775807 then some (.str (a ++ b)) else none
 | .eql=>some (.bool (a == b))
 | .neq=>some (.bool (!(a == b)))
 | .lss=>some (.bool (Op.bytesLess a b))
 | .leq=>some (.bool (Op.bytesLess a b || a == b))
 | .gtr=>some (.bool (!(Op.bytesLess a b || a == b)))
 | .geq=>some (.bool (!Op.bytesLess a b))
 | _=>none
def zQp (op : BinOp) : AV → AV → Option AV
 | .int k a,.int k' b=>
  if op = .shl ∨ op = .shr then zAj op k a b
  else if k = k' then zDq op k a b else none
 | .str a,.str b=>zHY op a b
 | _,_=>none
def zHZ : Sc → AV → AV → Option Bool
 | .int k,.int k1 a,.int k2 b=>if k1 = k ∧ k2 = k then some (a == b) else none
 | .bool,.bool a,.bool b=>some (a == b)
 | .str,.str a,.str b=>some (a == b)
 | _,_,_=>none
def zi : List Sc → List AV → List AV → Option Bool
 | [],[],[]=>some true
 | s :: r,a :: x,b :: y=>match zHZ s a b,zi r x y with
  | some p,some q=>some (p && q)
  | _,_=>none
 | _,_,_=>none
def nilness : AV → Option Bool
 | .lst q _ _=>q
 | .sl (some false) _ _ _ _=>some false
 | .sl (some true) _ _ _ len=>some (decide (len = 0))
 | _=>none
def zOK : EK → Bool → AV → AV → Option Bool
 | .iface,lit,.nili,.nili=>if lit then some true else none
 | .iface,_,.nili,.iface _ _=>some false
 | .iface,_,.iface _ _,.nili=>some false
 | .ptr,_,.nilp,.nilp=>some true
 | .ptr,_,.nilp,.ref ..=>some false
 | .ptr,_,.nilp,.lref ..=>some false
 | .ptr,_,.ref ..,.nilp=>some false
 | .ptr,_,.lref ..,.nilp=>some false
 | .fn,_,.nilf,.nilf=>some true
 | .fn,_,.nilf,.fn ..=>some false
 | .fn,_,.fn ..,.nilf=>some false
 | .sl,_,.lst (some true) _ _,x=>nilness x
 | .sl,_,x,.lst (some true) _ _=>nilness x
 | _,_,_,_=>none
def aUn (op : UnOp) : AV → Option AV
 | .int k a=>match op with
  | .neg=>some (.int k (k.wrap (0 - a)))
  | .xor=>some (.int k (k.wrap (BitVec.ofInt k.bits (if k.signed then -1 else k.max) ^^^ BitVec.ofInt k.bits a).toNat))
  | _=>none
 | .bool b=>match op with
  | .not=>some (.bool (!b))
  | _=>none
 | _=>none
def zBK (c : UInt8) : AV:=.int .u8 c.toNat
def zDE : List AV → Option (List UInt8)
 | []=>some []
 | .int .u8 n :: r=>(zDE r).map (UInt8.ofNat n.toNat :: ·)
 | _=>none
def view (H : Heap) (w : Nat) : AV → Option (List AV)
 | .lst _ k xs=>if k = w then some xs else if xs.isEmpty then some [] else none
 | .sl _ b k off len=>if k = w then (match H[b]? with
  | some (.row k' xs)=>if k' = k ∧ off + len ≤ xs.length then some ((xs.drop off).take len) else none
  | some (.frz k' xs)=>if k' = k ∧ off + len ≤ xs.length then some ((xs.drop off).take len) else none
  | _=>none) else none
 | _=>none
def aLen : Bool → AV → Option Nat
 | false,.lst _ _ xs=>some xs.length
 | false,.sl _ _ _ _ len=>some len
 | true,.str s=>some s.length
 | _,_=>none
def aHi (l : Nat) : Option AV → Option Nat
 | none=>some l
 | some (.int _ n)=>if 0 ≤ n ∧ n ≤ (l : Int) then some n.toNat else none
 | _=>none
def aLo (h : Nat) : Option AV → Option Nat
 | none=>some 0
 | some (.int _ n)=>if 0 ≤ n ∧ n ≤ (h : Int) then some n.toNat else none
 | _=>none
def zAe (l : Nat) (lo hi : Option AV) : Option (Nat × Nat):=
 match aHi l hi with
 | none=>none
 | some h=>match aLo h lo with
  | none=>none
  | some a=>some (a,h)
def zPU (q : Option Bool) (l h : Nat) : Option Bool:=
 match q with
 | some false=>some false
 | some true=>if l < h then some true else none
 | none=>none
def zH7 (q : Option Bool) (l h : Nat) : Option Bool:=
 match q with
 | some true=>if l < h then some false else some true
 | q=>q
def zAN (k : Option Nat) (x : AV) (lo hi : Option AV) : Option AV:=
 match k,x with
 | none,.str s=>(zAe s.length lo hi).map fun (l,h)=>.str ((s.take h).drop l)
 | some k,.lst q k' xs=>if k' = k ∨ xs.isEmpty = true then (zAe xs.length lo hi).map fun (l,h)=>.lst (zH7 q l h) k' ((xs.take h).drop l) else none
 | some k,.sl q b k' off len=>if k' = k then (zAe len lo hi).map fun (l,h)=>.sl (zPU q l h) b k (off + l) (h - l) else none
 | _,_=>none
def part (cs : List AV) (o s : Nat) (ag : Bool) : Option AV:=
 if ag then (if o + s ≤ cs.length then some (.agg ((cs.drop o).take s)) else none) else cs[o]?
def zl (H : Heap) : AV → Option (List AV × Nat)
 | .lref x o=>some (x.cells,o)
 | .ref b k i o=>match H[b]? with
  | some (.box cs)=>if i = 0 then some (cs,o) else none
  | some (.row k' xs)=>if k' = k then (xs[i]?).map fun x=>(x.cells,o) else none
  | some (.frz k' xs)=>if k' = k then (xs[i]?).map fun x=>(x.cells,o) else none
  | _=>none
 | _=>none
def splice (cs : List AV) (o : Nat) (vs : List AV) : List AV:=cs.take o ++ vs ++ cs.drop (o + vs.length)
def zDF (x : AV) (o : Nat) (v : AV) : AV:=
 match x with
 | .agg cs=>.agg (splice cs o v.cells)
 | _=>v
def zOL (q : Option Bool) (ys : List AV) : Option Bool:=
 match q with
 | some false=>some false
 | some true=>some ys.isEmpty
 | none=>none
mutual
def zCl (n0 : Nat) : AV → Heap → Option (AV × Heap)
 | .sl q b k off len,H=>
  if b < n0 then some (.sl q b k off len,H) else
  match H[b]? with
  | some (.row k' xs)=>if k' = k ∧ off + len ≤ xs.length then some (.lst (zOL q ((xs.drop off).take len)) k ((xs.drop off).take len),H.set b (.frz k' xs)) else none
  | some (.frz k' xs)=>if k' = k ∧ off + len ≤ xs.length then some (.lst (zOL q ((xs.drop off).take len)) k ((xs.drop off).take len),H) else none
  | _=>none
 | .agg cs,H=>match zMX n0 cs H with
  | some (cs',H')=>some (.agg cs',H')
  | none=>none
 | .tup cs,H=>match zMX n0 cs H with
  | some (cs',H')=>some (.tup cs',H')
  | none=>none
 | .iface t v,H=>match zCl n0 v H with
  | some (v',H')=>some (.iface t v',H')
  | none=>none
 | .mp b,H=>if b < n0 then some (.mp b,H) else
  match H[b]? with
  | some (.mp ks vs)=>some (.mps ks vs,H.set b .dead)
  | _=>none
 | v,H=>some (v,H)
def zMX (n0 : Nat) : List AV → Heap → Option (List AV × Heap)
 | [],H=>some ([],H)
 | x :: r,H=>match zCl n0 x H with
  | some (x',H')=>match zMX n0 r H' with
   | some (r',H'')=>some (x' :: r',H'')
   | none=>none
  | none=>none
end
def zCN (cs : List AV) : List (Nat × Nat) → List AV → Option (List AV)
 | [],[]=>some cs
 | (o,s) :: pl,v :: vs=>if v.cells.length = s ∧ o + s ≤ cs.length ∧ v.cells.all AV.one = true then zCN (splice cs o v.cells) pl vs else none
 | _,_=>none
def mfind (k : Int × Int) : List (Int × Int) → Option Nat
 | []=>none
 | x :: r=>if k = x then some 0 else (mfind k r).map (· + 1)
def zOM : AV → Option (Int × Int)
 | .agg [.int .i64 a,.int .i64 b]=>some (a,b)
 | _=>none
def mview (H : Heap) : AV → Option (List (Int × Int) × List AV)
 | .mps ks vs=>some (ks,vs)
 | .mp b=>match H[b]? with
  | some (.mp ks vs)=>some (ks,vs)
  | _=>none
 | .nilm=>some ([],[])
 | _=>none
def zPk (H : Heap) (z : AV) (ok : Bool) (m k : AV) : Option AV:=
 match mview H m with
 | some (ks,vs)=>match zOM k with
  | some p=>match mfind p ks with
   | some i=>(vs[i]?).map fun v=>if ok then .tup [v,.bool true] else v
   | none=>some (if ok then .tup [z,.bool false] else z)
  | none=>none
 | none=>none
def mput (p : Int × Int) (v : AV) (ks : List (Int × Int)) (vs : List AV) : List (Int × Int) × List AV:=
 match mfind p ks with
 | some i=>(ks,vs.set i v)
 | none=>(ks ++ [p],vs ++ [v])
def zPl (H : Heap) (m k v : AV) : Option Heap:=
 match m with
 | .mp b=>match H[b]? with
  | some (.mp ks vs)=>match zOM k with
   | some p=>if v.noRef = true then some (H.set b (.mp (mput p v ks vs).1 (mput p v ks vs).2)) else none
   | none=>none
  | _=>none
 | _=>none
def astep : AK → List AV → Heap → Option (AV × Heap)
 | .mv,[x],H=>some (x,H)
 | .pick,[.bool c,x,y],H=>some (if c then x else y,H)
 | .bin op,[x,y],H=>(zQp op x y).map (·,H)
 | .eqs neg sh,[.agg x,.agg y],H=>(zi sh x y).map fun b=>(.bool (if neg then !b else b),H)
 | .eqb neg,[.bool a,.bool b],H=>some (.bool (if neg then !(a == b) else a == b),H)
 | .eqn e neg lit,[x,y],H=>(zOK e lit x y).map fun b=>(.bool (if neg then !b else b),H)
 | .un op,[x],H=>(aUn op x).map (·,H)
 | .convInt k,[.int _ n],H=>some (.int k (k.wrap n),H)
 | .convRune,[.int _ n],H=>some (.str (Utf8.encode n).data.toList,H)
 | .convId,[.str s],H=>some (.str s,H)
 | .bytesToStr,[x],H=>match view H 1 x with
  | some xs=>(zDE xs).map fun s=>(.str s,H)
  | none=>none
 | .strToBytes,[.str s],H=>if s.length ≤ 140737488355328 then some (.sl (some false) H.length 1 0 s.length,H ++ [.row 1 (s.map zBK)]) else none
 | .mkIface t,[x],H=>some (.iface t x,H)
 | .tyAs t,[.iface t' x],H=>if t' = t then some (.tup [x,.bool true],H) else none
 | .mkFn f m,xs,H=>some (.fn f (xs.take m) (xs.drop m),H)
 | .len s,[x],H=>(aLen s x).map fun (n : Nat)=>(AV.int .i64 (n : Int),H)
 | .slc k lo hi,x :: ys,H=>match lo,hi,ys with
  | true,true,[l,h]=>(zAN k x (some l) (some h)).map (·,H)
  | true,false,[l]=>(zAN k x (some l) none).map (·,H)
  | false,true,[h]=>(zAN k x none (some h)).map (·,H)
  | false,false,[]=>(zAN k x none none).map (·,H)
  | _,_,_=>none
 | .fieldAddr o,[x],H=>match x with
  | .ref b k i oo=>some (.ref b k i (oo + o),H)
  | .lref x oo=>some (.lref x (oo + o),H)
  | _=>none
 | .field o s ag,[.agg cs],H=>(part cs o s ag).map (·,H)
 | .idxAddr k,[x,.int _ n],H=>if n < 0 then none else match x with
  | .lst _ k' xs=>match xs[n.toNat]? with
   | some x=>if k' = k then some (.lref x 0,H) else none
   | none=>none
  | .sl _ b k' off len=>if n < (len : Int) ∧ k' = k then some (.ref b k (off + n.toNat) 0,H) else none
  | _=>none
 | .idxArr k m,[x,.int _ n],H=>if 0 ≤ n ∧ n < (m : Int) then (match x with
  | .ref b k' i oo=>some (.ref b k' i (oo + n.toNat * k),H)
  | .lref x oo=>some (.lref x (oo + n.toNat * k),H)
  | _=>none) else none
 | .idxStr,[.str s,.int _ n],H=>if n < 0 then none else match s[n.toNat]? with
  | some c=>some (zBK c,H)
  | none=>none
 | .idxAgg k m ag,[.agg cs,.int _ n],H=>if 0 ≤ n ∧ n < (m : Int) then (part cs (n.toNat * k) k ag).map (·,H) else none
 | .nilchk,[x],H=>match x with
  | .ref .. | .lref .. | .fn ..=>some (x,H)
  | _=>none
 | .extract i,[.tup vs],H=>(vs[i]?).map (·,H)
 | .load s ag,[p],H=>match zl H p with
  | some (cs,o)=>(part cs o s ag).map (·,H)
  | none=>none
 | .store s,[p,v],H=>match p with
  | .ref b k i o=>
   if v.cells.length = s ∧ v.cells.all AV.one = true then
    match H[b]? with
    | some (.box cs)=>if i = 0 ∧ o + s ≤ cs.length then some (.undef,H.set b (.box (splice cs o v.cells))) else none
    | some (.row _ _)=>match zCl 0 v H with
     | some (v',H')=>match H'[b]? with
      | some (.row k' xs)=>match xs[i]? with
       | some x=>if k' = k ∧ o + s ≤ k ∧ 0 < s ∧ v'.elem s = true then some (.undef,H'.set b (.row k' (xs.set i (zDF x o v')))) else none
       | none=>none
      | _=>none
     | none=>none
    | _=>none
   else none
  | _=>none
 | .alloc z,[],H=>some (.ref H.length 0 0 0,H ++ [.box z])
 | .allocT t z,[],H=>some (.ref H.length 0 0 0,H ++ [.box z] ++ [.shp H.length t z.length])
 | .box,[x],H=>if x.cells.all AV.one = true then some (.ref H.length 0 0 0,H ++ [.box x.cells]) else none
 | .build z pl,vs,H=>(zCN z pl vs).map fun cs=>(.agg cs,H)
 | .bslice k,vs,H=>match zMX 0 vs H with
  | some (vs',H')=>if vs'.all (fun v=>v.elem k) = true then some (.sl (some false) H'.length k 0 vs'.length,H' ++ [.row k vs']) else none
  | none=>none
 | .make k bytes z,[.int _ l,.int _ c],H=>
  if 0 ≤ l ∧ l ≤ c ∧ (bytes : Int) * c ≤ 281474976710656 ∧ c ≤ 9223372036854775807 ∧ z.elem k = true then
   some (.sl (some false) H.length k 0 l.toNat,H ++ [.row k (List.replicate l.toNat z)]) else none
 | .append k bytes,[x,y],H=>match view H k y with
  | some ys=>match x with
   | .lst (some true) _ _=>
    if ys.length ≤ 9223372036854775807 ∧ ys.length * bytes ≤ 140737488355328 then some (.sl (some true) H.length k 0 ys.length,H ++ [.row k ys]) else none
   | .sl q b k' off len=>match H[b]? with
    | some (.row k'' xs)=>if k' = k ∧ k'' = k ∧ off + len ≤ xs.length ∧ len + ys.length ≤ 9223372036854775807 ∧ (len + ys.length) * bytes ≤ 140737488355328 then
      some (.sl q H.length k 0 (len + ys.length),H.set b .dead ++ [.row k ((xs.drop off).take len ++ ys)]) else none
    | _=>none
   | _=>none
  | none=>none
 | .appendS,[x,.str s],H=>match x with
  | .lst (some true) _ _=>if s.isEmpty = true then some (x,H) else if s.length ≤ 140737488355328 then some (.sl (some true) H.length 1 0 s.length,H ++ [.row 1 (s.map zBK)]) else none
  | .sl q b k' off len=>if s.isEmpty = true then some (x,H) else match H[b]? with
   | some (.row k'' xs)=>if k' = 1 ∧ k'' = 1 ∧ off + len ≤ xs.length ∧ len + s.length ≤ 140737488355328 then
     some (.sl q H.length 1 0 (len + s.length),H.set b .dead ++ [.row 1 ((xs.drop off).take len ++ s.map zBK)]) else none
   | _=>none
  | _=>none
 | .appT t s,[x,y],H=>match (if s = true then (match y with
   | .str u=>some (u.map zBK)
   | _=>none) else view H 1 y) with
  | some ys=>match x with
   | .lst (some true) _ _=>if s = true ∧ ys.isEmpty = true then some (x,H) else if ys.isEmpty = false ∧ ys.length ≤ 140737488355328 then some (.sl (some true) H.length 1 0 ys.length,H ++ [.row 1 ys] ++ [.ty H.length t]) else none
   | .sl q b k' off len=>if s = true ∧ ys.isEmpty = true then some (x,H) else match H[b]?,H[b + 1]? with
    | some (.row k'' xs),some (.ty b' t')=>if ys.isEmpty = false ∧ k' = 1 ∧ k'' = 1 ∧ b' = b ∧ t' = t ∧ off = 0 ∧ len ≤ xs.length ∧ len + ys.length ≤ 140737488355328 then
      some (.sl q H.length 1 0 (len + ys.length),H.set b .dead ++ [.row 1 (xs.take len ++ ys)] ++ [.ty H.length t]) else none
    | _,_=>none
   | _=>none
  | none=>none
 | .min,[.int k a,.int k' b],H=>if k = k' then some (.int k (if b < a then b else a),H) else none
 | .max,[.int k a,.int k' b],H=>if k = k' then some (.int k (if b > a then b else a),H) else none
 | .mkmap,[],H=>some (.mp H.length,H ++ [.mp [] []])
 | .mget z ok,[m,k],H=>(zPk H z ok m k).map (·,H)
 | .mset,[m,k,v],H=>(zPl H m k v).map fun H'=>(.undef,H')
 | .mlen,[m],H=>(mview H m).map fun p=>(.int .i64 (p.2.length : Int),H)
 | .clear k z,[x],H=>match x with
  | .sl _ b k' off len=>match H[b]? with
   | some (.row k'' xs)=>if k' = k ∧ k'' = k ∧ off + len ≤ xs.length ∧ 0 < len ∧ z.elem k = true then some (.tup [],H.set b (.row k (xs.take off ++ List.replicate len z ++ xs.drop (off + len)))) else none
   | _=>none
  | _=>none
 | _,_,_=>none
abbrev CSpec:=FuncId → List AV → Heap → AV → Heap → Prop
def zE4 (C : CSpec) (k : AK) (vs : List AV) (H : Heap) (K : AV → Heap → Prop) : Prop:=
 match k with
 | .call f rd=>∃ v H',C f vs H v H' ∧ (rd = true → H' = H) ∧ K v H'
 | .callv rd=>match vs with
  | .fn f first caps :: args=>∃ v H',C f (first ++ args ++ caps) H v H' ∧ (rd = true → H' = H) ∧ K v H'
  | _=>False
 | k=>match astep k vs H with
  | some (v,H')=>K v H'
  | none=>False
def put (fr : Fr) : Option Nat → AV → Fr
 | some d,v=>(d,v) :: fr
 | none,_=>fr
def gd (want : Bool) : AV → Option Bool
 | .bool b=>some (b == want)
 | .tup []=>some false
 | _=>none
def AWops (C : CSpec) (GT : Nat → Option AV) : List AI → Fr → Heap → (Fr → Heap → Prop) → Prop
 | [],fr,H,K=>K fr H
 | i :: is,fr,H,K=>match i.g with
  | none=>zE4 C i.k (i.xs.map (ev GT fr)) H fun v H'=>AWops C GT is (put fr i.dst v) H' K
  | some (s,want)=>match gd want (get fr s) with
   | some b=>if b = true then zE4 C i.k (i.xs.map (ev GT fr)) H fun v H'=>AWops C GT is (put fr i.dst v) H' K
     else AWops C GT is (put fr i.dst (.tup [])) H K
   | none=>False
def zCB (C : CSpec) (k : AK) (vs : List AV) (H : Heap) (K KP : AV → Heap → Prop) : Prop:=
 match k with
 | .callp f=>(∃ v H',C f vs H v H' ∧ K v H') ∨ (∃ x H',C f (.pan .undef :: vs) H x H' ∧ KP x H')
 | .callvp=>match vs with
  | .fn f first caps :: args=>(∃ v H',C f (first ++ args ++ caps) H v H' ∧ K v H') ∨ (∃ x H',C f (.pan .undef :: (first ++ args ++ caps)) H x H' ∧ KP x H')
  | _=>False
 | .panic=>match vs with
  | [.iface t y]=>KP (.iface t y) H
  | _=>False
 | k=>zE4 C k vs H K
def AWT (C : CSpec) (GT : Nat → Option AV) (is : List AI) : OT → Fr → Heap → (Fr → Heap → Prop) → (AV → Heap → Prop) → Prop
 | .done,fr,H,K,_=>K fr H
 | .step j t,fr,H,K,KP=>match is[j]? with
  | none=>False
  | some i=>match i.g with
   | none=>zCB C i.k (i.xs.map (ev GT fr)) H (fun v H'=>AWT C GT is t (put fr i.dst v) H' K KP) KP
   | some (s,want)=>match gd want (get fr s) with
    | some b=>if b = true then zCB C i.k (i.xs.map (ev GT fr)) H (fun v H'=>AWT C GT is t (put fr i.dst v) H' K KP) KP
      else AWT C GT is t (put fr i.dst (.tup [])) H K KP
    | none=>False
 | .alt a b,fr,H,K,KP=>AWT C GT is a fr H K KP ∧ AWT C GT is b fr H K KP
inductive AE where
 | normal
 | exit (id : Nat)
 | ret
 | goto (l : Nat)
 | pan (x : AV)
 deriving Inhabited
abbrev Post:=AE → Fr → Heap → Prop
def zI1 (F : Post → Fr → Heap → Prop) (L : List Nat) (K : Post) : Nat → Fr → Heap → Prop
 | 0,_,_=>False
 | m + 1,fr,H=>F (fun e fr' H'=>match e with
  | .normal=>zI1 F L K m (restrict fr' L) H'
  | e=>K e fr' H') fr H
def zPm (F : Fr → Heap → Prop) (K : Post) : Post:=fun e fr H=>match e with
 | .normal=>F fr H
 | e=>K e fr H
def zEN (id : Nat) (L : List Nat) (K : Post) : Post:=fun e fr H=>match e with
 | .normal=>K .normal (restrict fr L) H
 | .exit j=>if j = id then K .normal (restrict fr L) H else K (.exit j) fr H
 | .ret=>K .ret fr H
 | .goto l=>K (.goto l) fr H
 | .pan x=>K (.pan x) fr H
def zI2 (l : Nat) (G : Fr → Heap → Prop) (K : Post) : Post:=fun e fr H=>match e with
 | .normal=>K .normal fr H
 | .exit j=>K (.exit j) fr H
 | .ret=>K .ret fr H
 | .goto l'=>l' = l ∧ G fr H
 | .pan x=>K (.pan x) fr H
def zG2 (F : Post → Fr → Heap → Prop) (L : List Nat) (l : Nat) (K : Post) : Nat → Fr → Heap → Prop
 | 0,_,_=>False
 | m + 1,fr,H=>F (zI2 l (fun fr' H'=>zG2 F L l K m (restrict fr' L) H') K) fr H
def learn (fr : Fr) (c : Opd) (b : Bool) : Fr:=
 match c with
 | .tmp t=>(t,.bool b) :: fr
 | _=>fr
def AW (C : CSpec) (GT : Nat → Option AV) : AC → Post → Fr → Heap → Prop
 | .skip,K,fr,H=>K .normal fr H
 | .reg L _ ops,K,fr,H=>AWops C GT ops (restrict fr L) H fun fr' H'=>K .normal fr' H'
 | .seq a b,K,fr,H=>AW C GT a (zPm (AW C GT b K) K) fr H
 | .cond c a b,K,fr,H=>match ev GT fr c with
  | .bool t=>if t = true then AW C GT a K (learn fr c true) H else AW C GT b K (learn fr c false) H
  | _=>False
 | .block id L c,K,fr,H=>AW C GT c (zEN id L K) fr H
 | .loop L c,K,fr,H=>∃ m,zI1 (AW C GT c) L K m (restrict fr L) H
 | .exit id,K,fr,H=>K (.exit id) fr H
 | .ret,K,fr,H=>K .ret fr H
 | .stuck,_,_,_=>False
 | .regt L _ ops t,K,fr,H=>AWT C GT ops t (restrict fr L) H (fun fr' H'=>K .normal fr' H') (fun x H'=>K (.pan x) [] H')
 | .label,K,fr,H=>K .normal fr H
 | .goto l,K,fr,H=>K (.goto l) fr H
 | .scope L l c r,K,fr,H=>AW C GT c (zI2 l (fun fr' H'=>∃ m,zG2 (AW C GT r) L l K m (restrict fr' L) H') K) fr H
inductive ARes where
 | tmp (t : Nat)
 | cell (a s : Nat) (ag : Bool)
 deriving Inhabited
structure AF where
 keep : Bool:=false
 results : List ARes
 body : AC
 deriving Inhabited
def zJ0 (fr : Fr) (H : Heap) : ARes → Option AV
 | .tmp t=>some (get fr t)
 | .cell a s ag=>match zl H (get fr a) with
  | some (cs,o)=>part cs o s ag
  | none=>none
def zAr (fr : Fr) (H : Heap) : List ARes → Option (List AV)
 | []=>some []
 | r :: rs=>match zJ0 fr H r,zAr fr H rs with
  | some v,some vs=>some (v :: vs)
  | _,_=>none
def tupled : List AV → AV
 | [v]=>v
 | vs=>.tup vs
def zKk (n : Nat) : ABlk → Bool
 | .box cs=>AV.belL n cs
 | _=>true
def zJ1 (H H1 : Heap) : Prop:=∀ b,b < H.length → H1[b]? = H[b]? ∨ ∃ x,H1[b]? = some x ∧ zKk H.length x = true
def zJx (F : AF) (H : Heap) (fr : Fr) (H1 : Heap) (v : AV) (H' : Heap) : Prop:=
 match zAr fr H1 F.results with
 | none=>False
 | some vs=>
  if F.keep then v = tupled vs ∧ H' = H1
  else match zCl H.length (tupled vs) H1 with
   | some (v',H2)=>v'.bel H.length = true ∧ zJ1 H H2 ∧ v = v' ∧ H' = H2.take H.length
   | none=>False
def zH8 : Nat → List AV → Fr
 | _,[]=>[]
 | i,v :: vs=>(i,v) :: zH8 (i + 1) vs
def AFun (C : CSpec) (GT : Nat → Option AV) (F : AF) (args : List AV) (H : Heap) (v : AV) (H' : Heap) : Prop:=
 AW C GT F.body (fun e fr H1=>match e with
  | .normal=>zJx F H fr H1 v H'
  | .ret=>zJx F H fr H1 v H'
  | _=>False) (zH8 0 args) H
def panF (F : AF) (H : Heap) (x0 : AV) (H1 : Heap) (x : AV) (H' : Heap) : Prop:=
 if F.keep then x = x0 ∧ H' = H1
 else match zCl H.length x0 H1 with
  | some (x',H2)=>x'.bel H.length = true ∧ zJ1 H H2 ∧ x = x' ∧ H' = H2.take H.length
  | none=>False
end Go.AM
namespace Go.AM
variable {GT : Nat → Option AV} {w w' : World} {M : AMap} {I : Nat → Prop} {H : Heap}
theorem Cells.lt {g k : Nat} {cur : Array Value} (h : Cells w g cur k) : g < w.heap.size:=by
 obtain ⟨e,fz,h1,_⟩:=h
 exact (Array.getElem?_eq_some_iff.1 h1).1
theorem Sim.live_lt (hS : Sim GT w M I H) {k : Nat} (h : zC2 H M k) : k < w.heap.size:=by
 obtain ⟨b,x,o,hb,hm,hM⟩:=h
 have hB:=hS.blk b x hb
 cases x with
 | dead=>simp [ABlk.mut] at hm
 | shp=>simp [ABlk.mut] at hm
 | ty=>simp [ABlk.mut] at hm
 | hd=>simp [ABlk.mut] at hm
 | frz=>simp [ABlk.mut] at hm
 | box cs=>
  obtain ⟨g,o',cur,h1,h2,_⟩:=hB
  rw [hM] at h1; simp at h1; obtain ⟨rfl,_⟩:=h1; exact h2.lt
 | row k' xs=>
  obtain ⟨_,⟨h1,_⟩ | ⟨g,o',cur,h1,h2,_⟩⟩:=hB
  ·rw [hM] at h1; cases h1
  ·rw [hM] at h1; simp at h1; obtain ⟨rfl,_⟩:=h1; exact h2.lt
 | mp ks vs=>
  obtain ⟨g,es,cl,h1,h2,_⟩:=hB
  rw [hM] at h1; simp at h1; obtain ⟨rfl,_⟩:=h1; exact (Array.getElem?_eq_some_iff.1 h2).1
theorem Sim.glob' {n : Nat} {M' : AMap} (hS : Sim GT w M I H) (_ : ∀ c,c < n → M' c = M c) : ∀ g x,GT g = some x → Rel w M' I 0 (.lref x 0) (.pointer (some ⟨g,0,none⟩)):=
 fun g x hg=>(hS.glob g x hg).free (by simp [AV.noRef,AV.bel])
def more (M : AMap) (n : Nat) (p : Option (Nat × Nat)) : AMap:=fun b=>if b = n then p else M b
theorem zDd {M : AMap} {n : Nat} {p : Option (Nat × Nat)} {b : Nat} (h : b < n) : more M n p b = M b:=by simp [more,Nat.ne_of_lt h]
theorem zP {M : AMap} {n : Nat} {p : Option (Nat × Nat)} : more M n p n = p:=by simp [more]
theorem Grow.same (hh : w'.heap = w.heap) (ho : w'.os = w.os) (ht : w'.tape = w.tape) (hq : w'.output = w.output) : Grow w M I H w' M I H:=
 ⟨ho,ht,hq,by rw [hh]; exact Nat.le_refl _,fun _ _=>rfl,fun _ h=>h,fun _ h _=>.inl h,fun _ _ _=>by rw [hh],fun _ _ h=>h,fun g s h=>by rw [zd (w:=w) (by rw [hh])]; exact h,Nat.le_refl _⟩
theorem Sim.same (hS : Sim GT w M I H) (hh : w'.heap = w.heap) : Sim GT w' M I H:=by
 have hb : ∀ k : Nat,w'.heap[k]? = w.heap[k]?:=fun k=>by rw [hh]
 refine ⟨fun g x hg=>(hS.glob g x hg).mono (fun _ h=>h) (fun k _=>hb k) (fun _ _=>rfl) (Nat.le_refl _) (fun g s h=>by rw [zd (hb g)]; exact h),fun k hk=>by rw [hh]; exact hS.idom k hk,fun b x hx=>?_,hS.inj,fun g x hg=>(hS.shp g x hg).imp fun e h=>by rw [zd (hb g)]; exact h⟩
 exact (hS.blk b x hx).mono (zg hx).1 (fun _ h=>h) (fun k _=>hb k) (fun _ _=>rfl) (Nat.le_refl _) (fun g s h=>by rw [zd (hb g)]; exact h) (fun g _ _ _=>hb g) (fun _ _ _ _ h=>h)
theorem Sim.pushAny (hS : Sim GT w M I H) {blk : ABlk} (hblk : zGF w (more M H.length none) I (H.length + 1) H.length blk) :
  Grow w M I H w (more M H.length none) I (H ++ [blk]) ∧ Sim GT w (more M H.length none) I (H ++ [blk]):=by
 have hold : ∀ b,b < H.length → more M H.length none b = M b:=fun b hb=>zDd hb
 refine ⟨⟨rfl,rfl,rfl,Nat.le_refl _,hold,fun _ h=>h,fun _ h _=>.inl h,fun _ _ _=>rfl,fun k hk hl=>?_,fun _ _ h=>h,by simp⟩,⟨?_,hS.idom,fun b x hx=>?_,fun b b' x x' g o o' h1 h2 h3 h4 h5 h6=>?_,hS.shp⟩⟩
 ·obtain ⟨b,x,o,h1,h2,h3⟩:=hl
  by_cases hb : b < H.length
  ·exact ⟨b,x,o,by rwa [List.getElem?_append_left hb] at h1,h2,by rwa [hold b hb] at h3⟩
  ·have hlt:=(zg h1).1
   simp at hlt
   obtain rfl : b = H.length:=by omega
   rw [zP] at h3; cases h3
 ·exact fun g x hg=>(hS.glob g x hg).free (by simp [AV.noRef,AV.bel])
 ·by_cases hb : b < H.length
  ·rw [List.getElem?_append_left hb] at hx
   exact (hS.blk b x hx).mono hb (fun _ h=>h) (fun _ _=>rfl) hold (by simp) (fun _ _ h=>h) (fun _ _ _ _=>rfl) (fun _ _ _ _ h=>h)
  ·have hlt:=(zg hx).1
   simp at hlt
   obtain rfl : b = H.length:=by omega
   simp at hx
   subst hx
   simpa using hblk
 ·by_cases hb : b < H.length
  ·by_cases hb' : b' < H.length
   ·rw [List.getElem?_append_left hb] at h1
    rw [List.getElem?_append_left hb'] at h3
    exact hS.inj b b' x x' g o o' h1 h2 h3 h4 (by rwa [hold b hb] at h5) (by rwa [hold b' hb'] at h6)
   ·have hlt:=(zg h3).1
    simp at hlt
    obtain rfl : b' = H.length:=by omega
    rw [zP] at h6; cases h6
  ·have hlt:=(zg h1).1
   simp at hlt
   obtain rfl : b = H.length:=by omega
   rw [zP] at h5; cases h5
theorem Sim.pushNone (hS : Sim GT w M I H) {blk : ABlk} (hblk : blk.mut = true → zGF w (more M H.length none) I (H.length + 1) H.length blk) (hm : blk = .dead ∨ blk.mut = true) :
  Grow w M I H w (more M H.length none) I (H ++ [blk]) ∧ Sim GT w (more M H.length none) I (H ++ [blk]):=
 hS.pushAny (by
  rcases hm with rfl | hm
  ·trivial
  ·exact hblk hm)
theorem Sim.push (hS : Sim GT w M I H) {obj : Obj} (hh : w'.heap = w.heap.push obj) (ho : w'.os = w.os) (ht : w'.tape = w.tape) (hq : w'.output = w.output) {blk : ABlk}
  (hblk : zGF w' (more M H.length (some (w.heap.size,0))) I (H.length + 1) H.length blk) :
  Grow w M I H w' (more M H.length (some (w.heap.size,0))) I (H ++ [blk]) ∧ Sim GT w' (more M H.length (some (w.heap.size,0))) I (H ++ [blk]):=by
 have hold : ∀ b,b < H.length → more M H.length (some (w.heap.size,0)) b = M b:=fun b hb=>zDd hb
 have hb : ∀ k,k < w.heap.size → w'.heap[k]? = w.heap[k]?:=fun k hk=>by rw [hh,Array.getElem?_push,if_neg tO]
 have hsh : ∀ g s,w.shape? g = some s → w'.shape? g = some s:=fun g s h=>by
  have hlt : g < w.heap.size:=by
   unfold World.shape? at h
   split at h
   ·exact (Array.getElem?_eq_some_iff.1 ‹_›).1
   ·cases h
  rw [zd (hb g hlt)]; exact h
 refine ⟨⟨ho,ht,hq,by rw [hh]; simp,hold,fun _ h=>h,fun _ h _=>.inl h,fun k hk _=>hb k hk,fun k hk hl=>?_,hsh,by simp⟩,⟨?_,fun k hk=>?_,fun b x hx=>?_,fun b b' x x' g o o' h1 h2 h3 h4 h5 h6=>?_,fun g x hg=>(hS.shp g x hg).imp fun e h=>hsh g _ h⟩⟩
 ·obtain ⟨b,x,o,h1,h2,h3⟩:=hl
  by_cases hbl : b < H.length
  ·exact ⟨b,x,o,by rwa [List.getElem?_append_left hbl] at h1,h2,by rwa [hold b hbl] at h3⟩
  ·have hlt:=(zg h1).1
   simp at hlt
   obtain rfl : b = H.length:=by omega
   rw [zP] at h3
   simp at h3
   omega
 ·exact fun g x hg=>((hS.glob g x hg).free (by simp [AV.noRef,AV.bel])).mono (M:=M) (n:=0) (fun _ h=>h) (fun k hk=>hb k (hS.idom k hk)) (fun _ h=>absurd h (Nat.not_lt_zero _)) (Nat.zero_le _) hsh
 ·have:=hS.idom k hk; rw [hh]; simp; omega
 ·by_cases hbl : b < H.length
  ·rw [List.getElem?_append_left hbl] at hx
   refine (hS.blk b x hx).mono hbl (fun _ h=>h) (fun k hk=>hb k (hS.idom k hk)) hold (by simp) hsh (fun g o hM hm=>hb g (hS.live_lt ⟨b,x,o,hx,hm,hM⟩)) (fun _ _ _ _ h=>h)
  ·have hlt:=(zg hx).1
   simp at hlt
   obtain rfl : b = H.length:=by omega
   simp at hx
   subst hx
   simpa using hblk
 ·by_cases hbl : b < H.length
  ·rw [List.getElem?_append_left hbl] at h1
   rw [hold b hbl] at h5
   by_cases hbl' : b' < H.length
   ·rw [List.getElem?_append_left hbl'] at h3
    exact hS.inj b b' x x' g o o' h1 h2 h3 h4 h5 (by rwa [hold b' hbl'] at h6)
   ·have hlt:=(zg h3).1
    simp at hlt
    obtain rfl : b' = H.length:=by omega
    rw [zP] at h6
    simp at h6
    have:=hS.live_lt ⟨b,x,o,h1,h2,h5⟩
    omega
  ·have hlt:=(zg h1).1
   simp at hlt
   obtain rfl : b = H.length:=by omega
   rw [zP] at h5
   simp at h5
   by_cases hbl' : b' < H.length
   ·rw [List.getElem?_append_left hbl'] at h3
    rw [hold b' hbl'] at h6
    have:=hS.live_lt ⟨b',x',o',h3,h4,h6⟩
    omega
   ·have hlt':=(zg h3).1
    simp at hlt'
    omega
theorem Sim.write (hS : Sim GT w M I H) {b g o : Nat} {x y : ABlk} (hx : H[b]? = some x) (hxm : x.mut = true) (hM : M b = some (g,o)) {cur cur' : Array Value} {e : TypeId} {fz : Nat × Nat}
  (hg : w.heap[g]? = some (.cells cur e fz)) (hsz : cur'.size = cur.size) (hh : w'.heap = w.heap.setIfInBounds g (.cells cur' e fz)) (ho : w'.os = w.os) (ht : w'.tape = w.tape) (hq : w'.output = w.output)
  (hy : zGF w' M I H.length b y) : Grow w M I H w' M I (H.set b y) ∧ Sim GT w' M I (H.set b y):=by
 have hlive : zC2 H M g:=⟨b,x,o,hx,hxm,hM⟩
 have hnI : ¬ I g:=fun h=>hS.notLive h hlive
 have hlt:=hS.live_lt hlive
 have hb : ∀ k,k ≠ g → w'.heap[k]? = w.heap[k]?:=fun k hk=>by rw [hh,Array.getElem?_setIfInBounds_ne (Ne.symm hk)]
 have hgg : w'.heap[g]? = some (.cells cur' e fz):=by rw [hh,Array.getElem?_setIfInBounds,if_pos rfl,if_pos hlt]
 have hsh : ∀ k s,w.shape? k = some s → w'.shape? k = some s:=fun k s h=>by
  by_cases hk : k = g
  ·subst hk
   simp [World.shape?,hg] at h
   simp [World.shape?,hgg,hsz,h]
  ·rw [zd (hb k hk)]; exact h
 have hIb : ∀ k,I k → w'.heap[k]? = w.heap[k]?:=fun k hk=>hb k (fun e=>hnI (e ▸ hk))
 have hbl : b < H.length:=(zg hx).1
 have hset : ∀ c z,(H.set b y)[c]? = some z → (c = b ∧ z = y) ∨ (c ≠ b ∧ H[c]? = some z):=fun c z hz=>by
  by_cases hc : c = b
  ·subst hc; rw [List.getElem?_set_self hbl] at hz; exact .inl ⟨rfl,(Option.some.inj hz).symm⟩
  ·rw [List.getElem?_set_ne (Ne.symm hc)] at hz; exact .inr ⟨hc,hz⟩
 refine ⟨⟨ho,ht,hq,by rw [hh]; simp,fun _ _=>rfl,fun _ h=>h,fun _ h _=>.inl h,fun k hk hn=>hb k (fun e=>hn (e ▸ hlive)),fun k hk hl=>?_,hsh,by simp⟩,⟨?_,fun k hk=>?_,fun c z hz=>?_,fun c c' z z' g' p p' h1 h2 h3 h4 h5 h6=>?_,fun g x hg=>(hS.shp g x hg).imp fun e h=>hsh g _ h⟩⟩
 ·obtain ⟨c,z,p,h1,h2,h3⟩:=hl
  rcases hset c z h1 with ⟨rfl,rfl⟩ | ⟨hc,h1⟩
  ·exact ⟨c,x,p,hx,hxm,h3⟩
  ·exact ⟨c,z,p,h1,h2,h3⟩
 ·exact fun g' x' hg'=>(hS.glob g' x' hg').mono (fun _ h=>h) hIb (fun _ _=>rfl) (Nat.le_refl _) hsh
 ·have:=hS.idom k hk; rw [hh]; simpa using this
 ·rcases hset c z hz with ⟨rfl,rfl⟩ | ⟨hc,h1⟩
  ·simpa using hy
  ·rw [List.length_set]
   refine (hS.blk c z h1).mono (zg h1).1 (fun _ h=>h) hIb (fun _ _=>rfl) (Nat.le_refl _) hsh (fun g' o' hM' hm'=>hb g' (fun e=>?_)) (fun _ _ _ _ h=>h)
   subst e
   exact hc (hS.inj c b z x g' o' o h1 hm' hx hxm hM' hM)
 ·have key : ∀ c z p,(H.set b y)[c]? = some z → z.mut = true → M c = some (g',p) → ∃ z0,H[c]? = some z0 ∧ z0.mut = true:=fun c z p h1 h2 h3=>by
   rcases hset c z h1 with ⟨rfl,rfl⟩ | ⟨_,h1⟩
   ·exact ⟨x,hx,hxm⟩
   ·exact ⟨z,h1,h2⟩
  obtain ⟨z0,a1,a2⟩:=key c z p h1 h2 h5
  obtain ⟨z0',a1',a2'⟩:=key c' z' p' h3 h4 h6
  exact hS.inj c c' z0 z0' g' p p' a1 a2 a1' a2' h5 h6
theorem Sim.kill (hS : Sim GT w M I H) (b : Nat) : Grow w M I H w M I (H.set b .dead) ∧ Sim GT w M I (H.set b .dead):=by
 have hset : ∀ (c : Nat) (z : ABlk),(H.set b .dead)[c]? = some z → z = ABlk.dead ∨ H[c]? = some z:=fun c z hz=>by
  by_cases hc : b = c
  ·subst hc
   have hbl : b < H.length:=by have:=(zg hz).1; simpa using this
   rw [List.getElem?_set_self hbl] at hz; exact .inl (Option.some.inj hz).symm
  ·rw [List.getElem?_set_ne hc] at hz; exact .inr hz
 refine ⟨⟨rfl,rfl,rfl,Nat.le_refl _,fun _ _=>rfl,fun _ h=>h,fun _ h _=>.inl h,fun _ _ _=>rfl,fun k hk hl=>?_,fun _ _ h=>h,by simp⟩,⟨hS.glob,hS.idom,fun c z hz=>?_,fun c c' z z' g' p p' h1 h2 h3 h4 h5 h6=>?_,hS.shp⟩⟩
 ·obtain ⟨c,z,p,h1,h2,h3⟩:=hl
  rcases hset c z h1 with rfl | h1
  ·simp [ABlk.mut] at h2
  ·exact ⟨c,z,p,h1,h2,h3⟩
 ·rcases hset c z hz with rfl | h1
  ·trivial
  ·rw [List.length_set]; exact hS.blk c z h1
 ·rcases hset c z h1 with rfl | h1
  ·simp [ABlk.mut] at h2
  ·rcases hset c' z' h3 with rfl | h3
   ·simp [ABlk.mut] at h4
   ·exact hS.inj c c' z z' g' p p' h1 h2 h3 h4 h5 h6
theorem Sim.take (hS : Sim GT w M I H) (n : Nat) (hn : n ≤ H.length) (hbel : ∀ b cs,b < n → H[b]? = some (.box cs) → ∀ c ∈ cs,c.bel n = true) : Sim GT w M I (H.take n):=by
 have hget : ∀ c z,(H.take n)[c]? = some z → c < n ∧ H[c]? = some z:=fun c z hz=>by
  rw [List.getElem?_take] at hz
  split at hz
  ·exact ⟨‹_›,hz⟩
  ·cases hz
 refine ⟨hS.glob,hS.idom,fun c z hz=>?_,fun c c' z z' g' p p' h1 h2 h3 h4 h5 h6=>hS.inj c c' z z' g' p p' (hget c z h1).2 h2 (hget c' z' h3).2 h4 h5 h6,hS.shp⟩
 obtain ⟨hc,hz⟩:=hget c z hz
 have hB:=hS.blk c z hz
 have hlen : (H.take n).length = n:=by simp; omega
 rw [hlen]
 have F : ∀ {k : Nat} {xs : List AV} {i j : Nat} {x c : AV} {v : Value},Elems k xs → xs[i]? = some x → x.cells[j]? = some c → Rel w M I H.length c v → Rel w M I n c v:=
  fun he hx hj h=>h.free (AV.noRef_cells (AV.elem_iff.1 (he _ (List.mem_of_getElem? hx))).2.1 hj)
 cases z with
 | dead=>trivial
 | shp b' t k=>exact hB
 | ty b' t=>exact hB
 | hd b' t k=>exact hB
 | box cs=>
  obtain ⟨g,o,cur,h1,h2,h3,h4,h5⟩:=hB
  exact ⟨g,o,cur,h1,h2,h3,h4,fun j c' hj=>let ⟨v,a,b⟩:=h5 j c' hj; ⟨v,a,b.cut (fun _ _=>rfl) (hbel c cs hc hz c' (List.mem_of_getElem? hj))⟩⟩
 | row k xs=>
  obtain ⟨he,h | ⟨g,o,cur,h1,h2,h3,h4,h5⟩⟩:=hB
  ·exact ⟨he,.inl h⟩
  ·exact ⟨he,.inr ⟨g,o,cur,h1,h2,h3,h4,fun i j x c' hx hj=>let ⟨v,a,b⟩:=h5 i j x c' hx hj; ⟨v,a,F he hx hj b⟩⟩⟩
 | frz k xs=>
  obtain ⟨he,h | ⟨g,o,h1,h3,h5⟩⟩:=hB
  ·exact ⟨he,.inl h⟩
  ·exact ⟨he,.inr ⟨g,o,h1,h3,fun i j x c' hx hj=>let ⟨v,a,b⟩:=h5 i j x c' hx hj; ⟨v,a,F he hx hj b⟩⟩⟩
 | mp ks vs=>
  obtain ⟨g,es,cl,h1,h2,h3,h4,h5,h6,h7⟩:=hB
  exact ⟨g,es,cl,h1,h2,h3,h4,h5,h6,fun i x e a b=>(h7 i x e a b).free (h6 x (List.mem_of_getElem? a))⟩
theorem Grow.take {H' : Heap} {M' : AMap} {I' : Nat → Prop} (h : Grow w M I H w' M' I' H') : Grow w M I H w' M' I' (H'.take H.length):=
 { h with
  live:=fun k hk hl=>h.live k hk (by
   obtain ⟨b,x,o,h1,h2,h3⟩:=hl
   rw [List.getElem?_take] at h1
   split at h1
   ·exact ⟨b,x,o,h1,h2,h3⟩
   ·cases h1)
  len:=by have:=h.len; simp; omega }
theorem Cells.cell? {g k : Nat} {cur : Array Value} (h : Cells w g cur k) (j : Nat) : w.cell? ⟨g,j,none⟩ = cur[j]?:=by
 obtain ⟨e,fz,h1,_⟩:=h
 simp [World.cell?,h1]
theorem Sim.shut (hS : Sim GT w M I H) {b k : Nat} {xs : List AV} (hx : H[b]? = some (.row k xs)) :
  ∃ I',Grow w M I H w M I' (H.set b (.frz k xs)) ∧ Sim GT w M I' (H.set b (.frz k xs)) ∧ ∀ g o,M b = some (g,o) → I' g:=by
 have hbl : b < H.length:=(zg hx).1
 have hset : ∀ c z,(H.set b (.frz k xs))[c]? = some z → (c = b ∧ z = .frz k xs) ∨ (c ≠ b ∧ H[c]? = some z):=fun c z hz=>by
  by_cases hc : c = b
  ·subst hc; rw [List.getElem?_set_self hbl] at hz; exact .inl ⟨rfl,(Option.some.inj hz).symm⟩
  ·rw [List.getElem?_set_ne (Ne.symm hc)] at hz; exact .inr ⟨hc,hz⟩
 have hB:=hS.blk b _ hx
 have hII : ∀ k',I k' → I k' ∨ ∃ o,M b = some (k',o):=fun _ h=>.inl h
 refine ⟨fun k'=>I k' ∨ ∃ o,M b = some (k',o),⟨rfl,rfl,rfl,Nat.le_refl _,fun _ _=>rfl,hII,fun k' h hlt=>?_,fun _ _ _=>rfl,fun k' hk hl=>?_,fun _ _ h=>h,by simp⟩,⟨?_, ?_,fun c z hz=>?_,fun c c' z z' g' p p' h1 h2 h3 h4 h5 h6=>?_,hS.shp⟩,fun g o h=>.inr ⟨o,h⟩⟩
 ·rcases h with h | ⟨o,h⟩
  ·exact .inl h
  ·exact .inr ⟨b,_,o,hx,rfl,h⟩
 ·obtain ⟨c,z,p,h1,h2,h3⟩:=hl
  rcases hset c z h1 with ⟨rfl,rfl⟩ | ⟨_,h1⟩
  ·simp [ABlk.mut] at h2
  ·exact ⟨c,z,p,h1,h2,h3⟩
 ·exact fun g x hg=>(hS.glob g x hg).mono hII (fun _ _=>rfl) (fun _ _=>rfl) (Nat.le_refl _) (fun _ _ h=>h)
 ·rintro k' (h | ⟨o,h⟩)
  ·exact hS.idom k' h
  ·exact hS.live_lt ⟨b,_,o,hx,rfl,h⟩
 ·rw [List.length_set]
  rcases hset c z hz with ⟨rfl,rfl⟩ | ⟨hc,h1⟩
  ·obtain ⟨he,h | ⟨g,o,cur,h1,h2,h3,h4,h5⟩⟩:=hB
   ·exact ⟨he,.inl h⟩
   ·exact ⟨he,.inr ⟨g,o,h1,.inr ⟨o,h1⟩,fun i j x c' hx' hj=>let ⟨v,a,b⟩:=h5 i j x c' hx' hj; ⟨v,by rw [h2.cell?]; exact a,b.mono hII (fun _ _=>rfl) (fun _ _=>rfl) (Nat.le_refl _) (fun _ _ h=>h)⟩⟩⟩
  ·refine (hS.blk c z h1).mono (zg h1).1 hII (fun _ _=>rfl) (fun _ _=>rfl) (Nat.le_refl _) (fun _ _ h=>h) (fun _ _ _ _=>rfl) (fun g' o' hM' hm' hn=>?_)
   rintro (h | ⟨o,h⟩)
   ·exact hn h
   ·exact hc (hS.inj c b z _ g' o' o h1 hm' hx rfl hM' h)
 ·rcases hset c z h1 with ⟨rfl,rfl⟩ | ⟨_,h1⟩
  ·simp [ABlk.mut] at h2
  ·rcases hset c' z' h3 with ⟨rfl,rfl⟩ | ⟨_,h3⟩
   ·simp [ABlk.mut] at h4
   ·exact hS.inj c c' z z' g' p p' h1 h2 h3 h4 h5 h6
theorem Sim.shutMap (hS : Sim GT w M I H) {b : Nat} {ks : List (Int × Int)} {vs : List AV} (hx : H[b]? = some (.mp ks vs)) :
  ∃ I',Grow w M I H w M I' (H.set b .dead) ∧ Sim GT w M I' (H.set b .dead) ∧ ∀ g o,M b = some (g,o) → I' g:=by
 have hbl : b < H.length:=(zg hx).1
 have hset : ∀ c z,(H.set b .dead)[c]? = some z → (c = b ∧ z = .dead) ∨ (c ≠ b ∧ H[c]? = some z):=fun c z hz=>by
  by_cases hc : c = b
  ·subst hc; rw [List.getElem?_set_self hbl] at hz; exact .inl ⟨rfl,(Option.some.inj hz).symm⟩
  ·rw [List.getElem?_set_ne (Ne.symm hc)] at hz; exact .inr ⟨hc,hz⟩
 have hII : ∀ k',I k' → I k' ∨ ∃ o,M b = some (k',o):=fun _ h=>.inl h
 refine ⟨fun k'=>I k' ∨ ∃ o,M b = some (k',o),⟨rfl,rfl,rfl,Nat.le_refl _,fun _ _=>rfl,hII,fun k' h hlt=>?_,fun _ _ _=>rfl,fun k' hk hl=>?_,fun _ _ h=>h,by simp⟩,⟨?_, ?_,fun c z hz=>?_,fun c c' z z' g' p p' h1 h2 h3 h4 h5 h6=>?_,hS.shp⟩,fun g o h=>.inr ⟨o,h⟩⟩
 ·rcases h with h | ⟨o,h⟩
  ·exact .inl h
  ·exact .inr ⟨b,_,o,hx,rfl,h⟩
 ·obtain ⟨c,z,p,h1,h2,h3⟩:=hl
  rcases hset c z h1 with ⟨rfl,rfl⟩ | ⟨_,h1⟩
  ·simp [ABlk.mut] at h2
  ·exact ⟨c,z,p,h1,h2,h3⟩
 ·exact fun g x hg=>(hS.glob g x hg).mono hII (fun _ _=>rfl) (fun _ _=>rfl) (Nat.le_refl _) (fun _ _ h=>h)
 ·rintro k' (h | ⟨o,h⟩)
  ·exact hS.idom k' h
  ·exact hS.live_lt ⟨b,_,o,hx,rfl,h⟩
 ·rw [List.length_set]
  rcases hset c z hz with ⟨rfl,rfl⟩ | ⟨hc,h1⟩
  ·trivial
  ·refine (hS.blk c z h1).mono (zg h1).1 hII (fun _ _=>rfl) (fun _ _=>rfl) (Nat.le_refl _) (fun _ _ h=>h) (fun _ _ _ _=>rfl) (fun g' o' hM' hm' hn=>?_)
   rintro (h | ⟨o,h⟩)
   ·exact hn h
   ·exact hc (hS.inj c b z _ g' o' o h1 hm' hx rfl hM' h)
 ·rcases hset c z h1 with ⟨rfl,rfl⟩ | ⟨_,h1⟩
  ·simp [ABlk.mut] at h2
  ·rcases hset c' z' h3 with ⟨rfl,rfl⟩ | ⟨_,h3⟩
   ·simp [ABlk.mut] at h4
   ·exact hS.inj c c' z z' g' p p' h1 h2 h3 h4 h5 h6
theorem Sim.turnMap (hS : Sim GT w M I H) {b g : Nat} {ks ks' : List (Int × Int)} {vs vs' : List AV} {es es' : Array MapEntry} {cl cl' : Nat} (hx : H[b]? = some (.mp ks vs)) (hM : M b = some (g,0)) (hg : w.heap[g]? = some (.map es cl))
  (hh : w'.heap = w.heap.setIfInBounds g (.map es' cl')) (ho : w'.os = w.os) (ht : w'.tape = w.tape) (hq : w'.output = w.output)
  (hk : es'.toList.map (·.key) = ks'.map zEM) (hl : vs'.length = es'.size) (hn : ∀ x ∈ vs',x.noRef = true) (hv : ∀ (i : Nat) (x : AV) (e : MapEntry),vs'[i]? = some x → es'[i]? = some e → Rel w M I H.length x e.val) :
  Grow w M I H w' M I (H.set b (.mp ks' vs')) ∧ Sim GT w' M I (H.set b (.mp ks' vs')):=by
 have hlive : zC2 H M g:=⟨b,_,0,hx,rfl,hM⟩
 have hnI : ¬ I g:=fun h=>hS.notLive h hlive
 have hlt:=hS.live_lt hlive
 have hb : ∀ k,k ≠ g → w'.heap[k]? = w.heap[k]?:=fun k hk=>by rw [hh,Array.getElem?_setIfInBounds_ne (Ne.symm hk)]
 have hgg : w'.heap[g]? = some (.map es' cl'):=by rw [hh,Array.getElem?_setIfInBounds,if_pos rfl,if_pos hlt]
 have hsh : ∀ k s,w.shape? k = some s → w'.shape? k = some s:=fun k s h=>by
  by_cases hk : k = g
  ·subst hk
   simp [World.shape?,hg] at h
  ·rw [zd (hb k hk)]; exact h
 have hIb : ∀ k,I k → w'.heap[k]? = w.heap[k]?:=fun k hk=>hb k (fun e=>hnI (e ▸ hk))
 have hbl : b < H.length:=(zg hx).1
 have hset : ∀ c z,(H.set b (.mp ks' vs'))[c]? = some z → (c = b ∧ z = .mp ks' vs') ∨ (c ≠ b ∧ H[c]? = some z):=fun c z hz=>by
  by_cases hc : c = b
  ·subst hc; rw [List.getElem?_set_self hbl] at hz; exact .inl ⟨rfl,(Option.some.inj hz).symm⟩
  ·rw [List.getElem?_set_ne (Ne.symm hc)] at hz; exact .inr ⟨hc,hz⟩
 refine ⟨⟨ho,ht,hq,by rw [hh]; simp,fun _ _=>rfl,fun _ h=>h,fun _ h _=>.inl h,fun k hk hn=>hb k (fun e=>hn (e ▸ hlive)),fun k hk hl=>?_,hsh,by simp⟩,⟨?_,fun k hk=>?_,fun c z hz=>?_,fun c c' z z' g' p p' h1 h2 h3 h4 h5 h6=>?_,fun g x hg=>(hS.shp g x hg).imp fun e h=>hsh g _ h⟩⟩
 ·obtain ⟨c,z,p,h1,h2,h3⟩:=hl
  rcases hset c z h1 with ⟨rfl,rfl⟩ | ⟨hc,h1⟩
  ·exact ⟨c,_,p,hx,rfl,h3⟩
  ·exact ⟨c,z,p,h1,h2,h3⟩
 ·exact fun g' x' hg'=>(hS.glob g' x' hg').mono (fun _ h=>h) hIb (fun _ _=>rfl) (Nat.le_refl _) hsh
 ·have:=hS.idom k hk; rw [hh]; simpa using this
 ·rcases hset c z hz with ⟨rfl,rfl⟩ | ⟨hc,h1⟩
  ·rw [List.length_set]
   exact ⟨g,es',cl',hM,hgg,hnI,hk,hl,hn,fun i x e a c=>(hv i x e a c).mono (fun _ h=>h) hIb (fun _ _=>rfl) (Nat.le_refl _) hsh⟩
  ·rw [List.length_set]
   refine (hS.blk c z h1).mono (zg h1).1 (fun _ h=>h) hIb (fun _ _=>rfl) (Nat.le_refl _) hsh (fun g' o' hM' hm'=>hb g' (fun e=>?_)) (fun _ _ _ _ h=>h)
   subst e
   exact hc (hS.inj c b z _ g' o' 0 h1 hm' hx rfl hM' hM)
 ·have key : ∀ c z p,(H.set b (.mp ks' vs'))[c]? = some z → z.mut = true → M c = some (g',p) → ∃ z0,H[c]? = some z0 ∧ z0.mut = true:=fun c z p h1 h2 h3=>by
   rcases hset c z h1 with ⟨rfl,rfl⟩ | ⟨_,h1⟩
   ·exact ⟨_,hx,rfl⟩
   ·exact ⟨z,h1,h2⟩
  obtain ⟨z0,a1,a2⟩:=key c z p h1 h2 h5
  obtain ⟨z0',a1',a2'⟩:=key c' z' p' h3 h4 h6
  exact hS.inj c c' z0 z0' g' p p' a1 a2 a1' a2' h5 h6
theorem zGG {k : Nat} {xs : List AV} (h : Elems k xs) (o l : Nat) : Elems k ((xs.drop o).take l):=fun x hx=>h x (List.mem_of_mem_drop (List.mem_of_mem_take hx))
theorem zHa (hS : Sim GT w M I H) {q : Option Bool} {b k off len : Nat} {xs : List AV} {v : Value} (hx : H[b]? = some (.frz k xs)) (hle : off + len ≤ xs.length) (h : Rel w M I H.length (.sl q b k off len) v) :
  Rel w M I H.length (.lst (zOL q ((xs.drop off).take len)) k ((xs.drop off).take len)) v:=by
 obtain ⟨he,hB⟩:=hS.blk b _ hx
 have hlen : ((xs.drop off).take len).length = len:=by simp; omega
 cases h with
 | sln q b k off hb hM hq=>
  simp only [List.take_zero]
  refine .lnil _ _ ?_
  unfold zOL
  split
  ·exact absurd rfl hq
  ·simp
  ·simp
 | sl q b k off len g o p cap hb hM hc hm hq ha=>
  rcases hB with ⟨h1,rfl⟩ | ⟨g',o',h1,hI,h5⟩
  ·rw [hM] at h1; cases h1
  ·rw [hM] at h1
   simp only [Option.some.injEq,Prod.mk.injEq] at h1
   obtain ⟨rfl,rfl⟩:=h1
   have hqq : zOL q ((xs.drop off).take len) ≠ some true:=by
    unfold zOL
    split
    ·simp
    ·have:=hq rfl
     simp only [ne_eq,Option.some.injEq,List.isEmpty_iff]
     intro e; rw [e] at hlen; simp at hlen; omega
    ·simp
   have:=Rel.mk_lst (w:=w) (M:=M) (n:=H.length) (q:=zOL q ((xs.drop off).take len)) (xs:=(xs.drop off).take len) (g:=g) (o:=p) (cap:=cap) (k:=k) (I:=I) hqq tO hm hI (zGG he off len) (fun i j x c hi hj=>by
    have hi' : i < len:=by have:=(zg hi).1; omega
    rw [List.getElem?_take,if_pos hi',List.getElem?_drop] at hi
    obtain ⟨hp,_⟩:=ha tO
    obtain ⟨v,a,b⟩:=h5 (off + i) j x c hi hj
    refine ⟨v, ?_,b⟩
    rw [hp,show o + off * k + i * k + j = o + (off + i) * k + j by rw [Nat.add_mul]; omega]
    exact a)
   rwa [hlen] at this
theorem zGH (n0 : Nat) : ∀ (x : AV) {w : World} {M : AMap} {I : Nat → Prop} {H : Heap} {v : Value} {x' : AV} {H' : Heap},Sim GT w M I H → Rel w M I H.length x v → zCl n0 x H = some (x',H') →
  ∃ I',Grow w M I H w M I' H' ∧ Sim GT w M I' H' ∧ Rel w M I' H'.length x' v ∧ H'.length = H.length ∧ (∀ (b : Nat) (cs : List AV),H'[b]? = some (ABlk.box cs) → H[b]? = some (ABlk.box cs)):=by
 intro x
 refine AV.rec (motive_1:=fun x=>∀ {w : World} {M : AMap} {I : Nat → Prop} {H : Heap} {v : Value} {x' : AV} {H' : Heap},Sim GT w M I H → Rel w M I H.length x v → zCl n0 x H = some (x',H') →
   ∃ I',Grow w M I H w M I' H' ∧ Sim GT w M I' H' ∧ Rel w M I' H'.length x' v ∧ H'.length = H.length ∧ (∀ (b : Nat) (cs : List AV),H'[b]? = some (ABlk.box cs) → H[b]? = some (ABlk.box cs)))
  (motive_2:=fun xs=>∀ {w : World} {M : AMap} {I : Nat → Prop} {H : Heap} {vs : List Value} {xs' : List AV} {H' : Heap},Sim GT w M I H → zBJ w M I H.length xs vs → zMX n0 xs H = some (xs',H') →
   ∃ I',Grow w M I H w M I' H' ∧ Sim GT w M I' H' ∧ zBJ w M I' H'.length xs' vs ∧ H'.length = H.length ∧ (∀ (b : Nat) (cs : List AV),H'[b]? = some (ABlk.box cs) → H[b]? = some (ABlk.box cs)))
  ?undef ?bool ?int ?str ?agg ?tup ?lst ?lref ?ref ?sl ?nilp ?nilf ?nili ?nilm ?fn ?iface ?raw ?pan ?sca ?mp ?mps ?nil ?cons x
 case mp=>
  intro b w M I H v x' H' hS hx hf
  simp only [zCl] at hf
  split at hf
  ·cases hf
   exact ⟨I,Grow.refl ..,hS,hx,rfl,fun _ _ h=>h⟩
  ·split at hf
   ·rename_i ks vs hb
    cases hf
    obtain ⟨I',hG,hS',hI'⟩:=hS.shutMap hb
    have hbl : b < H.length:=(zg hb).1
    obtain ⟨g,es,cl,h1,h2,h3,h4,h5,h6,h7⟩:=hS.blk b _ hb
    cases hx with
    | mp _ g' hbn hM=>
     rw [hM] at h1
     simp only [Option.some.injEq,Prod.mk.injEq,and_true] at h1
     subst h1
     refine ⟨I',hG,hS',.mps ks vs _ es cl (hI' _ 0 hM) h2 h4 h5 h6 fun i x e a c=>hG.rel hS (h7 i x e a c),by simp,fun c cs h=>?_⟩
     by_cases hc : b = c
     ·subst hc; rw [List.getElem?_set_self hbl] at h; cases h
     ·rwa [List.getElem?_set_ne hc] at h
   ·cases hf
 case sl=>
  intro q b k off len w M I H v x' H' hS hx hf
  simp only [zCl] at hf
  split at hf
  ·cases hf
   exact ⟨I,Grow.refl ..,hS,hx,rfl,fun _ _ h=>h⟩
  ·split at hf
   ·rename_i k' xs hb
    split at hf
    ·rename_i hc
     obtain ⟨rfl,hle⟩:=hc
     cases hf
     obtain ⟨I',hG,hS',_⟩:=hS.shut hb
     have hbl : b < H.length:=(zg hb).1
     refine ⟨I',hG,hS',zHa hS' (List.getElem?_set_self hbl) hle (hG.rel hS hx),by simp,fun c cs h=>?_⟩
     by_cases hc : b = c
     ·subst hc; rw [List.getElem?_set_self hbl] at h; cases h
     ·rwa [List.getElem?_set_ne hc] at h
    ·cases hf
   ·rename_i k' xs hb
    split at hf
    ·rename_i hc
     obtain ⟨rfl,hle⟩:=hc
     cases hf
     exact ⟨I,Grow.refl ..,hS,zHa hS hb hle hx,rfl,fun _ _ h=>h⟩
    ·cases hf
   ·cases hf
 case agg=>
  intro cs ih w M I H v x' H' hS hx hf
  simp only [zCl] at hf
  split at hf
  ·rename_i cs' H1 h1
   cases hf
   cases hx with
   | agg cs vs hl h=>
    obtain ⟨I',a,b,c,d,e⟩:=ih hS ⟨hl,h⟩ h1
    exact ⟨I',a,b,.agg _ _ c.1 c.2,d,e⟩
  ·cases hf
 case tup=>
  intro cs ih w M I H v x' H' hS hx hf
  simp only [zCl] at hf
  split at hf
  ·rename_i cs' H1 h1
   cases hf
   cases hx with
   | tup cs vs hl h=>
    obtain ⟨I',a,b,c,d,e⟩:=ih hS ⟨hl,h⟩ h1
    exact ⟨I',a,b,.tup _ _ c.1 c.2,d,e⟩
  ·cases hf
 case iface=>
  intro t y ih w M I H v x' H' hS hx hf
  simp only [zCl] at hf
  split at hf
  ·rename_i y' H1 h1
   cases hf
   cases hx with
   | iface t y u h=>
    obtain ⟨I',a,b,c,d,e⟩:=ih hS h h1
    exact ⟨I',a,b,.iface _ _ _ c,d,e⟩
  ·cases hf
 case nil=>
  intro w M I H vs xs' H' hS hx hf
  simp only [zMX,Option.some.injEq,Prod.mk.injEq] at hf; obtain ⟨rfl,rfl⟩:=hf
  exact ⟨I,Grow.refl ..,hS,hx,rfl,fun _ _ h=>h⟩
 case cons=>
  intro x r ihx ihr w M I H vs xs' H' hS hx hf
  simp only [zMX] at hf
  split at hf
  ·rename_i x1 H1 h1
   split at hf
   ·rename_i r1 H2 h2
    cases hf
    obtain ⟨hl,hr⟩:=hx
    match vs,hl with
    | v :: us,hl=>
     obtain ⟨I1,a1,b1,c1,d1,e1⟩:=ihx hS (hr 0 x v rfl rfl) h1
     have hr1 : zBJ w M I1 H1.length r us:=⟨by simpa using hl,fun i c v hc hv=>a1.rel hS (hr (i + 1) c v (by simpa using hc) (by simpa using hv))⟩
     obtain ⟨I2,a2,b2,c2,d2,e2⟩:=ihr b1 hr1 h2
     refine ⟨I2,a1.trans a2,b2,⟨by simpa using c2.1,fun i c v hc hv=>?_⟩,d2.trans d1,fun b cs h=>e1 b cs (e2 b cs h)⟩
     cases i with
     | zero=>
      simp at hc hv; subst hc hv
      exact a2.rel b1 c1
     | succ i=>exact c2.2 i c v (by simpa using hc) (by simpa using hv)
   ·cases hf
  ·cases hf
 all_goals
  intros
  rename_i hS hx hf
  simp only [zCl,Option.some.injEq,Prod.mk.injEq] at hf; obtain ⟨rfl,rfl⟩:=hf
  exact ⟨_,Grow.refl ..,hS,hx,rfl,fun _ _ h=>h⟩
end Go.AM
