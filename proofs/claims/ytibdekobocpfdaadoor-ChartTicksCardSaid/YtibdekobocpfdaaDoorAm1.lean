/- The abstract machine, part 1: abstract values, how they stand for the model's values, abstract heaps, growth. Own work; nothing of a program stands here. -/
import Derived.WalkKit
set_option linter.all false
namespace Go.AM

/-- Abstract values. Slices are either immutable lists ('lst'; the flag: 'some true' it is nil, 'some false' it is not, 'none' unknown) or views on a row of the abstract heap ('sl'). -/
inductive AV where
  | undef
  | bool (b : Bool)
  | int (k : IntKind) (n : Int)
  | str (s : List UInt8)
  | agg (cs : List AV)
  | tup (vs : List AV)
  | lst (q : Option Bool) (k : Nat) (xs : List AV)
  | lref (x : AV) (o : Nat)
  | ref (b k i o : Nat)
  | sl (q : Option Bool) (b k off len : Nat)
  | nilp
  | nilf
  | nili
  | nilm
  | fn (f : FuncId) (first caps : List AV)
  | iface (t : TypeId) (v : AV)
  | raw (v : Value)
  | pan (v : AV)
  deriving Inhabited

def AV.cells : AV → List AV
  | .agg cs => cs
  | v => [v]

mutual
/-- All blocks that a value names have numbers below n. -/
def AV.bel (n : Nat) : AV → Bool
  | .ref b _ _ _ => decide (b < n)
  | .sl _ b _ _ _ => decide (b < n)
  | .agg cs => AV.belL n cs
  | .tup cs => AV.belL n cs
  | .lst _ _ _ => true
  | .lref _ _ => true
  | .fn _ a b => AV.belL n a && AV.belL n b
  | .iface _ v => AV.bel n v
  | _ => true
def AV.belL (n : Nat) : List AV → Bool
  | [] => true
  | x :: r => AV.bel n x && AV.belL n r
end

theorem AV.belL_iff (n : Nat) : ∀ l, AV.belL n l = true ↔ ∀ x ∈ l, AV.bel n x = true
  | [] => by simp [AV.belL]
  | x :: r => by simp [AV.belL, AV.belL_iff n r]

/-- It names no block. -/
def AV.noRef (v : AV) : Bool := v.bel 0

inductive ABlk where
  | dead
  | box (cs : List AV)
  | row (k : Nat) (xs : List AV)
  | frz (k : Nat) (xs : List AV)
  deriving Inhabited

abbrev Heap := List ABlk

def ABlk.mut : ABlk → Bool
  | .box _ => true
  | .row _ _ => true
  | _ => false

/-- It fills one cell, and is known. -/
def AV.one : AV → Bool
  | .undef | .agg _ | .tup _ | .raw _ | .pan _ => false
  | _ => true

/-- An element of a row: k cells wide; it names no block. -/
def AV.elem (k : Nat) (x : AV) : Bool := x.cells.length == k && x.noRef && x.cells.all AV.one

/-- Each element is one of a row, k cells wide. -/
def Elems (k : Nat) (xs : List AV) : Prop := ∀ x ∈ xs, x.elem k = true

theorem AV.elem_iff {k : Nat} {x : AV} : x.elem k = true ↔ x.cells.length = k ∧ x.noRef = true ∧ ∀ c ∈ x.cells, c.one = true := by
  simp [AV.elem, and_assoc]

abbrev AMap := Nat → Option (Nat × Nat)

/-- What an abstract value stands for in a world. 'M': where the abstract blocks lie; 'I': the model's blocks that nobody writes any more; 'n': how many abstract blocks there are. -/
inductive Rel (w : World) (M : AMap) (I : Nat → Prop) (n : Nat) : AV → Value → Prop where
  | undef (v : Value) : Rel w M I n .undef v
  | bool (b : Bool) : Rel w M I n (.bool b) (.bool b)
  | int (k : IntKind) (m : Int) : Rel w M I n (.int k m) (.int k m)
  | str (s : List UInt8) : Rel w M I n (.str s) (.string ⟨s.toArray⟩)
  | agg (cs : List AV) (vs : List Value) (hl : cs.length = vs.length) (h : ∀ (i : Nat) (c : AV) (v : Value), cs[i]? = some c → vs[i]? = some v → Rel w M I n c v) : Rel w M I n (.agg cs) (.agg vs.toArray)
  | tup (cs : List AV) (vs : List Value) (hl : cs.length = vs.length) (h : ∀ (i : Nat) (c : AV) (v : Value), cs[i]? = some c → vs[i]? = some v → Rel w M I n c v) : Rel w M I n (.tup cs) (.tuple vs.toArray)
  | lnil (q : Option Bool) (k : Nat) (hq : q ≠ some false) : Rel w M I n (.lst q k []) (.slice none 0 0)
  | lemp (q : Option Bool) (k : Nat) (a : Addr) (hq : q ≠ some true) : Rel w M I n (.lst q k []) (.slice (some a) 0 0)
  | lst (q : Option Bool) (k : Nat) (xs : List AV) (g o cap : Nat) (V : Nat → Nat → Value) (hq : q ≠ some true) (hc : xs.length ≤ cap) (hm : cap ≤ maxLen) (hI : I g) (he : Elems k xs)
      (hv : ∀ (i j : Nat) (x c : AV), xs[i]? = some x → x.cells[j]? = some c → w.cell? ⟨g, o + i * k + j, none⟩ = some (V i j))
      (hr : ∀ (i j : Nat) (x c : AV), xs[i]? = some x → x.cells[j]? = some c → Rel w M I n c (V i j)) : Rel w M I n (.lst q k xs) (.slice (some ⟨g, o, none⟩) xs.length cap)
  | lref (x : AV) (oo g o : Nat) (V : Nat → Value) (hI : I g) (hx : x.noRef = true)
      (hv : ∀ (j : Nat) (c : AV), x.cells[oo + j]? = some c → w.cell? ⟨g, o + j, none⟩ = some (V j))
      (hr : ∀ (j : Nat) (c : AV), x.cells[oo + j]? = some c → Rel w M I n c (V j)) : Rel w M I n (.lref x oo) (.pointer (some ⟨g, o, none⟩))
  | ref (b k i oo g o : Nat) (hb : b < n) (hM : M b = some (g, o)) : Rel w M I n (.ref b k i oo) (.pointer (some ⟨g, o + i * k + oo, none⟩))
  | sln (q : Option Bool) (b k off : Nat) (hb : b < n) (hM : M b = none) (hq : q ≠ some false) : Rel w M I n (.sl q b k off 0) (.slice none 0 0)
  | sl (q : Option Bool) (b k off len g o p cap : Nat) (hb : b < n) (hM : M b = some (g, o)) (hc : len ≤ cap) (hm : cap ≤ maxLen) (hq : q = some true → 0 < len)
      (ha : 0 < cap → p = o + off * k ∧ ∃ e sz, w.shape? g = some (e, sz) ∧ o + (off + cap) * k ≤ sz) : Rel w M I n (.sl q b k off len) (.slice (some ⟨g, p, none⟩) len cap)
  | nilp : Rel w M I n .nilp (.pointer none)
  | nilf : Rel w M I n .nilf .nilFunc
  | nili : Rel w M I n .nili .nilIface
  | nilm : Rel w M I n .nilm (.map none)
  | fn (f : FuncId) (as bs : List AV) (vs us : List Value) (hl : as.length = vs.length) (hl' : bs.length = us.length) (h : ∀ (i : Nat) (c : AV) (v : Value), as[i]? = some c → vs[i]? = some v → Rel w M I n c v)
      (h' : ∀ (i : Nat) (c : AV) (v : Value), bs[i]? = some c → us[i]? = some v → Rel w M I n c v) : Rel w M I n (.fn f as bs) (.func (.func f) vs.toArray us.toArray)
  | iface (t : TypeId) (x : AV) (v : Value) (h : Rel w M I n x v) : Rel w M I n (.iface t x) (.iface t v)
  | raw (v : Value) : Rel w M I n (.raw v) v

/-- Lists of values, place by place. -/
def RelL (w : World) (M : AMap) (I : Nat → Prop) (n : Nat) (cs : List AV) (vs : List Value) : Prop :=
  cs.length = vs.length ∧ ∀ (i : Nat) (c : AV) (v : Value), cs[i]? = some c → vs[i]? = some v → Rel w M I n c v

theorem Rel.mono {w w' : World} {M M' : AMap} {I I' : Nat → Prop} {n n' : Nat} (hI : ∀ k, I k → I' k) (hb : ∀ k, I k → w'.heap[k]? = w.heap[k]?) (hM : ∀ b, b < n → M' b = M b) (hn : n ≤ n')
    (hs : ∀ g s, w.shape? g = some s → w'.shape? g = some s) {x : AV} {v : Value} (h : Rel w M I n x v) : Rel w' M' I' n' x v := by
  have hc : ∀ g o, I g → w'.cell? ⟨g, o, none⟩ = w.cell? ⟨g, o, none⟩ := fun g o hg => by simp [World.cell?, hb g hg]
  induction h with
  | undef v => exact .undef v
  | bool b => exact .bool b
  | int k m => exact .int k m
  | str s => exact .str s
  | agg cs vs hl _ ih => exact .agg cs vs hl ih
  | tup cs vs hl _ ih => exact .tup cs vs hl ih
  | lnil q k hq => exact .lnil q k hq
  | lemp q k a hq => exact .lemp q k a hq
  | lst q k xs g o cap V hq hcap hm hg he hv _ ih => exact .lst q k xs g o cap V hq hcap hm (hI g hg) he (fun i j x c hx hj => by rw [hc g _ hg]; exact hv i j x c hx hj) ih
  | lref x oo g o V hg hx hv _ ih => exact .lref x oo g o V (hI g hg) hx (fun j c hj => by rw [hc g _ hg]; exact hv j c hj) ih
  | ref b k i oo g o hbn hMb => exact .ref b k i oo g o (Nat.lt_of_lt_of_le hbn hn) (by rw [hM b hbn]; exact hMb)
  | sln q b k off hbn hMb hq => exact .sln q b k off (Nat.lt_of_lt_of_le hbn hn) (by rw [hM b hbn]; exact hMb) hq
  | sl q b k off len g o p cap hbn hMb hcl hm hq ha =>
    exact .sl q b k off len g o p cap (Nat.lt_of_lt_of_le hbn hn) (by rw [hM b hbn]; exact hMb) hcl hm hq (fun h0 => by obtain ⟨h1, e, sz, h2, h3⟩ := ha h0; exact ⟨h1, e, sz, hs _ _ h2, h3⟩)
  | nilp => exact .nilp
  | nilf => exact .nilf
  | nili => exact .nili
  | nilm => exact .nilm
  | fn f as bs vs us hl hl' _ _ ih ih' => exact .fn f as bs vs us hl hl' ih ih'
  | iface t x v _ ih => exact .iface t x v ih
  | raw v => exact .raw v

/-- A value whose blocks lie below m stands for the same where only the first m blocks are kept. -/
theorem Rel.cut {w : World} {M M' : AMap} {I : Nat → Prop} {n m : Nat} (hM : ∀ b, b < m → M' b = M b) {x : AV} {v : Value} (h : Rel w M I n x v) (hx : x.bel m = true) : Rel w M' I m x v := by
  have inner : ∀ {y : AV} {u : Value}, Rel w M I n y u → y.noRef = true → y.bel m = true := by
    intro y u hy hn
    unfold AV.noRef at hn
    revert hn
    clear hy hx h hM
    suffices H : ∀ y, (AV.bel 0 y = true → AV.bel m y = true) from H y
    intro y
    exact AV.rec (motive_1 := fun y => AV.bel 0 y = true → AV.bel m y = true) (motive_2 := fun l => AV.belL 0 l = true → AV.belL m l = true)
      (by simp [AV.bel]) (by simp [AV.bel]) (by simp [AV.bel]) (by simp [AV.bel])
      (fun cs ih => by simpa [AV.bel] using ih) (fun cs ih => by simpa [AV.bel] using ih) (by simp [AV.bel]) (by simp [AV.bel]) (by simp [AV.bel]) (by simp [AV.bel])
      (by simp [AV.bel]) (by simp [AV.bel]) (by simp [AV.bel]) (by simp [AV.bel])
      (fun f a b iha ihb => by simp only [AV.bel, Bool.and_eq_true]; exact fun h => ⟨iha h.1, ihb h.2⟩) (fun t v ih => by simpa [AV.bel] using ih) (by simp [AV.bel]) (fun v ih => by simp [AV.bel])
      (by simp [AV.belL]) (fun x r ihx ihr => by simp only [AV.belL, Bool.and_eq_true]; exact fun h => ⟨ihx h.1, ihr h.2⟩) y
  have cellsIn : ∀ {y c : AV} {j : Nat}, y.noRef = true → y.cells[j]? = some c → c.noRef = true := by
    intro y c j hy hj
    cases y with
    | agg cs =>
      simp only [AV.noRef, AV.bel, AV.belL_iff] at hy
      exact hy c (List.mem_of_getElem? hj)
    | _ =>
      simp only [AV.cells] at hj
      have hcc := List.mem_of_getElem? hj
      simp only [List.mem_singleton] at hcc
      rw [hcc]; exact hy
  induction h with
  | undef v => exact .undef v
  | bool b => exact .bool b
  | int k m => exact .int k m
  | str s => exact .str s
  | agg cs vs hl h ih =>
    simp only [AV.bel, AV.belL_iff] at hx
    exact .agg cs vs hl fun i c v hc hv => ih i c v hc hv (hx c (List.mem_of_getElem? hc))
  | tup cs vs hl h ih =>
    simp only [AV.bel, AV.belL_iff] at hx
    exact .tup cs vs hl fun i c v hc hv => ih i c v hc hv (hx c (List.mem_of_getElem? hc))
  | lnil q k hq => exact .lnil q k hq
  | lemp q k a hq => exact .lemp q k a hq
  | lst q k xs g o cap V hq hcap hm hg he hv hr ih =>
    exact .lst q k xs g o cap V hq hcap hm hg he hv fun i j x c hx hj => ih i j x c hx hj (inner (hr i j x c hx hj) (cellsIn (AV.elem_iff.1 (he x (List.mem_of_getElem? hx))).2.1 hj))
  | lref x oo g o V hg hxn hv hr ih => exact .lref x oo g o V hg hxn hv fun j c hj => ih j c hj (inner (hr j c hj) (cellsIn hxn hj))
  | ref b k i oo g o hbn hMb => simp [AV.bel] at hx; exact .ref b k i oo g o hx (by rw [hM b hx]; exact hMb)
  | sln q b k off hbn hMb hq => simp [AV.bel] at hx; exact .sln q b k off hx (by rw [hM b hx]; exact hMb) hq
  | sl q b k off len g o p cap hbn hMb hcl hm hq ha => simp [AV.bel] at hx; exact .sl q b k off len g o p cap hx (by rw [hM b hx]; exact hMb) hcl hm hq ha
  | nilp => exact .nilp
  | nilf => exact .nilf
  | nili => exact .nili
  | nilm => exact .nilm
  | fn f as bs vs us hl hl' _ _ ih ih' =>
    simp only [AV.bel, Bool.and_eq_true, AV.belL_iff] at hx
    exact .fn f as bs vs us hl hl' (fun i c v hc hv => ih i c v hc hv (hx.1 c (List.mem_of_getElem? hc))) (fun i c v hc hv => ih' i c v hc hv (hx.2 c (List.mem_of_getElem? hc)))
  | iface t x v _ ih => simp only [AV.bel] at hx; exact .iface t x v (ih hx)
  | raw v => exact .raw v

/-- What stands for something names blocks that are there. -/
theorem Rel.bel {w : World} {M : AMap} {I : Nat → Prop} {n : Nat} {x : AV} {v : Value} (h : Rel w M I n x v) : x.bel n = true := by
  induction h with
  | agg cs vs hl h ih =>
    simp only [AV.bel, AV.belL_iff]
    intro c hc
    obtain ⟨i, hi⟩ := List.getElem?_of_mem hc
    obtain ⟨u, hu⟩ : ∃ u, vs[i]? = some u := ⟨_, List.getElem?_eq_getElem (by have := (List.getElem?_eq_some_iff.1 hi).1; omega)⟩
    exact ih i c u hi hu
  | tup cs vs hl h ih =>
    simp only [AV.bel, AV.belL_iff]
    intro c hc
    obtain ⟨i, hi⟩ := List.getElem?_of_mem hc
    obtain ⟨u, hu⟩ : ∃ u, vs[i]? = some u := ⟨_, List.getElem?_eq_getElem (by have := (List.getElem?_eq_some_iff.1 hi).1; omega)⟩
    exact ih i c u hi hu
  | fn f as bs vs us hl hl' _ _ ih ih' =>
    simp only [AV.bel, Bool.and_eq_true, AV.belL_iff]
    refine ⟨fun c hc => ?_, fun c hc => ?_⟩
    · obtain ⟨i, hi⟩ := List.getElem?_of_mem hc
      obtain ⟨u, hu⟩ : ∃ u, vs[i]? = some u := ⟨_, List.getElem?_eq_getElem (by have := (List.getElem?_eq_some_iff.1 hi).1; omega)⟩
      exact ih i c u hi hu
    · obtain ⟨i, hi⟩ := List.getElem?_of_mem hc
      obtain ⟨u, hu⟩ : ∃ u, us[i]? = some u := ⟨_, List.getElem?_eq_getElem (by have := (List.getElem?_eq_some_iff.1 hi).1; omega)⟩
      exact ih' i c u hi hu
  | iface t x v _ ih => simpa [AV.bel] using ih
  | ref b k i oo g o hbn hMb => simpa [AV.bel] using hbn
  | sln q b k off hbn hMb hq => simpa [AV.bel] using hbn
  | sl q b k off len g o p cap hbn hMb hcl hm hq ha => simpa [AV.bel] using hbn
  | _ => simp [AV.bel]

theorem AV.noRef_cells {y c : AV} {j : Nat} (hy : y.noRef = true) (hj : y.cells[j]? = some c) : c.noRef = true := by
  cases y with
  | agg cs =>
    simp only [AV.noRef, AV.bel, AV.belL_iff] at hy
    exact hy c (List.mem_of_getElem? hj)
  | _ =>
    simp only [AV.cells] at hj
    have hcc := List.mem_of_getElem? hj
    simp only [List.mem_singleton] at hcc
    rw [hcc]; exact hy

/-- A value without blocks stands for the same under any map. -/
theorem Rel.free {w : World} {M M' : AMap} {I : Nat → Prop} {n n' : Nat} {x : AV} {v : Value} (h : Rel w M I n x v) (hx : x.noRef = true) : Rel w M' I n' x v :=
  Rel.mono (M := M') (n := 0) (fun _ h => h) (fun _ _ => rfl) (fun _ h => absurd h (Nat.not_lt_zero _)) (Nat.zero_le _) (fun _ _ h => h) (Rel.cut (m := 0) (fun _ h => absurd h (Nat.not_lt_zero _)) h hx)

/-- An immutable slice out of facts on its cells. -/
theorem Rel.mk_lst {w : World} {M : AMap} {I : Nat → Prop} {n : Nat} {q : Option Bool} {xs : List AV} {g o cap k : Nat} (hq : q ≠ some true) (hc : xs.length ≤ cap) (hm : cap ≤ maxLen) (hI : I g) (he : Elems k xs)
    (h : ∀ i j x c, xs[i]? = some x → x.cells[j]? = some c → ∃ v, w.cell? ⟨g, o + i * k + j, none⟩ = some v ∧ Rel w M I n c v) : Rel w M I n (.lst q k xs) (.slice (some ⟨g, o, none⟩) xs.length cap) := by
  refine .lst q k xs g o cap (fun i j => (w.cell? ⟨g, o + i * k + j, none⟩).getD Go.undef) hq hc hm hI he (fun i j x c hx hj => ?_) (fun i j x c hx hj => ?_)
  · obtain ⟨v, h1, _⟩ := h i j x c hx hj; simp [h1]
  · obtain ⟨v, h1, h2⟩ := h i j x c hx hj; simpa [h1] using h2

theorem Rel.mk_lref {w : World} {M : AMap} {I : Nat → Prop} {n : Nat} {x : AV} {oo g o : Nat} (hI : I g) (hx : x.noRef = true)
    (h : ∀ j c, x.cells[oo + j]? = some c → ∃ v, w.cell? ⟨g, o + j, none⟩ = some v ∧ Rel w M I n c v) : Rel w M I n (.lref x oo) (.pointer (some ⟨g, o, none⟩)) := by
  refine .lref x oo g o (fun j => (w.cell? ⟨g, o + j, none⟩).getD Go.undef) hI hx (fun j c hj => ?_) (fun j c hj => ?_)
  · obtain ⟨v, h1, _⟩ := h j c hj; simp [h1]
  · obtain ⟨v, h1, h2⟩ := h j c hj; simpa [h1] using h2

/-! ### Heaps -/

theorem Rel.oneCell {w : World} {M : AMap} {I : Nat → Prop} {n : Nat} {x : AV} {v : Value} (h : Rel w M I n x v) (hx : x.one = true) : v.oneCell' = true := by
  cases h <;> first | rfl | simp [AV.one] at hx

/-- A row of cells in the world: nothing of it is frozen. -/
def Cells (w : World) (g : Nat) (cur : Array Value) : Prop :=
  ∃ e fz, w.heap[g]? = some (.cells cur e fz) ∧ ∀ j, j < cur.size → ¬ (fz.1 ≤ j ∧ j < fz.2)

/-- What an abstract block stands for. -/
def BlkOK (w : World) (M : AMap) (I : Nat → Prop) (n b : Nat) : ABlk → Prop
  | .dead => True
  | .box cs => ∃ g o cur, M b = some (g, o) ∧ Cells w g cur ∧ ¬ I g ∧ o + cs.length ≤ cur.size ∧ ∀ j c, cs[j]? = some c → ∃ v, cur[o + j]? = some v ∧ Rel w M I n c v
  | .row k xs => Elems k xs ∧ ((M b = none ∧ xs = []) ∨ ∃ g o cur, M b = some (g, o) ∧ Cells w g cur ∧ ¬ I g ∧ o + xs.length * k ≤ cur.size ∧
      ∀ i j x c, xs[i]? = some x → x.cells[j]? = some c → ∃ v, cur[o + i * k + j]? = some v ∧ Rel w M I n c v)
  | .frz k xs => Elems k xs ∧ ((M b = none ∧ xs = []) ∨ ∃ g o, M b = some (g, o) ∧ I g ∧
      ∀ i j x c, xs[i]? = some x → x.cells[j]? = some c → ∃ v, w.cell? ⟨g, o + i * k + j, none⟩ = some v ∧ Rel w M I n c v)

/-- The model's block k is one that an abstract block may write. -/
def LiveAt (H : Heap) (M : AMap) (k : Nat) : Prop := ∃ b x o, H[b]? = some x ∧ x.mut = true ∧ M b = some (k, o)

/-- The abstract heap stands for what lies in the world. 'GT': what the package-level variables are known to hold. -/
structure Sim (GT : Nat → Option AV) (w : World) (M : AMap) (I : Nat → Prop) (H : Heap) : Prop where
  glob : ∀ g x, GT g = some x → Rel w M I 0 (.lref x 0) (.pointer (some ⟨g, 0, none⟩))
  idom : ∀ k, I k → k < w.heap.size
  blk : ∀ b x, H[b]? = some x → BlkOK w M I H.length b x
  inj : ∀ b b' x x' g o o', H[b]? = some x → x.mut = true → H[b']? = some x' → x'.mut = true → M b = some (g, o) → M b' = some (g, o') → b = b'
  shp : ∀ g x, GT g = some x → ∃ e, w.shape? g = some (e, x.cells.length)

/-- From one state to a later one: what the first one's values stand for stays; nothing else of the old world has turned. -/
structure Grow (w : World) (M : AMap) (I : Nat → Prop) (H : Heap) (w' : World) (M' : AMap) (I' : Nat → Prop) (H' : Heap) : Prop where
  os : w'.os = w.os
  tape : w'.tape = w.tape
  output : w'.output = w.output
  size : w.heap.size ≤ w'.heap.size
  map : ∀ b, b < H.length → M' b = M b
  imm : ∀ k, I k → I' k
  imm' : ∀ k, I' k → k < w.heap.size → I k ∨ LiveAt H M k
  frame : ∀ k, k < w.heap.size → ¬ LiveAt H M k → w'.heap[k]? = w.heap[k]?
  live : ∀ k, k < w.heap.size → LiveAt H' M' k → LiveAt H M k
  shape : ∀ g s, w.shape? g = some s → w'.shape? g = some s
  len : H.length ≤ H'.length

theorem Sim.notLive {GT : Nat → Option AV} {w : World} {M : AMap} {I : Nat → Prop} {H : Heap} (h : Sim GT w M I H) {k : Nat} (hk : I k) : ¬ LiveAt H M k := by
  rintro ⟨b, x, o, hb, hm, hM⟩
  have hB := h.blk b x hb
  cases x with
  | dead => simp [ABlk.mut] at hm
  | frz => simp [ABlk.mut] at hm
  | box cs =>
    obtain ⟨g, o', cur, h1, _, h3, _⟩ := hB
    rw [hM] at h1; simp at h1; obtain ⟨rfl, _⟩ := h1; exact h3 hk
  | row k' xs =>
    obtain ⟨_, ⟨h1, _⟩ | ⟨g, o', cur, h1, _, h3, _⟩⟩ := hB
    · rw [hM] at h1; cases h1
    · rw [hM] at h1; simp at h1; obtain ⟨rfl, _⟩ := h1; exact h3 hk

theorem Grow.refl (w : World) (M : AMap) (I : Nat → Prop) (H : Heap) : Grow w M I H w M I H :=
  ⟨rfl, rfl, rfl, Nat.le_refl _, fun _ _ => rfl, fun _ h => h, fun _ h _ => .inl h, fun _ _ _ => rfl, fun _ _ h => h, fun _ _ h => h, Nat.le_refl _⟩

theorem Grow.trans {w w1 w2 : World} {M M1 M2 : AMap} {I I1 I2 : Nat → Prop} {H H1 H2 : Heap} (h : Grow w M I H w1 M1 I1 H1) (k : Grow w1 M1 I1 H1 w2 M2 I2 H2) : Grow w M I H w2 M2 I2 H2 where
  os := k.os.trans h.os
  tape := k.tape.trans h.tape
  output := k.output.trans h.output
  size := Nat.le_trans h.size k.size
  map := fun b hb => (k.map b (Nat.lt_of_lt_of_le hb h.len)).trans (h.map b hb)
  imm := fun j hj => k.imm j (h.imm j hj)
  imm' := fun j hj hlt => by
    rcases k.imm' j hj (Nat.lt_of_lt_of_le hlt h.size) with h1 | h1
    · exact h.imm' j h1 hlt
    · exact .inr (h.live j hlt h1)
  frame := fun j hj hn => (k.frame j (Nat.lt_of_lt_of_le hj h.size) (fun hl => hn (h.live j hj hl))).trans (h.frame j hj hn)
  live := fun j hj hl => h.live j hj (k.live j (Nat.lt_of_lt_of_le hj h.size) hl)
  shape := fun g s hs => k.shape g s (h.shape g s hs)
  len := Nat.le_trans h.len k.len

/-- What a value stood for it stands for. -/
theorem Grow.rel {GT : Nat → Option AV} {w w' : World} {M M' : AMap} {I I' : Nat → Prop} {H H' : Heap} (h : Grow w M I H w' M' I' H') (hS : Sim GT w M I H) {x : AV} {v : Value} (hx : Rel w M I H.length x v) : Rel w' M' I' H'.length x v :=
  hx.mono h.imm (fun k hk => h.frame k (hS.idom k hk) (hS.notLive hk)) h.map h.len h.shape

theorem Grow.rel0 {GT : Nat → Option AV} {w w' : World} {M M' : AMap} {I I' : Nat → Prop} {H H' : Heap} (h : Grow w M I H w' M' I' H') (hS : Sim GT w M I H) {n : Nat} {x : AV} {v : Value} (hx : Rel w M I n x v) (hf : x.noRef = true) : Rel w' M' I' n x v :=
  (hx.free (M' := M) (n' := 0) hf).mono h.imm (fun k hk => h.frame k (hS.idom k hk) (hS.notLive hk)) (fun _ h => absurd h (Nat.not_lt_zero _)) (Nat.zero_le _) h.shape

theorem Grow.glob {GT : Nat → Option AV} {w w' : World} {M M' : AMap} {I I' : Nat → Prop} {H H' : Heap} (h : Grow w M I H w' M' I' H') (hS : Sim GT w M I H) : ∀ g x, GT g = some x → Rel w' M' I' 0 (.lref x 0) (.pointer (some ⟨g, 0, none⟩)) :=
  fun g x hg => h.rel0 hS (hS.glob g x hg) (by simp [AV.noRef, AV.bel])

theorem BlkOK.mono {w w' : World} {M M' : AMap} {I I' : Nat → Prop} {n n' b : Nat} {x : ABlk} (h : BlkOK w M I n b x) (hbn : b < n) (hI : ∀ k, I k → I' k) (hb : ∀ k, I k → w'.heap[k]? = w.heap[k]?) (hM : ∀ b, b < n → M' b = M b) (hn : n ≤ n')
    (hs : ∀ g s, w.shape? g = some s → w'.shape? g = some s) (hheap : ∀ g o, M b = some (g, o) → x.mut = true → w'.heap[g]? = w.heap[g]?) (hnI : ∀ g o, M b = some (g, o) → x.mut = true → ¬ I g → ¬ I' g) : BlkOK w' M' I' n' b x := by
  have R : ∀ {c v}, Rel w M I n c v → Rel w' M' I' n' c v := fun h => h.mono hI hb hM hn hs
  cases x with
  | dead => trivial
  | box cs =>
    obtain ⟨g, o, cur, h1, ⟨e, fz, h2, h2'⟩, h3, h4, h5⟩ := h
    exact ⟨g, o, cur, (hM b hbn).trans h1, ⟨e, fz, (hheap g o h1 rfl).trans h2, h2'⟩, hnI g o h1 rfl h3, h4, fun j c hj => let ⟨v, a, b⟩ := h5 j c hj; ⟨v, a, R b⟩⟩
  | row k xs =>
    obtain ⟨he, ⟨h1, h2⟩ | ⟨g, o, cur, h1, ⟨e, fz, h2, h2'⟩, h3, h4, h5⟩⟩ := h
    · exact ⟨he, .inl ⟨(hM b hbn).trans h1, h2⟩⟩
    · exact ⟨he, .inr ⟨g, o, cur, (hM b hbn).trans h1, ⟨e, fz, (hheap g o h1 rfl).trans h2, h2'⟩, hnI g o h1 rfl h3, h4, fun i j x c hx hj => let ⟨v, a, b⟩ := h5 i j x c hx hj; ⟨v, a, R b⟩⟩⟩
  | frz k xs =>
    obtain ⟨he, ⟨h1, h2⟩ | ⟨g, o, h1, h3, h5⟩⟩ := h
    · exact ⟨he, .inl ⟨(hM b hbn).trans h1, h2⟩⟩
    · exact ⟨he, .inr ⟨g, o, (hM b hbn).trans h1, hI g h3, fun i j x c hx hj => let ⟨v, a, b⟩ := h5 i j x c hx hj; ⟨v, by simpa [World.cell?, hb g h3] using a, R b⟩⟩⟩

theorem shape?_of_heap {w w' : World} {g : Nat} (h : w'.heap[g]? = w.heap[g]?) : w'.shape? g = w.shape? g := by simp [World.shape?, h]

end Go.AM
