/- Several texts of mine in one (Am1, Am2, Am3, Am4, Am5, Am6, Am7, Am8, Am9, Am10, Am11). Own work. -/
import Derived.WalkKit
import Derived.Laws.StructEq
import Derived.OwnWalk
import Derived.Lib.ConvBytes
import Derived.Laws.BytesString
import Derived.Laws.IdiomStrings
import Derived.Laws.Slices
import Derived.Laws.Tables

/- The abstract machine, part 1: abstract values, how they stand for the model's values, abstract heaps, growth. Own work; nothing of a program stands here. -/
set_option linter.all false
namespace Go.AM

/-- Abstract values. Slices are either immutable lists ('lst'; the flag: 'some true' it is nil, 'some false' it is not, 'none' unknown) or views on a row of the abstract heap ('sl'). -/
inductive AV where
  | undef
  | bool (b : Bool)
  | int (k : IntKind) (n : Int)
  | str (s : List UInt8)
  | agg (cs : List AV)
  | tup (vs : List AV)
  | lst (q : Option Bool) (k : Nat) (xs : List AV)
  | lref (x : AV) (o : Nat)
  | ref (b k i o : Nat)
  | sl (q : Option Bool) (b k off len : Nat)
  | nilp
  | nilf
  | nili
  | nilm
  | fn (f : FuncId) (first caps : List AV)
  | iface (t : TypeId) (v : AV)
  | raw (v : Value)
  | pan (v : AV)
  deriving Inhabited

def AV.cells : AV → List AV
  | .agg cs => cs
  | v => [v]

mutual
/-- All blocks that a value names have numbers below n. -/
def AV.bel (n : Nat) : AV → Bool
  | .ref b _ _ _ => decide (b < n)
  | .sl _ b _ _ _ => decide (b < n)
  | .agg cs => AV.belL n cs
  | .tup cs => AV.belL n cs
  | .lst _ _ _ => true
  | .lref _ _ => true
  | .fn _ a b => AV.belL n a && AV.belL n b
  | .iface _ v => AV.bel n v
  | _ => true
def AV.belL (n : Nat) : List AV → Bool
  | [] => true
  | x :: r => AV.bel n x && AV.belL n r
end

theorem AV.belL_iff (n : Nat) : ∀ l, AV.belL n l = true ↔ ∀ x ∈ l, AV.bel n x = true
  | [] => by simp [AV.belL]
  | x :: r => by simp [AV.belL, AV.belL_iff n r]

/-- It names no block. -/
def AV.noRef (v : AV) : Bool := v.bel 0

inductive ABlk where
  | dead
  | box (cs : List AV)
  | row (k : Nat) (xs : List AV)
  | frz (k : Nat) (xs : List AV)
  deriving Inhabited

abbrev Heap := List ABlk

def ABlk.mut : ABlk → Bool
  | .box _ => true
  | .row _ _ => true
  | _ => false

/-- It fills one cell, and is known. -/
def AV.one : AV → Bool
  | .undef | .agg _ | .tup _ | .raw _ | .pan _ => false
  | _ => true

/-- An element of a row: k cells wide; it names no block. -/
def AV.elem (k : Nat) (x : AV) : Bool := x.cells.length == k && x.noRef && x.cells.all AV.one

/-- Each element is one of a row, k cells wide. -/
def Elems (k : Nat) (xs : List AV) : Prop := ∀ x ∈ xs, x.elem k = true

theorem AV.elem_iff {k : Nat} {x : AV} : x.elem k = true ↔ x.cells.length = k ∧ x.noRef = true ∧ ∀ c ∈ x.cells, c.one = true := by
  simp [AV.elem, and_assoc]

abbrev AMap := Nat → Option (Nat × Nat)

/-- What an abstract value stands for in a world. 'M': where the abstract blocks lie; 'I': the model's blocks that nobody writes any more; 'n': how many abstract blocks there are. -/
inductive Rel (w : World) (M : AMap) (I : Nat → Prop) (n : Nat) : AV → Value → Prop where
  | undef (v : Value) : Rel w M I n .undef v
  | bool (b : Bool) : Rel w M I n (.bool b) (.bool b)
  | int (k : IntKind) (m : Int) : Rel w M I n (.int k m) (.int k m)
  | str (s : List UInt8) : Rel w M I n (.str s) (.string ⟨s.toArray⟩)
  | agg (cs : List AV) (vs : List Value) (hl : cs.length = vs.length) (h : ∀ (i : Nat) (c : AV) (v : Value), cs[i]? = some c → vs[i]? = some v → Rel w M I n c v) : Rel w M I n (.agg cs) (.agg vs.toArray)
  | tup (cs : List AV) (vs : List Value) (hl : cs.length = vs.length) (h : ∀ (i : Nat) (c : AV) (v : Value), cs[i]? = some c → vs[i]? = some v → Rel w M I n c v) : Rel w M I n (.tup cs) (.tuple vs.toArray)
  | lnil (q : Option Bool) (k : Nat) (hq : q ≠ some false) : Rel w M I n (.lst q k []) (.slice none 0 0)
  | lemp (q : Option Bool) (k : Nat) (a : Addr) (hq : q ≠ some true) : Rel w M I n (.lst q k []) (.slice (some a) 0 0)
  | lst (q : Option Bool) (k : Nat) (xs : List AV) (g o cap : Nat) (V : Nat → Nat → Value) (hq : q ≠ some true) (hc : xs.length ≤ cap) (hm : cap ≤ maxLen) (hI : I g) (he : Elems k xs)
      (hv : ∀ (i j : Nat) (x c : AV), xs[i]? = some x → x.cells[j]? = some c → w.cell? ⟨g, o + i * k + j, none⟩ = some (V i j))
      (hr : ∀ (i j : Nat) (x c : AV), xs[i]? = some x → x.cells[j]? = some c → Rel w M I n c (V i j)) : Rel w M I n (.lst q k xs) (.slice (some ⟨g, o, none⟩) xs.length cap)
  | lref (x : AV) (oo g o : Nat) (V : Nat → Value) (hI : I g) (hx : x.noRef = true)
      (hv : ∀ (j : Nat) (c : AV), x.cells[oo + j]? = some c → w.cell? ⟨g, o + j, none⟩ = some (V j))
      (hr : ∀ (j : Nat) (c : AV), x.cells[oo + j]? = some c → Rel w M I n c (V j)) : Rel w M I n (.lref x oo) (.pointer (some ⟨g, o, none⟩))
  | ref (b k i oo g o : Nat) (hb : b < n) (hM : M b = some (g, o)) : Rel w M I n (.ref b k i oo) (.pointer (some ⟨g, o + i * k + oo, none⟩))
  | sln (q : Option Bool) (b k off : Nat) (hb : b < n) (hM : M b = none) (hq : q ≠ some false) : Rel w M I n (.sl q b k off 0) (.slice none 0 0)
  | sl (q : Option Bool) (b k off len g o p cap : Nat) (hb : b < n) (hM : M b = some (g, o)) (hc : len ≤ cap) (hm : cap ≤ maxLen) (hq : q = some true → 0 < len)
      (ha : 0 < cap → p = o + off * k ∧ ∃ e sz, w.shape? g = some (e, sz) ∧ o + (off + cap) * k ≤ sz) : Rel w M I n (.sl q b k off len) (.slice (some ⟨g, p, none⟩) len cap)
  | nilp : Rel w M I n .nilp (.pointer none)
  | nilf : Rel w M I n .nilf .nilFunc
  | nili : Rel w M I n .nili .nilIface
  | nilm : Rel w M I n .nilm (.map none)
  | fn (f : FuncId) (as bs : List AV) (vs us : List Value) (hl : as.length = vs.length) (hl' : bs.length = us.length) (h : ∀ (i : Nat) (c : AV) (v : Value), as[i]? = some c → vs[i]? = some v → Rel w M I n c v)
      (h' : ∀ (i : Nat) (c : AV) (v : Value), bs[i]? = some c → us[i]? = some v → Rel w M I n c v) : Rel w M I n (.fn f as bs) (.func (.func f) vs.toArray us.toArray)
  | iface (t : TypeId) (x : AV) (v : Value) (h : Rel w M I n x v) : Rel w M I n (.iface t x) (.iface t v)
  | raw (v : Value) : Rel w M I n (.raw v) v

/-- Lists of values, place by place. -/
def RelL (w : World) (M : AMap) (I : Nat → Prop) (n : Nat) (cs : List AV) (vs : List Value) : Prop :=
  cs.length = vs.length ∧ ∀ (i : Nat) (c : AV) (v : Value), cs[i]? = some c → vs[i]? = some v → Rel w M I n c v

theorem Rel.mono {w w' : World} {M M' : AMap} {I I' : Nat → Prop} {n n' : Nat} (hI : ∀ k, I k → I' k) (hb : ∀ k, I k → w'.heap[k]? = w.heap[k]?) (hM : ∀ b, b < n → M' b = M b) (hn : n ≤ n')
    (hs : ∀ g s, w.shape? g = some s → w'.shape? g = some s) {x : AV} {v : Value} (h : Rel w M I n x v) : Rel w' M' I' n' x v := by
  have hc : ∀ g o, I g → w'.cell? ⟨g, o, none⟩ = w.cell? ⟨g, o, none⟩ := fun g o hg => by simp [World.cell?, hb g hg]
  induction h with
  | undef v => exact .undef v
  | bool b => exact .bool b
  | int k m => exact .int k m
  | str s => exact .str s
  | agg cs vs hl _ ih => exact .agg cs vs hl ih
  | tup cs vs hl _ ih => exact .tup cs vs hl ih
  | lnil q k hq => exact .lnil q k hq
  | lemp q k a hq => exact .lemp q k a hq
  | lst q k xs g o cap V hq hcap hm hg he hv _ ih => exact .lst q k xs g o cap V hq hcap hm (hI g hg) he (fun i j x c hx hj => by rw [hc g _ hg]; exact hv i j x c hx hj) ih
  | lref x oo g o V hg hx hv _ ih => exact .lref x oo g o V (hI g hg) hx (fun j c hj => by rw [hc g _ hg]; exact hv j c hj) ih
  | ref b k i oo g o hbn hMb => exact .ref b k i oo g o (Nat.lt_of_lt_of_le hbn hn) (by rw [hM b hbn]; exact hMb)
  | sln q b k off hbn hMb hq => exact .sln q b k off (Nat.lt_of_lt_of_le hbn hn) (by rw [hM b hbn]; exact hMb) hq
  | sl q b k off len g o p cap hbn hMb hcl hm hq ha =>
    exact .sl q b k off len g o p cap (Nat.lt_of_lt_of_le hbn hn) (by rw [hM b hbn]; exact hMb) hcl hm hq (fun h0 => by obtain ⟨h1, e, sz, h2, h3⟩ := ha h0; exact ⟨h1, e, sz, hs _ _ h2, h3⟩)
  | nilp => exact .nilp
  | nilf => exact .nilf
  | nili => exact .nili
  | nilm => exact .nilm
  | fn f as bs vs us hl hl' _ _ ih ih' => exact .fn f as bs vs us hl hl' ih ih'
  | iface t x v _ ih => exact .iface t x v ih
  | raw v => exact .raw v

/-- A value whose blocks lie below m stands for the same where only the first m blocks are kept. -/
theorem Rel.cut {w : World} {M M' : AMap} {I : Nat → Prop} {n m : Nat} (hM : ∀ b, b < m → M' b = M b) {x : AV} {v : Value} (h : Rel w M I n x v) (hx : x.bel m = true) : Rel w M' I m x v := by
  have inner : ∀ {y : AV} {u : Value}, Rel w M I n y u → y.noRef = true → y.bel m = true := by
    intro y u hy hn
    unfold AV.noRef at hn
    revert hn
    clear hy hx h hM
    suffices H : ∀ y, (AV.bel 0 y = true → AV.bel m y = true) from H y
    intro y
    exact AV.rec (motive_1 := fun y => AV.bel 0 y = true → AV.bel m y = true) (motive_2 := fun l => AV.belL 0 l = true → AV.belL m l = true)
      (by simp [AV.bel]) (by simp [AV.bel]) (by simp [AV.bel]) (by simp [AV.bel])
      (fun cs ih => by simpa [AV.bel] using ih) (fun cs ih => by simpa [AV.bel] using ih) (by simp [AV.bel]) (by simp [AV.bel]) (by simp [AV.bel]) (by simp [AV.bel])
      (by simp [AV.bel]) (by simp [AV.bel]) (by simp [AV.bel]) (by simp [AV.bel])
      (fun f a b iha ihb => by simp only [AV.bel, Bool.and_eq_true]; exact fun h => ⟨iha h.1, ihb h.2⟩) (fun t v ih => by simpa [AV.bel] using ih) (by simp [AV.bel]) (fun v ih => by simp [AV.bel])
      (by simp [AV.belL]) (fun x r ihx ihr => by simp only [AV.belL, Bool.and_eq_true]; exact fun h => ⟨ihx h.1, ihr h.2⟩) y
  have cellsIn : ∀ {y c : AV} {j : Nat}, y.noRef = true → y.cells[j]? = some c → c.noRef = true := by
    intro y c j hy hj
    cases y with
    | agg cs =>
      simp only [AV.noRef, AV.bel, AV.belL_iff] at hy
      exact hy c (List.mem_of_getElem? hj)
    | _ =>
      simp only [AV.cells] at hj
      have hcc := List.mem_of_getElem? hj
      simp only [List.mem_singleton] at hcc
      rw [hcc]; exact hy
  induction h with
  | undef v => exact .undef v
  | bool b => exact .bool b
  | int k m => exact .int k m
  | str s => exact .str s
  | agg cs vs hl h ih =>
    simp only [AV.bel, AV.belL_iff] at hx
    exact .agg cs vs hl fun i c v hc hv => ih i c v hc hv (hx c (List.mem_of_getElem? hc))
  | tup cs vs hl h ih =>
    simp only [AV.bel, AV.belL_iff] at hx
    exact .tup cs vs hl fun i c v hc hv => ih i c v hc hv (hx c (List.mem_of_getElem? hc))
  | lnil q k hq => exact .lnil q k hq
  | lemp q k a hq => exact .lemp q k a hq
  | lst q k xs g o cap V hq hcap hm hg he hv hr ih =>
    exact .lst q k xs g o cap V hq hcap hm hg he hv fun i j x c hx hj => ih i j x c hx hj (inner (hr i j x c hx hj) (cellsIn (AV.elem_iff.1 (he x (List.mem_of_getElem? hx))).2.1 hj))
  | lref x oo g o V hg hxn hv hr ih => exact .lref x oo g o V hg hxn hv fun j c hj => ih j c hj (inner (hr j c hj) (cellsIn hxn hj))
  | ref b k i oo g o hbn hMb => simp [AV.bel] at hx; exact .ref b k i oo g o hx (by rw [hM b hx]; exact hMb)
  | sln q b k off hbn hMb hq => simp [AV.bel] at hx; exact .sln q b k off hx (by rw [hM b hx]; exact hMb) hq
  | sl q b k off len g o p cap hbn hMb hcl hm hq ha => simp [AV.bel] at hx; exact .sl q b k off len g o p cap hx (by rw [hM b hx]; exact hMb) hcl hm hq ha
  | nilp => exact .nilp
  | nilf => exact .nilf
  | nili => exact .nili
  | nilm => exact .nilm
  | fn f as bs vs us hl hl' _ _ ih ih' =>
    simp only [AV.bel, Bool.and_eq_true, AV.belL_iff] at hx
    exact .fn f as bs vs us hl hl' (fun i c v hc hv => ih i c v hc hv (hx.1 c (List.mem_of_getElem? hc))) (fun i c v hc hv => ih' i c v hc hv (hx.2 c (List.mem_of_getElem? hc)))
  | iface t x v _ ih => simp only [AV.bel] at hx; exact .iface t x v (ih hx)
  | raw v => exact .raw v

/-- What stands for something names blocks that are there. -/
theorem Rel.bel {w : World} {M : AMap} {I : Nat → Prop} {n : Nat} {x : AV} {v : Value} (h : Rel w M I n x v) : x.bel n = true := by
  induction h with
  | agg cs vs hl h ih =>
    simp only [AV.bel, AV.belL_iff]
    intro c hc
    obtain ⟨i, hi⟩ := List.getElem?_of_mem hc
    obtain ⟨u, hu⟩ : ∃ u, vs[i]? = some u := ⟨_, List.getElem?_eq_getElem (by have := (List.getElem?_eq_some_iff.1 hi).1; omega)⟩
    exact ih i c u hi hu
  | tup cs vs hl h ih =>
    simp only [AV.bel, AV.belL_iff]
    intro c hc
    obtain ⟨i, hi⟩ := List.getElem?_of_mem hc
    obtain ⟨u, hu⟩ : ∃ u, vs[i]? = some u := ⟨_, List.getElem?_eq_getElem (by have := (List.getElem?_eq_some_iff.1 hi).1; omega)⟩
    exact ih i c u hi hu
  | fn f as bs vs us hl hl' _ _ ih ih' =>
    simp only [AV.bel, Bool.and_eq_true, AV.belL_iff]
    refine ⟨fun c hc => ?_, fun c hc => ?_⟩
    · obtain ⟨i, hi⟩ := List.getElem?_of_mem hc
      obtain ⟨u, hu⟩ : ∃ u, vs[i]? = some u := ⟨_, List.getElem?_eq_getElem (by have := (List.getElem?_eq_some_iff.1 hi).1; omega)⟩
      exact ih i c u hi hu
    · obtain ⟨i, hi⟩ := List.getElem?_of_mem hc
      obtain ⟨u, hu⟩ : ∃ u, us[i]? = some u := ⟨_, List.getElem?_eq_getElem (by have := (List.getElem?_eq_some_iff.1 hi).1; omega)⟩
      exact ih' i c u hi hu
  | iface t x v _ ih => simpa [AV.bel] using ih
  | ref b k i oo g o hbn hMb => simpa [AV.bel] using hbn
  | sln q b k off hbn hMb hq => simpa [AV.bel] using hbn
  | sl q b k off len g o p cap hbn hMb hcl hm hq ha => simpa [AV.bel] using hbn
  | _ => simp [AV.bel]

theorem AV.noRef_cells {y c : AV} {j : Nat} (hy : y.noRef = true) (hj : y.cells[j]? = some c) : c.noRef = true := by
  cases y with
  | agg cs =>
    simp only [AV.noRef, AV.bel, AV.belL_iff] at hy
    exact hy c (List.mem_of_getElem? hj)
  | _ =>
    simp only [AV.cells] at hj
    have hcc := List.mem_of_getElem? hj
    simp only [List.mem_singleton] at hcc
    rw [hcc]; exact hy

/-- A value without blocks stands for the same under any map. -/
theorem Rel.free {w : World} {M M' : AMap} {I : Nat → Prop} {n n' : Nat} {x : AV} {v : Value} (h : Rel w M I n x v) (hx : x.noRef = true) : Rel w M' I n' x v :=
  Rel.mono (M := M') (n := 0) (fun _ h => h) (fun _ _ => rfl) (fun _ h => absurd h (Nat.not_lt_zero _)) (Nat.zero_le _) (fun _ _ h => h) (Rel.cut (m := 0) (fun _ h => absurd h (Nat.not_lt_zero _)) h hx)

/-- An immutable slice out of facts on its cells. -/
theorem Rel.mk_lst {w : World} {M : AMap} {I : Nat → Prop} {n : Nat} {q : Option Bool} {xs : List AV} {g o cap k : Nat} (hq : q ≠ some true) (hc : xs.length ≤ cap) (hm : cap ≤ maxLen) (hI : I g) (he : Elems k xs)
    (h : ∀ i j x c, xs[i]? = some x → x.cells[j]? = some c → ∃ v, w.cell? ⟨g, o + i * k + j, none⟩ = some v ∧ Rel w M I n c v) : Rel w M I n (.lst q k xs) (.slice (some ⟨g, o, none⟩) xs.length cap) := by
  refine .lst q k xs g o cap (fun i j => (w.cell? ⟨g, o + i * k + j, none⟩).getD Go.undef) hq hc hm hI he (fun i j x c hx hj => ?_) (fun i j x c hx hj => ?_)
  · obtain ⟨v, h1, _⟩ := h i j x c hx hj; simp [h1]
  · obtain ⟨v, h1, h2⟩ := h i j x c hx hj; simpa [h1] using h2

theorem Rel.mk_lref {w : World} {M : AMap} {I : Nat → Prop} {n : Nat} {x : AV} {oo g o : Nat} (hI : I g) (hx : x.noRef = true)
    (h : ∀ j c, x.cells[oo + j]? = some c → ∃ v, w.cell? ⟨g, o + j, none⟩ = some v ∧ Rel w M I n c v) : Rel w M I n (.lref x oo) (.pointer (some ⟨g, o, none⟩)) := by
  refine .lref x oo g o (fun j => (w.cell? ⟨g, o + j, none⟩).getD Go.undef) hI hx (fun j c hj => ?_) (fun j c hj => ?_)
  · obtain ⟨v, h1, _⟩ := h j c hj; simp [h1]
  · obtain ⟨v, h1, h2⟩ := h j c hj; simpa [h1] using h2

/-! ### Heaps -/

theorem Rel.oneCell {w : World} {M : AMap} {I : Nat → Prop} {n : Nat} {x : AV} {v : Value} (h : Rel w M I n x v) (hx : x.one = true) : v.oneCell' = true := by
  cases h <;> first | rfl | simp [AV.one] at hx

/-- A row of cells in the world: nothing of it is frozen. -/
def Cells (w : World) (g : Nat) (cur : Array Value) : Prop :=
  ∃ e fz, w.heap[g]? = some (.cells cur e fz) ∧ ∀ j, j < cur.size → ¬ (fz.1 ≤ j ∧ j < fz.2)

/-- What an abstract block stands for. -/
def BlkOK (w : World) (M : AMap) (I : Nat → Prop) (n b : Nat) : ABlk → Prop
  | .dead => True
  | .box cs => ∃ g o cur, M b = some (g, o) ∧ Cells w g cur ∧ ¬ I g ∧ o + cs.length ≤ cur.size ∧ ∀ j c, cs[j]? = some c → ∃ v, cur[o + j]? = some v ∧ Rel w M I n c v
  | .row k xs => Elems k xs ∧ ((M b = none ∧ xs = []) ∨ ∃ g o cur, M b = some (g, o) ∧ Cells w g cur ∧ ¬ I g ∧ o + xs.length * k ≤ cur.size ∧
      ∀ i j x c, xs[i]? = some x → x.cells[j]? = some c → ∃ v, cur[o + i * k + j]? = some v ∧ Rel w M I n c v)
  | .frz k xs => Elems k xs ∧ ((M b = none ∧ xs = []) ∨ ∃ g o, M b = some (g, o) ∧ I g ∧
      ∀ i j x c, xs[i]? = some x → x.cells[j]? = some c → ∃ v, w.cell? ⟨g, o + i * k + j, none⟩ = some v ∧ Rel w M I n c v)

/-- The model's block k is one that an abstract block may write. -/
def LiveAt (H : Heap) (M : AMap) (k : Nat) : Prop := ∃ b x o, H[b]? = some x ∧ x.mut = true ∧ M b = some (k, o)

/-- The abstract heap stands for what lies in the world. 'GT': what the package-level variables are known to hold. -/
structure Sim (GT : Nat → Option AV) (w : World) (M : AMap) (I : Nat → Prop) (H : Heap) : Prop where
  glob : ∀ g x, GT g = some x → Rel w M I 0 (.lref x 0) (.pointer (some ⟨g, 0, none⟩))
  idom : ∀ k, I k → k < w.heap.size
  blk : ∀ b x, H[b]? = some x → BlkOK w M I H.length b x
  inj : ∀ b b' x x' g o o', H[b]? = some x → x.mut = true → H[b']? = some x' → x'.mut = true → M b = some (g, o) → M b' = some (g, o') → b = b'

/-- From one state to a later one: what the first one's values stand for stays; nothing else of the old world has turned. -/
structure Grow (w : World) (M : AMap) (I : Nat → Prop) (H : Heap) (w' : World) (M' : AMap) (I' : Nat → Prop) (H' : Heap) : Prop where
  os : w'.os = w.os
  tape : w'.tape = w.tape
  output : w'.output = w.output
  size : w.heap.size ≤ w'.heap.size
  map : ∀ b, b < H.length → M' b = M b
  imm : ∀ k, I k → I' k
  imm' : ∀ k, I' k → k < w.heap.size → I k ∨ LiveAt H M k
  frame : ∀ k, k < w.heap.size → ¬ LiveAt H M k → w'.heap[k]? = w.heap[k]?
  live : ∀ k, k < w.heap.size → LiveAt H' M' k → LiveAt H M k
  shape : ∀ g s, w.shape? g = some s → w'.shape? g = some s
  len : H.length ≤ H'.length

theorem Sim.notLive {GT : Nat → Option AV} {w : World} {M : AMap} {I : Nat → Prop} {H : Heap} (h : Sim GT w M I H) {k : Nat} (hk : I k) : ¬ LiveAt H M k := by
  rintro ⟨b, x, o, hb, hm, hM⟩
  have hB := h.blk b x hb
  cases x with
  | dead => simp [ABlk.mut] at hm
  | frz => simp [ABlk.mut] at hm
  | box cs =>
    obtain ⟨g, o', cur, h1, _, h3, _⟩ := hB
    rw [hM] at h1; simp at h1; obtain ⟨rfl, _⟩ := h1; exact h3 hk
  | row k' xs =>
    obtain ⟨_, ⟨h1, _⟩ | ⟨g, o', cur, h1, _, h3, _⟩⟩ := hB
    · rw [hM] at h1; cases h1
    · rw [hM] at h1; simp at h1; obtain ⟨rfl, _⟩ := h1; exact h3 hk

theorem Grow.refl (w : World) (M : AMap) (I : Nat → Prop) (H : Heap) : Grow w M I H w M I H :=
  ⟨rfl, rfl, rfl, Nat.le_refl _, fun _ _ => rfl, fun _ h => h, fun _ h _ => .inl h, fun _ _ _ => rfl, fun _ _ h => h, fun _ _ h => h, Nat.le_refl _⟩

theorem Grow.trans {w w1 w2 : World} {M M1 M2 : AMap} {I I1 I2 : Nat → Prop} {H H1 H2 : Heap} (h : Grow w M I H w1 M1 I1 H1) (k : Grow w1 M1 I1 H1 w2 M2 I2 H2) : Grow w M I H w2 M2 I2 H2 where
  os := k.os.trans h.os
  tape := k.tape.trans h.tape
  output := k.output.trans h.output
  size := Nat.le_trans h.size k.size
  map := fun b hb => (k.map b (Nat.lt_of_lt_of_le hb h.len)).trans (h.map b hb)
  imm := fun j hj => k.imm j (h.imm j hj)
  imm' := fun j hj hlt => by
    rcases k.imm' j hj (Nat.lt_of_lt_of_le hlt h.size) with h1 | h1
    · exact h.imm' j h1 hlt
    · exact .inr (h.live j hlt h1)
  frame := fun j hj hn => (k.frame j (Nat.lt_of_lt_of_le hj h.size) (fun hl => hn (h.live j hj hl))).trans (h.frame j hj hn)
  live := fun j hj hl => h.live j hj (k.live j (Nat.lt_of_lt_of_le hj h.size) hl)
  shape := fun g s hs => k.shape g s (h.shape g s hs)
  len := Nat.le_trans h.len k.len

/-- What a value stood for it stands for. -/
theorem Grow.rel {GT : Nat → Option AV} {w w' : World} {M M' : AMap} {I I' : Nat → Prop} {H H' : Heap} (h : Grow w M I H w' M' I' H') (hS : Sim GT w M I H) {x : AV} {v : Value} (hx : Rel w M I H.length x v) : Rel w' M' I' H'.length x v :=
  hx.mono h.imm (fun k hk => h.frame k (hS.idom k hk) (hS.notLive hk)) h.map h.len h.shape

theorem Grow.rel0 {GT : Nat → Option AV} {w w' : World} {M M' : AMap} {I I' : Nat → Prop} {H H' : Heap} (h : Grow w M I H w' M' I' H') (hS : Sim GT w M I H) {n : Nat} {x : AV} {v : Value} (hx : Rel w M I n x v) (hf : x.noRef = true) : Rel w' M' I' n x v :=
  (hx.free (M' := M) (n' := 0) hf).mono h.imm (fun k hk => h.frame k (hS.idom k hk) (hS.notLive hk)) (fun _ h => absurd h (Nat.not_lt_zero _)) (Nat.zero_le _) h.shape

theorem Grow.glob {GT : Nat → Option AV} {w w' : World} {M M' : AMap} {I I' : Nat → Prop} {H H' : Heap} (h : Grow w M I H w' M' I' H') (hS : Sim GT w M I H) : ∀ g x, GT g = some x → Rel w' M' I' 0 (.lref x 0) (.pointer (some ⟨g, 0, none⟩)) :=
  fun g x hg => h.rel0 hS (hS.glob g x hg) (by simp [AV.noRef, AV.bel])

theorem BlkOK.mono {w w' : World} {M M' : AMap} {I I' : Nat → Prop} {n n' b : Nat} {x : ABlk} (h : BlkOK w M I n b x) (hbn : b < n) (hI : ∀ k, I k → I' k) (hb : ∀ k, I k → w'.heap[k]? = w.heap[k]?) (hM : ∀ b, b < n → M' b = M b) (hn : n ≤ n')
    (hs : ∀ g s, w.shape? g = some s → w'.shape? g = some s) (hheap : ∀ g o, M b = some (g, o) → x.mut = true → w'.heap[g]? = w.heap[g]?) (hnI : ∀ g o, M b = some (g, o) → x.mut = true → ¬ I g → ¬ I' g) : BlkOK w' M' I' n' b x := by
  have R : ∀ {c v}, Rel w M I n c v → Rel w' M' I' n' c v := fun h => h.mono hI hb hM hn hs
  cases x with
  | dead => trivial
  | box cs =>
    obtain ⟨g, o, cur, h1, ⟨e, fz, h2, h2'⟩, h3, h4, h5⟩ := h
    exact ⟨g, o, cur, (hM b hbn).trans h1, ⟨e, fz, (hheap g o h1 rfl).trans h2, h2'⟩, hnI g o h1 rfl h3, h4, fun j c hj => let ⟨v, a, b⟩ := h5 j c hj; ⟨v, a, R b⟩⟩
  | row k xs =>
    obtain ⟨he, ⟨h1, h2⟩ | ⟨g, o, cur, h1, ⟨e, fz, h2, h2'⟩, h3, h4, h5⟩⟩ := h
    · exact ⟨he, .inl ⟨(hM b hbn).trans h1, h2⟩⟩
    · exact ⟨he, .inr ⟨g, o, cur, (hM b hbn).trans h1, ⟨e, fz, (hheap g o h1 rfl).trans h2, h2'⟩, hnI g o h1 rfl h3, h4, fun i j x c hx hj => let ⟨v, a, b⟩ := h5 i j x c hx hj; ⟨v, a, R b⟩⟩⟩
  | frz k xs =>
    obtain ⟨he, ⟨h1, h2⟩ | ⟨g, o, h1, h3, h5⟩⟩ := h
    · exact ⟨he, .inl ⟨(hM b hbn).trans h1, h2⟩⟩
    · exact ⟨he, .inr ⟨g, o, (hM b hbn).trans h1, hI g h3, fun i j x c hx hj => let ⟨v, a, b⟩ := h5 i j x c hx hj; ⟨v, by simpa [World.cell?, hb g h3] using a, R b⟩⟩⟩

theorem shape?_of_heap {w w' : World} {g : Nat} (h : w'.heap[g]? = w.heap[g]?) : w'.shape? g = w.shape? g := by simp [World.shape?, h]

end Go.AM

/- The abstract machine, part 2: cleaned code, its abstract steps, and what they ask ('AW'). Own work. -/
set_option linter.all false
namespace Go.AM

abbrev Fr := List (Nat × AV)

def get : Fr → Nat → AV
  | [], _ => .undef
  | (j, v) :: r, i => if j = i then v else get r i
def restrict (fr : Fr) (L : List Nat) : Fr := L.map fun i => (i, get fr i)

inductive Opd where
  | tmp (t : Nat)
  | const (v : AV)
  | glob (g : Nat)
  | fn (f : FuncId)
  deriving Inhabited

def ev (GT : Nat → Option AV) (fr : Fr) : Opd → AV
  | .tmp t => get fr t
  | .const v => v
  | .glob g => match GT g with
    | some x => .lref x 0
    | none => .undef
  | .fn f => .fn f [] []

/-- The kinds of cells that '==' takes. -/
inductive Sc where
  | int (k : IntKind)
  | bool
  | str
  deriving DecidableEq, Inhabited

/-- What kind of thing is held against nil. -/
inductive EK where
  | iface
  | ptr
  | sl
  | fn
  deriving DecidableEq, Inhabited

inductive AK where
  | mv
  | pick
  | bin (op : BinOp)
  | eqs (neg : Bool) (sh : List Sc)
  | eqb (neg : Bool)
  | eqn (e : EK) (neg lit : Bool)
  | un (op : UnOp)
  | convInt (k : IntKind)
  | convRune
  | convId
  | bytesToStr
  | strToBytes
  | mkIface (t : TypeId)
  | mkFn (f : FuncId) (m : Nat)
  | len (s : Bool)
  | slc (k : Option Nat) (lo hi : Bool)
  | fieldAddr (o : Nat)
  | field (o s : Nat) (ag : Bool)
  | idxAddr (k : Nat)
  | idxArr (k n : Nat)
  | idxStr
  | idxAgg (k n : Nat) (ag : Bool)
  | nilchk
  | extract (i : Nat)
  | load (s : Nat) (ag : Bool)
  | store (s : Nat)
  | alloc (z : List AV)
  | box
  | build (z : List AV) (pl : List (Nat × Nat))
  | bslice (k : Nat)
  | make (k bytes : Nat) (z : AV)
  | append (k bytes : Nat)
  | copy (k : Nat)
  | min
  | max
  | call (f : FuncId) (rd : Bool)
  | callv (rd : Bool)
  | appendS
  | stuck
  | callp (f : FuncId)
  | callvp
  | panic
  deriving Inhabited

structure AI where
  dst : Option Nat
  g : Option (Nat × Bool)
  k : AK
  xs : List Opd
  deriving Inhabited

/-- In which order a region's operations are looked at; where their order matters, each way that it may go. -/
inductive OT where
  | done
  | step (j : Nat) (t : OT)
  | alt (a b : OT)
  deriving Inhabited

inductive AC where
  | skip
  | reg (L : List Nat) (draw : Bool) (ops : List AI)
  | seq (a b : AC)
  | cond (c : Opd) (a b : AC)
  | block (id : Nat) (L : List Nat) (c : AC)
  | loop (L : List Nat) (c : AC)
  | exit (id : Nat)
  | ret
  | stuck
  | regt (L : List Nat) (draw : Bool) (ops : List AI) (t : OT)
  | label
  | goto (l : Nat)
  | scope (L : List Nat) (l : Nat) (c r : AC)
  deriving Inhabited

/-! ### Abstract steps -/

def intBin (op : BinOp) (k : IntKind) (a b : Int) : Option AV :=
  match op with
  | .add => some (.int k (k.wrap (a + b)))
  | .sub => some (.int k (k.wrap (a - b)))
  | .mul => some (.int k (k.wrap (a * b)))
  | .quo => if b = 0 then none else some (.int k (k.wrap (a.tdiv b)))
  | .rem => if b = 0 then none else some (.int k (a.tmod b))
  | .and => some (.int k (k.wrap (BitVec.ofInt k.bits a &&& BitVec.ofInt k.bits b).toNat))
  | .or => some (.int k (k.wrap (BitVec.ofInt k.bits a ||| BitVec.ofInt k.bits b).toNat))
  | .xor => some (.int k (k.wrap (BitVec.ofInt k.bits a ^^^ BitVec.ofInt k.bits b).toNat))
  | .andNot => some (.int k (k.wrap (BitVec.ofInt k.bits a &&& ~~~BitVec.ofInt k.bits b).toNat))
  | .eql => some (.bool (a == b))
  | .neq => some (.bool (a != b))
  | .lss => some (.bool (decide (a < b)))
  | .leq => some (.bool (decide (a ≤ b)))
  | .gtr => some (.bool (decide (a > b)))
  | .geq => some (.bool (decide (a ≥ b)))
  | _ => none

def shiftBin (op : BinOp) (k : IntKind) (a b : Int) : Option AV :=
  if b < 0 then none else
  match op with
  | .shl => some (.int k (k.wrap (a * 2 ^ Nat.min b.toNat k.bits)))
  | .shr => some (.int k (a.fdiv (2 ^ Nat.min b.toNat k.bits)))
  | _ => none

def strBin (op : BinOp) (a b : List UInt8) : Option AV :=
  match op with
  | .add => if a.length + b.length ≤ 9223372036854775807 then some (.str (a ++ b)) else none
  | .eql => some (.bool (a == b))
  | .neq => some (.bool (!(a == b)))
  | .lss => some (.bool (Op.bytesLess a b))
  | .leq => some (.bool (Op.bytesLess a b || a == b))
  | .gtr => some (.bool (!(Op.bytesLess a b || a == b)))
  | .geq => some (.bool (!Op.bytesLess a b))
  | _ => none

def aBin (op : BinOp) : AV → AV → Option AV
  | .int k a, .int k' b =>
    if op = .shl ∨ op = .shr then shiftBin op k a b
    else if k = k' then intBin op k a b else none
  | .str a, .str b => strBin op a b
  | _, _ => none

/-- Two cells, held against each other by '=='. -/
def cellEq : Sc → AV → AV → Option Bool
  | .int k, .int k1 a, .int k2 b => if k1 = k ∧ k2 = k then some (a == b) else none
  | .bool, .bool a, .bool b => some (a == b)
  | .str, .str a, .str b => some (a == b)
  | _, _, _ => none
def cellsEq : List Sc → List AV → List AV → Option Bool
  | [], [], [] => some true
  | s :: r, a :: x, b :: y => match cellEq s a b, cellsEq r x y with
    | some p, some q => some (p && q)
    | _, _ => none
  | _, _, _ => none

/-- Is a slice nil? -/
def nilness : AV → Option Bool
  | .lst q _ _ => q
  | .sl (some false) _ _ _ _ => some false
  | .sl (some true) _ _ _ len => some (decide (len = 0))
  | _ => none
/-- '==' where one side is nil. -/
def eqNil : EK → Bool → AV → AV → Option Bool
  | .iface, lit, .nili, .nili => if lit then some true else none
  | .iface, _, .nili, .iface _ _ => some false
  | .iface, _, .iface _ _, .nili => some false
  | .ptr, _, .nilp, .nilp => some true
  | .ptr, _, .nilp, .ref .. => some false
  | .ptr, _, .nilp, .lref .. => some false
  | .ptr, _, .ref .., .nilp => some false
  | .ptr, _, .lref .., .nilp => some false
  | .fn, _, .nilf, .nilf => some true
  | .fn, _, .nilf, .fn .. => some false
  | .fn, _, .fn .., .nilf => some false
  | .sl, _, .lst (some true) _ _, x => nilness x
  | .sl, _, x, .lst (some true) _ _ => nilness x
  | _, _, _, _ => none

def aUn (op : UnOp) : AV → Option AV
  | .int k a => match op with
    | .neg => some (.int k (k.wrap (0 - a)))
    | .xor => some (.int k (k.wrap (BitVec.ofInt k.bits (if k.signed then -1 else k.max) ^^^ BitVec.ofInt k.bits a).toNat))
    | _ => none
  | .bool b => match op with
    | .not => some (.bool (!b))
    | _ => none
  | _ => none

def byteAV (c : UInt8) : AV := .int .u8 c.toNat
def bytesOf : List AV → Option (List UInt8)
  | [] => some []
  | .int .u8 n :: r => (bytesOf r).map (UInt8.ofNat n.toNat :: ·)
  | _ => none

/-- The elements of a slice, each w cells wide. -/
def view (H : Heap) (w : Nat) : AV → Option (List AV)
  | .lst _ k xs => if k = w then some xs else if xs.isEmpty then some [] else none
  | .sl _ b k off len => if k = w then (match H[b]? with
    | some (.row k' xs) => if k' = k ∧ off + len ≤ xs.length then some ((xs.drop off).take len) else none
    | some (.frz k' xs) => if k' = k ∧ off + len ≤ xs.length then some ((xs.drop off).take len) else none
    | _ => none) else none
  | _ => none

def aLen : Bool → AV → Option Nat
  | false, .lst _ _ xs => some xs.length
  | false, .sl _ _ _ _ len => some len
  | true, .str s => some s.length
  | _, _ => none

def aHi (l : Nat) : Option AV → Option Nat
  | none => some l
  | some (.int _ n) => if 0 ≤ n ∧ n ≤ (l : Int) then some n.toNat else none
  | _ => none
def aLo (h : Nat) : Option AV → Option Nat
  | none => some 0
  | some (.int _ n) => if 0 ≤ n ∧ n ≤ (h : Int) then some n.toNat else none
  | _ => none
def aBounds (l : Nat) (lo hi : Option AV) : Option (Nat × Nat) :=
  match aHi l hi with
  | none => none
  | some h => match aLo h lo with
    | none => none
    | some a => some (a, h)

/-- What a cut of a slice knows of its being nil. -/
def cutQ (q : Option Bool) (l h : Nat) : Option Bool :=
  match q with
  | some false => some false
  | some true => if l < h then some true else none
  | none => none
def cutQL (q : Option Bool) (l h : Nat) : Option Bool :=
  match q with
  | some true => if l < h then some false else some true
  | q => q

def aSlice (k : Option Nat) (x : AV) (lo hi : Option AV) : Option AV :=
  match k, x with
  | none, .str s => (aBounds s.length lo hi).map fun (l, h) => .str ((s.take h).drop l)
  | some k, .lst q k' xs => if k' = k ∨ xs.isEmpty = true then (aBounds xs.length lo hi).map fun (l, h) => .lst (cutQL q l h) k' ((xs.take h).drop l) else none
  | some k, .sl q b k' off len => if k' = k then (aBounds len lo hi).map fun (l, h) => .sl (cutQ q l h) b k (off + l) (h - l) else none
  | _, _ => none

def part (cs : List AV) (o s : Nat) (ag : Bool) : Option AV :=
  if ag then (if o + s ≤ cs.length then some (.agg ((cs.drop o).take s)) else none) else cs[o]?

/-- Where a pointer leads: the cells, and the place among them. -/
def ptrCells (H : Heap) : AV → Option (List AV × Nat)
  | .lref x o => some (x.cells, o)
  | .ref b k i o => match H[b]? with
    | some (.box cs) => if i = 0 then some (cs, o) else none
    | some (.row k' xs) => if k' = k then (xs[i]?).map fun x => (x.cells, o) else none
    | some (.frz k' xs) => if k' = k then (xs[i]?).map fun x => (x.cells, o) else none
    | _ => none
  | _ => none

def splice (cs : List AV) (o : Nat) (vs : List AV) : List AV := cs.take o ++ vs ++ cs.drop (o + vs.length)
def updElem (x : AV) (o : Nat) (v : AV) : AV :=
  match x with
  | .agg cs => .agg (splice cs o v.cells)
  | _ => v

def frzQ (q : Option Bool) (ys : List AV) : Option Bool :=
  match q with
  | some false => some false
  | some true => some ys.isEmpty
  | none => none

mutual
/-- Rows that a value leads to are shut: nobody writes them any more; the value becomes a list. Blocks below n0 are left alone. -/
def frzV (n0 : Nat) : AV → Heap → Option (AV × Heap)
  | .sl q b k off len, H =>
    if b < n0 then some (.sl q b k off len, H) else
    match H[b]? with
    | some (.row k' xs) => if k' = k ∧ off + len ≤ xs.length then some (.lst (frzQ q ((xs.drop off).take len)) k ((xs.drop off).take len), H.set b (.frz k' xs)) else none
    | some (.frz k' xs) => if k' = k ∧ off + len ≤ xs.length then some (.lst (frzQ q ((xs.drop off).take len)) k ((xs.drop off).take len), H) else none
    | _ => none
  | .agg cs, H => match frzL n0 cs H with
    | some (cs', H') => some (.agg cs', H')
    | none => none
  | .tup cs, H => match frzL n0 cs H with
    | some (cs', H') => some (.tup cs', H')
    | none => none
  | .iface t v, H => match frzV n0 v H with
    | some (v', H') => some (.iface t v', H')
    | none => none
  | v, H => some (v, H)
def frzL (n0 : Nat) : List AV → Heap → Option (List AV × Heap)
  | [], H => some ([], H)
  | x :: r, H => match frzV n0 x H with
    | some (x', H') => match frzL n0 r H' with
      | some (r', H'') => some (x' :: r', H'')
      | none => none
    | none => none
end

def fillAll (cs : List AV) : List (Nat × Nat) → List AV → Option (List AV)
  | [], [] => some cs
  | (o, s) :: pl, v :: vs => if v.cells.length = s ∧ o + s ≤ cs.length ∧ v.cells.all AV.one = true then fillAll (splice cs o v.cells) pl vs else none
  | _, _ => none

/-- One operation that is no call: the values of its operands; the heap. -/
def astep : AK → List AV → Heap → Option (AV × Heap)
  | .mv, [x], H => some (x, H)
  | .pick, [.bool c, x, y], H => some (if c then x else y, H)
  | .bin op, [x, y], H => (aBin op x y).map (·, H)
  | .eqs neg sh, [.agg x, .agg y], H => (cellsEq sh x y).map fun b => (.bool (if neg then !b else b), H)
  | .eqb neg, [.bool a, .bool b], H => some (.bool (if neg then !(a == b) else a == b), H)
  | .eqn e neg lit, [x, y], H => (eqNil e lit x y).map fun b => (.bool (if neg then !b else b), H)
  | .un op, [x], H => (aUn op x).map (·, H)
  | .convInt k, [.int _ n], H => some (.int k (k.wrap n), H)
  | .convRune, [.int _ n], H => some (.str (Utf8.encode n).data.toList, H)
  | .convId, [.str s], H => some (.str s, H)
  | .bytesToStr, [x], H => match view H 1 x with
    | some xs => (bytesOf xs).map fun s => (.str s, H)
    | none => none
  | .strToBytes, [.str s], H => if s.length ≤ 140737488355328 then some (.sl (some false) H.length 1 0 s.length, H ++ [.row 1 (s.map byteAV)]) else none
  | .mkIface t, [x], H => some (.iface t x, H)
  | .mkFn f m, xs, H => some (.fn f (xs.take m) (xs.drop m), H)
  | .len s, [x], H => (aLen s x).map fun (n : Nat) => (AV.int .i64 (n : Int), H)
  | .slc k lo hi, x :: ys, H => match lo, hi, ys with
    | true, true, [l, h] => (aSlice k x (some l) (some h)).map (·, H)
    | true, false, [l] => (aSlice k x (some l) none).map (·, H)
    | false, true, [h] => (aSlice k x none (some h)).map (·, H)
    | false, false, [] => (aSlice k x none none).map (·, H)
    | _, _, _ => none
  | .fieldAddr o, [x], H => match x with
    | .ref b k i oo => some (.ref b k i (oo + o), H)
    | .lref x oo => some (.lref x (oo + o), H)
    | _ => none
  | .field o s ag, [.agg cs], H => (part cs o s ag).map (·, H)
  | .idxAddr k, [x, .int _ n], H => if n < 0 then none else match x with
    | .lst _ k' xs => match xs[n.toNat]? with
      | some x => if k' = k then some (.lref x 0, H) else none
      | none => none
    | .sl _ b k' off len => if n < (len : Int) ∧ k' = k then some (.ref b k (off + n.toNat) 0, H) else none
    | _ => none
  | .idxArr k m, [x, .int _ n], H => if 0 ≤ n ∧ n < (m : Int) then (match x with
    | .ref b k' i oo => some (.ref b k' i (oo + n.toNat * k), H)
    | .lref x oo => some (.lref x (oo + n.toNat * k), H)
    | _ => none) else none
  | .idxStr, [.str s, .int _ n], H => if n < 0 then none else match s[n.toNat]? with
    | some c => some (byteAV c, H)
    | none => none
  | .idxAgg k m ag, [.agg cs, .int _ n], H => if 0 ≤ n ∧ n < (m : Int) then (part cs (n.toNat * k) k ag).map (·, H) else none
  | .nilchk, [x], H => match x with
    | .ref .. | .lref .. | .fn .. => some (x, H)
    | _ => none
  | .extract i, [.tup vs], H => (vs[i]?).map (·, H)
  | .load s ag, [p], H => match ptrCells H p with
    | some (cs, o) => (part cs o s ag).map (·, H)
    | none => none
  | .store s, [p, v], H => match p with
    | .ref b k i o =>
      if v.cells.length = s ∧ v.cells.all AV.one = true then
        match H[b]? with
        | some (.box cs) => if i = 0 ∧ o + s ≤ cs.length then some (.undef, H.set b (.box (splice cs o v.cells))) else none
        | some (.row _ _) => match frzV 0 v H with
          | some (v', H') => match H'[b]? with
            | some (.row k' xs) => match xs[i]? with
              | some x => if k' = k ∧ o + s ≤ k ∧ 0 < s ∧ v'.elem s = true then some (.undef, H'.set b (.row k' (xs.set i (updElem x o v')))) else none
              | none => none
            | _ => none
          | none => none
        | _ => none
      else none
    | _ => none
  | .alloc z, [], H => some (.ref H.length 0 0 0, H ++ [.box z])
  | .box, [x], H => if x.cells.all AV.one = true then some (.ref H.length 0 0 0, H ++ [.box x.cells]) else none
  | .build z pl, vs, H => (fillAll z pl vs).map fun cs => (.agg cs, H)
  | .bslice k, vs, H => match frzL 0 vs H with
    | some (vs', H') => if vs'.all (fun v => v.elem k) = true then some (.sl (some false) H'.length k 0 vs'.length, H' ++ [.row k vs']) else none
    | none => none
  | .make k bytes z, [.int _ l, .int _ c], H =>
    if 0 ≤ l ∧ l ≤ c ∧ (bytes : Int) * c ≤ 281474976710656 ∧ c ≤ 9223372036854775807 ∧ z.elem k = true then
      some (.sl (some false) H.length k 0 l.toNat, H ++ [.row k (List.replicate l.toNat z)]) else none
  | .append k bytes, [x, y], H => match view H k y with
    | some ys => match x with
      | .lst (some true) _ _ =>
        if ys.length ≤ 9223372036854775807 ∧ ys.length * bytes ≤ 140737488355328 then some (.sl (some true) H.length k 0 ys.length, H ++ [.row k ys]) else none
      | .sl q b k' off len => match H[b]? with
        | some (.row k'' xs) => if k' = k ∧ k'' = k ∧ off + len ≤ xs.length ∧ len + ys.length ≤ 9223372036854775807 ∧ (len + ys.length) * bytes ≤ 140737488355328 then
            some (.sl q H.length k 0 (len + ys.length), H.set b .dead ++ [.row k ((xs.drop off).take len ++ ys)]) else none
        | _ => none
      | _ => none
    | none => none
  | .appendS, [x, .str s], H => match x with
    | .lst (some true) _ _ => if s.isEmpty = true then some (x, H) else if s.length ≤ 140737488355328 then some (.sl (some true) H.length 1 0 s.length, H ++ [.row 1 (s.map byteAV)]) else none
    | .sl q b k' off len => if s.isEmpty = true then some (x, H) else match H[b]? with
      | some (.row k'' xs) => if k' = 1 ∧ k'' = 1 ∧ off + len ≤ xs.length ∧ len + s.length ≤ 140737488355328 then
          some (.sl q H.length 1 0 (len + s.length), H.set b .dead ++ [.row 1 ((xs.drop off).take len ++ s.map byteAV)]) else none
      | _ => none
    | _ => none
  | .min, [.int k a, .int k' b], H => if k = k' then some (.int k (if b < a then b else a), H) else none
  | .max, [.int k a, .int k' b], H => if k = k' then some (.int k (if b > a then b else a), H) else none
  | _, _, _ => none

/-- What is known of calls: function, arguments, heap; result, heap. -/
abbrev CSpec := FuncId → List AV → Heap → AV → Heap → Prop

/-- One operation. -/
def stepK (C : CSpec) (k : AK) (vs : List AV) (H : Heap) (K : AV → Heap → Prop) : Prop :=
  match k with
  | .call f rd => ∃ v H', C f vs H v H' ∧ (rd = true → H' = H) ∧ K v H'
  | .callv rd => match vs with
    | .fn f first caps :: args => ∃ v H', C f (first ++ args ++ caps) H v H' ∧ (rd = true → H' = H) ∧ K v H'
    | _ => False
  | k => match astep k vs H with
    | some (v, H') => K v H'
    | none => False

def put (fr : Fr) : Option Nat → AV → Fr
  | some d, v => (d, v) :: fr
  | none, _ => fr

/-- Does an operation run under a guard? 'want': what is wanted; then what lies in the slot (nothing, if that operation did not run itself). -/
def gd (want : Bool) : AV → Option Bool
  | .bool b => some (b == want)
  | .tup [] => some false
  | _ => none

def AWops (C : CSpec) (GT : Nat → Option AV) : List AI → Fr → Heap → (Fr → Heap → Prop) → Prop
  | [], fr, H, K => K fr H
  | i :: is, fr, H, K => match i.g with
    | none => stepK C i.k (i.xs.map (ev GT fr)) H fun v H' => AWops C GT is (put fr i.dst v) H' K
    | some (s, want) => match gd want (get fr s) with
      | some b => if b = true then stepK C i.k (i.xs.map (ev GT fr)) H fun v H' => AWops C GT is (put fr i.dst v) H' K
          else AWops C GT is (put fr i.dst (.tup [])) H K
      | none => False

/-- As 'stepK', where a call may end in a panic, too ('KP': with what value). That 'f args' panics with x is known as 'C f (.pan .undef :: args) H x H''. -/
def stepKP (C : CSpec) (k : AK) (vs : List AV) (H : Heap) (K KP : AV → Heap → Prop) : Prop :=
  match k with
  | .callp f => (∃ v H', C f vs H v H' ∧ K v H') ∨ (∃ x H', C f (.pan .undef :: vs) H x H' ∧ KP x H')
  | .callvp => match vs with
    | .fn f first caps :: args => (∃ v H', C f (first ++ args ++ caps) H v H' ∧ K v H') ∨ (∃ x H', C f (.pan .undef :: (first ++ args ++ caps)) H x H' ∧ KP x H')
    | _ => False
  | .panic => match vs with
    | [.iface t y] => KP (.iface t y) H
    | _ => False
  | k => stepK C k vs H K

/-- Operations in the order of a tree. -/
def AWT (C : CSpec) (GT : Nat → Option AV) (is : List AI) : OT → Fr → Heap → (Fr → Heap → Prop) → (AV → Heap → Prop) → Prop
  | .done, fr, H, K, _ => K fr H
  | .step j t, fr, H, K, KP => match is[j]? with
    | none => False
    | some i => match i.g with
      | none => stepKP C i.k (i.xs.map (ev GT fr)) H (fun v H' => AWT C GT is t (put fr i.dst v) H' K KP) KP
      | some (s, want) => match gd want (get fr s) with
        | some b => if b = true then stepKP C i.k (i.xs.map (ev GT fr)) H (fun v H' => AWT C GT is t (put fr i.dst v) H' K KP) KP
            else AWT C GT is t (put fr i.dst (.tup [])) H K KP
        | none => False
  | .alt a b, fr, H, K, KP => AWT C GT is a fr H K KP ∧ AWT C GT is b fr H K KP

inductive AE where
  | normal
  | exit (id : Nat)
  | ret
  | goto (l : Nat)
  | pan (x : AV)
  deriving Inhabited

abbrev Post := AE → Fr → Heap → Prop

def loopW (F : Post → Fr → Heap → Prop) (L : List Nat) (K : Post) : Nat → Fr → Heap → Prop
  | 0, _, _ => False
  | m + 1, fr, H => F (fun e fr' H' => match e with
    | .normal => loopW F L K m (restrict fr' L) H'
    | e => K e fr' H') fr H

def seqK (F : Fr → Heap → Prop) (K : Post) : Post := fun e fr H => match e with
  | .normal => F fr H
  | e => K e fr H
def blockK (id : Nat) (L : List Nat) (K : Post) : Post := fun e fr H => match e with
  | .normal => K .normal (restrict fr L) H
  | .exit j => if j = id then K .normal (restrict fr L) H else K (.exit j) fr H
  | .ret => K .ret fr H
  | .goto l => K (.goto l) fr H
  | .pan x => K (.pan x) fr H
/-- A jump to the label. -/
def jumpK (l : Nat) (G : Fr → Heap → Prop) (K : Post) : Post := fun e fr H => match e with
  | .normal => K .normal fr H
  | .exit j => K (.exit j) fr H
  | .ret => K .ret fr H
  | .goto l' => l' = l ∧ G fr H
  | .pan x => K (.pan x) fr H
/-- From the label on, again and again. -/
def gotoW (F : Post → Fr → Heap → Prop) (L : List Nat) (l : Nat) (K : Post) : Nat → Fr → Heap → Prop
  | 0, _, _ => False
  | m + 1, fr, H => F (jumpK l (fun fr' H' => gotoW F L l K m (restrict fr' L) H') K) fr H

/-- What a test has told. -/
def learn (fr : Fr) (c : Opd) (b : Bool) : Fr :=
  match c with
  | .tmp t => (t, .bool b) :: fr
  | _ => fr

def AW (C : CSpec) (GT : Nat → Option AV) : AC → Post → Fr → Heap → Prop
  | .skip, K, fr, H => K .normal fr H
  | .reg L _ ops, K, fr, H => AWops C GT ops (restrict fr L) H fun fr' H' => K .normal fr' H'
  | .seq a b, K, fr, H => AW C GT a (seqK (AW C GT b K) K) fr H
  | .cond c a b, K, fr, H => match ev GT fr c with
    | .bool t => if t = true then AW C GT a K (learn fr c true) H else AW C GT b K (learn fr c false) H
    | _ => False
  | .block id L c, K, fr, H => AW C GT c (blockK id L K) fr H
  | .loop L c, K, fr, H => ∃ m, loopW (AW C GT c) L K m (restrict fr L) H
  | .exit id, K, fr, H => K (.exit id) fr H
  | .ret, K, fr, H => K .ret fr H
  | .stuck, _, _, _ => False
  | .regt L _ ops t, K, fr, H => AWT C GT ops t (restrict fr L) H (fun fr' H' => K .normal fr' H') (fun x H' => K (.pan x) [] H')
  | .label, K, fr, H => K .normal fr H
  | .goto l, K, fr, H => K (.goto l) fr H
  | .scope L l c r, K, fr, H => AW C GT c (jumpK l (fun fr' H' => ∃ m, gotoW (AW C GT r) L l K m (restrict fr' L) H') K) fr H

/-! ### Functions -/

inductive ARes where
  | tmp (t : Nat)
  | cell (a s : Nat) (ag : Bool)
  deriving Inhabited

structure AF where
  keep : Bool := false
  results : List ARes
  body : AC
  deriving Inhabited

def resOf (fr : Fr) (H : Heap) : ARes → Option AV
  | .tmp t => some (get fr t)
  | .cell a s ag => match ptrCells H (get fr a) with
    | some (cs, o) => part cs o s ag
    | none => none
def resAll (fr : Fr) (H : Heap) : List ARes → Option (List AV)
  | [] => some []
  | r :: rs => match resOf fr H r, resAll fr H rs with
    | some v, some vs => some (v :: vs)
    | _, _ => none

def tupled : List AV → AV
  | [v] => v
  | vs => .tup vs

/-- Nothing that is kept came to name what goes. -/
def blkBel (n : Nat) : ABlk → Bool
  | .box cs => AV.belL n cs
  | _ => true
def OldOK (H H1 : Heap) : Prop := ∀ b, b < H.length → H1[b]? = H[b]? ∨ ∃ x, H1[b]? = some x ∧ blkBel H.length x = true

def retF (F : AF) (H : Heap) (fr : Fr) (H1 : Heap) (v : AV) (H' : Heap) : Prop :=
  match resAll fr H1 F.results with
  | none => False
  | some vs =>
    if F.keep then v = tupled vs ∧ H' = H1
    else match frzV H.length (tupled vs) H1 with
      | some (v', H2) => v'.bel H.length = true ∧ OldOK H H2 ∧ v = v' ∧ H' = H2.take H.length
      | none => False

def argFr : Nat → List AV → Fr
  | _, [] => []
  | i, v :: vs => (i, v) :: argFr (i + 1) vs

def AFun (C : CSpec) (GT : Nat → Option AV) (F : AF) (args : List AV) (H : Heap) (v : AV) (H' : Heap) : Prop :=
  AW C GT F.body (fun e fr H1 => match e with
    | .normal => retF F H fr H1 v H'
    | .ret => retF F H fr H1 v H'
    | _ => False) (argFr 0 args) H

/-- What a caller sees of a panic. -/
def panF (F : AF) (H : Heap) (x0 : AV) (H1 : Heap) (x : AV) (H' : Heap) : Prop :=
  if F.keep then x = x0 ∧ H' = H1
  else match frzV H.length x0 H1 with
    | some (x', H2) => x'.bel H.length = true ∧ OldOK H H2 ∧ x = x' ∧ H' = H2.take H.length
    | none => False

/-- The call ends in a panic. -/
def AFunP (C : CSpec) (GT : Nat → Option AV) (F : AF) (args : List AV) (H : Heap) (x : AV) (H' : Heap) : Prop :=
  AW C GT F.body (fun e _ H1 => match e with
    | .pan x0 => panF F H x0 H1 x H'
    | _ => False) (argFr 0 args) H

end Go.AM

/- The abstract machine, part 3: what becomes of the abstract heap where the world is written. Own work. -/
set_option linter.all false
namespace Go.AM

variable {GT : Nat → Option AV} {w w' : World} {M : AMap} {I : Nat → Prop} {H : Heap}

theorem Cells.lt {g : Nat} {cur : Array Value} (h : Cells w g cur) : g < w.heap.size := by
  obtain ⟨e, fz, h1, _⟩ := h
  exact (Array.getElem?_eq_some_iff.1 h1).1

theorem Sim.live_lt (hS : Sim GT w M I H) {k : Nat} (h : LiveAt H M k) : k < w.heap.size := by
  obtain ⟨b, x, o, hb, hm, hM⟩ := h
  have hB := hS.blk b x hb
  cases x with
  | dead => simp [ABlk.mut] at hm
  | frz => simp [ABlk.mut] at hm
  | box cs =>
    obtain ⟨g, o', cur, h1, h2, _⟩ := hB
    rw [hM] at h1; simp at h1; obtain ⟨rfl, _⟩ := h1; exact h2.lt
  | row k' xs =>
    obtain ⟨_, ⟨h1, _⟩ | ⟨g, o', cur, h1, h2, _⟩⟩ := hB
    · rw [hM] at h1; cases h1
    · rw [hM] at h1; simp at h1; obtain ⟨rfl, _⟩ := h1; exact h2.lt

theorem Sim.glob' {n : Nat} {M' : AMap} (hS : Sim GT w M I H) (_ : ∀ c, c < n → M' c = M c) : ∀ g x, GT g = some x → Rel w M' I 0 (.lref x 0) (.pointer (some ⟨g, 0, none⟩)) :=
  fun g x hg => (hS.glob g x hg).free (by simp [AV.noRef, AV.bel])

/-- The map with one block more. -/
def more (M : AMap) (n : Nat) (p : Option (Nat × Nat)) : AMap := fun b => if b = n then p else M b

theorem more_old {M : AMap} {n : Nat} {p : Option (Nat × Nat)} {b : Nat} (h : b < n) : more M n p b = M b := by simp [more, Nat.ne_of_lt h]
theorem more_new {M : AMap} {n : Nat} {p : Option (Nat × Nat)} : more M n p n = p := by simp [more]

/-- The world turns only in draws. -/
theorem Grow.same (hh : w'.heap = w.heap) (ho : w'.os = w.os) (ht : w'.tape = w.tape) (hq : w'.output = w.output) : Grow w M I H w' M I H :=
  ⟨ho, ht, hq, by rw [hh]; exact Nat.le_refl _, fun _ _ => rfl, fun _ h => h, fun _ h _ => .inl h, fun _ _ _ => by rw [hh], fun _ _ h => h, fun g s h => by rw [shape?_of_heap (w := w) (by rw [hh])]; exact h, Nat.le_refl _⟩

theorem Sim.same (hS : Sim GT w M I H) (hh : w'.heap = w.heap) : Sim GT w' M I H := by
  have hb : ∀ k : Nat, w'.heap[k]? = w.heap[k]? := fun k => by rw [hh]
  refine ⟨fun g x hg => (hS.glob g x hg).mono (fun _ h => h) (fun k _ => hb k) (fun _ _ => rfl) (Nat.le_refl _) (fun g s h => by rw [shape?_of_heap (hb g)]; exact h), fun k hk => by rw [hh]; exact hS.idom k hk, fun b x hx => ?_, hS.inj⟩
  exact (hS.blk b x hx).mono (List.getElem?_eq_some_iff.1 hx).1 (fun _ h => h) (fun k _ => hb k) (fun _ _ => rfl) (Nat.le_refl _) (fun g s h => by rw [shape?_of_heap (hb g)]; exact h) (fun g _ _ _ => hb g) (fun _ _ _ _ h => h)

/-- One abstract block more, which lies nowhere (a nil slice that is appended to). -/
theorem Sim.pushNone (hS : Sim GT w M I H) {blk : ABlk} (hblk : blk.mut = true → BlkOK w (more M H.length none) I (H.length + 1) H.length blk) (hm : blk = .dead ∨ blk.mut = true) :
    Grow w M I H w (more M H.length none) I (H ++ [blk]) ∧ Sim GT w (more M H.length none) I (H ++ [blk]) := by
  have hold : ∀ b, b < H.length → more M H.length none b = M b := fun b hb => more_old hb
  refine ⟨⟨rfl, rfl, rfl, Nat.le_refl _, hold, fun _ h => h, fun _ h _ => .inl h, fun _ _ _ => rfl, fun k hk hl => ?_, fun _ _ h => h, by simp⟩, ⟨?_, hS.idom, fun b x hx => ?_, fun b b' x x' g o o' h1 h2 h3 h4 h5 h6 => ?_⟩⟩
  · obtain ⟨b, x, o, h1, h2, h3⟩ := hl
    by_cases hb : b < H.length
    · exact ⟨b, x, o, by rwa [List.getElem?_append_left hb] at h1, h2, by rwa [hold b hb] at h3⟩
    · have hlt := (List.getElem?_eq_some_iff.1 h1).1
      simp at hlt
      obtain rfl : b = H.length := by omega
      rw [more_new] at h3; cases h3
  · exact fun g x hg => (hS.glob g x hg).free (by simp [AV.noRef, AV.bel])
  · by_cases hb : b < H.length
    · rw [List.getElem?_append_left hb] at hx
      exact (hS.blk b x hx).mono hb (fun _ h => h) (fun _ _ => rfl) hold (by simp) (fun _ _ h => h) (fun _ _ _ _ => rfl) (fun _ _ _ _ h => h)
    · have hlt := (List.getElem?_eq_some_iff.1 hx).1
      simp at hlt
      obtain rfl : b = H.length := by omega
      simp at hx
      subst hx
      rcases hm with rfl | hm
      · trivial
      · simpa using hblk hm
  · by_cases hb : b < H.length
    · by_cases hb' : b' < H.length
      · rw [List.getElem?_append_left hb] at h1
        rw [List.getElem?_append_left hb'] at h3
        exact hS.inj b b' x x' g o o' h1 h2 h3 h4 (by rwa [hold b hb] at h5) (by rwa [hold b' hb'] at h6)
      · have hlt := (List.getElem?_eq_some_iff.1 h3).1
        simp at hlt
        obtain rfl : b' = H.length := by omega
        rw [more_new] at h6; cases h6
    · have hlt := (List.getElem?_eq_some_iff.1 h1).1
      simp at hlt
      obtain rfl : b = H.length := by omega
      rw [more_new] at h5; cases h5

/-- One block more, in the world and in the abstract heap. -/
theorem Sim.push (hS : Sim GT w M I H) {obj : Obj} (hh : w'.heap = w.heap.push obj) (ho : w'.os = w.os) (ht : w'.tape = w.tape) (hq : w'.output = w.output) {blk : ABlk}
    (hblk : BlkOK w' (more M H.length (some (w.heap.size, 0))) I (H.length + 1) H.length blk) :
    Grow w M I H w' (more M H.length (some (w.heap.size, 0))) I (H ++ [blk]) ∧ Sim GT w' (more M H.length (some (w.heap.size, 0))) I (H ++ [blk]) := by
  have hold : ∀ b, b < H.length → more M H.length (some (w.heap.size, 0)) b = M b := fun b hb => more_old hb
  have hb : ∀ k, k < w.heap.size → w'.heap[k]? = w.heap[k]? := fun k hk => by rw [hh, Array.getElem?_push, if_neg (by omega)]
  have hsh : ∀ g s, w.shape? g = some s → w'.shape? g = some s := fun g s h => by
    have hlt : g < w.heap.size := by
      unfold World.shape? at h
      split at h
      · exact (Array.getElem?_eq_some_iff.1 ‹_›).1
      · cases h
    rw [shape?_of_heap (hb g hlt)]; exact h
  refine ⟨⟨ho, ht, hq, by rw [hh]; simp, hold, fun _ h => h, fun _ h _ => .inl h, fun k hk _ => hb k hk, fun k hk hl => ?_, hsh, by simp⟩, ⟨?_, fun k hk => ?_, fun b x hx => ?_, fun b b' x x' g o o' h1 h2 h3 h4 h5 h6 => ?_⟩⟩
  · obtain ⟨b, x, o, h1, h2, h3⟩ := hl
    by_cases hbl : b < H.length
    · exact ⟨b, x, o, by rwa [List.getElem?_append_left hbl] at h1, h2, by rwa [hold b hbl] at h3⟩
    · have hlt := (List.getElem?_eq_some_iff.1 h1).1
      simp at hlt
      obtain rfl : b = H.length := by omega
      rw [more_new] at h3
      simp at h3
      omega
  · exact fun g x hg => ((hS.glob g x hg).free (by simp [AV.noRef, AV.bel])).mono (M := M) (n := 0) (fun _ h => h) (fun k hk => hb k (hS.idom k hk)) (fun _ h => absurd h (Nat.not_lt_zero _)) (Nat.zero_le _) hsh
  · have := hS.idom k hk; rw [hh]; simp; omega
  · by_cases hbl : b < H.length
    · rw [List.getElem?_append_left hbl] at hx
      refine (hS.blk b x hx).mono hbl (fun _ h => h) (fun k hk => hb k (hS.idom k hk)) hold (by simp) hsh (fun g o hM hm => hb g (hS.live_lt ⟨b, x, o, hx, hm, hM⟩)) (fun _ _ _ _ h => h)
    · have hlt := (List.getElem?_eq_some_iff.1 hx).1
      simp at hlt
      obtain rfl : b = H.length := by omega
      simp at hx
      subst hx
      simpa using hblk
  · by_cases hbl : b < H.length
    · rw [List.getElem?_append_left hbl] at h1
      rw [hold b hbl] at h5
      by_cases hbl' : b' < H.length
      · rw [List.getElem?_append_left hbl'] at h3
        exact hS.inj b b' x x' g o o' h1 h2 h3 h4 h5 (by rwa [hold b' hbl'] at h6)
      · have hlt := (List.getElem?_eq_some_iff.1 h3).1
        simp at hlt
        obtain rfl : b' = H.length := by omega
        rw [more_new] at h6
        simp at h6
        have := hS.live_lt ⟨b, x, o, h1, h2, h5⟩
        omega
    · have hlt := (List.getElem?_eq_some_iff.1 h1).1
      simp at hlt
      obtain rfl : b = H.length := by omega
      rw [more_new] at h5
      simp at h5
      by_cases hbl' : b' < H.length
      · rw [List.getElem?_append_left hbl'] at h3
        rw [hold b' hbl'] at h6
        have := hS.live_lt ⟨b', x', o', h3, h4, h6⟩
        omega
      · have hlt' := (List.getElem?_eq_some_iff.1 h3).1
        simp at hlt'
        omega

/-- A block that may be written is written: 'cur' becomes 'cur'', of the same size. -/
theorem Sim.write (hS : Sim GT w M I H) {b g o : Nat} {x y : ABlk} (hx : H[b]? = some x) (hxm : x.mut = true) (hM : M b = some (g, o)) {cur cur' : Array Value} {e : TypeId} {fz : Nat × Nat}
    (hg : w.heap[g]? = some (.cells cur e fz)) (hsz : cur'.size = cur.size) (hh : w'.heap = w.heap.setIfInBounds g (.cells cur' e fz)) (ho : w'.os = w.os) (ht : w'.tape = w.tape) (hq : w'.output = w.output)
    (hy : BlkOK w' M I H.length b y) : Grow w M I H w' M I (H.set b y) ∧ Sim GT w' M I (H.set b y) := by
  have hlive : LiveAt H M g := ⟨b, x, o, hx, hxm, hM⟩
  have hnI : ¬ I g := fun h => hS.notLive h hlive
  have hlt := hS.live_lt hlive
  have hb : ∀ k, k ≠ g → w'.heap[k]? = w.heap[k]? := fun k hk => by rw [hh, Array.getElem?_setIfInBounds_ne (Ne.symm hk)]
  have hgg : w'.heap[g]? = some (.cells cur' e fz) := by rw [hh, Array.getElem?_setIfInBounds, if_pos rfl, if_pos hlt]
  have hsh : ∀ k s, w.shape? k = some s → w'.shape? k = some s := fun k s h => by
    by_cases hk : k = g
    · subst hk
      simp [World.shape?, hg] at h
      simp [World.shape?, hgg, hsz, h]
    · rw [shape?_of_heap (hb k hk)]; exact h
  have hIb : ∀ k, I k → w'.heap[k]? = w.heap[k]? := fun k hk => hb k (fun e => hnI (e ▸ hk))
  have hbl : b < H.length := (List.getElem?_eq_some_iff.1 hx).1
  have hset : ∀ c z, (H.set b y)[c]? = some z → (c = b ∧ z = y) ∨ (c ≠ b ∧ H[c]? = some z) := fun c z hz => by
    by_cases hc : c = b
    · subst hc; rw [List.getElem?_set_self hbl] at hz; exact .inl ⟨rfl, (Option.some.inj hz).symm⟩
    · rw [List.getElem?_set_ne (Ne.symm hc)] at hz; exact .inr ⟨hc, hz⟩
  refine ⟨⟨ho, ht, hq, by rw [hh]; simp, fun _ _ => rfl, fun _ h => h, fun _ h _ => .inl h, fun k hk hn => hb k (fun e => hn (e ▸ hlive)), fun k hk hl => ?_, hsh, by simp⟩, ⟨?_, fun k hk => ?_, fun c z hz => ?_, fun c c' z z' g' p p' h1 h2 h3 h4 h5 h6 => ?_⟩⟩
  · obtain ⟨c, z, p, h1, h2, h3⟩ := hl
    rcases hset c z h1 with ⟨rfl, rfl⟩ | ⟨hc, h1⟩
    · exact ⟨c, x, p, hx, hxm, h3⟩
    · exact ⟨c, z, p, h1, h2, h3⟩
  · exact fun g' x' hg' => (hS.glob g' x' hg').mono (fun _ h => h) hIb (fun _ _ => rfl) (Nat.le_refl _) hsh
  · have := hS.idom k hk; rw [hh]; simpa using this
  · rcases hset c z hz with ⟨rfl, rfl⟩ | ⟨hc, h1⟩
    · simpa using hy
    · rw [List.length_set]
      refine (hS.blk c z h1).mono (List.getElem?_eq_some_iff.1 h1).1 (fun _ h => h) hIb (fun _ _ => rfl) (Nat.le_refl _) hsh (fun g' o' hM' hm' => hb g' (fun e => ?_)) (fun _ _ _ _ h => h)
      subst e
      exact hc (hS.inj c b z x g' o' o h1 hm' hx hxm hM' hM)
  · have key : ∀ c z p, (H.set b y)[c]? = some z → z.mut = true → M c = some (g', p) → ∃ z0, H[c]? = some z0 ∧ z0.mut = true := fun c z p h1 h2 h3 => by
      rcases hset c z h1 with ⟨rfl, rfl⟩ | ⟨_, h1⟩
      · exact ⟨x, hx, hxm⟩
      · exact ⟨z, h1, h2⟩
    obtain ⟨z0, a1, a2⟩ := key c z p h1 h2 h5
    obtain ⟨z0', a1', a2'⟩ := key c' z' p' h3 h4 h6
    exact hS.inj c c' z0 z0' g' p p' a1 a2 a1' a2' h5 h6

/-- A block is given up; what lies there is as it was. -/
theorem Sim.kill (hS : Sim GT w M I H) (b : Nat) : Grow w M I H w M I (H.set b .dead) ∧ Sim GT w M I (H.set b .dead) := by
  have hset : ∀ (c : Nat) (z : ABlk), (H.set b .dead)[c]? = some z → z = ABlk.dead ∨ H[c]? = some z := fun c z hz => by
    by_cases hc : b = c
    · subst hc
      have hbl : b < H.length := by have := (List.getElem?_eq_some_iff.1 hz).1; simpa using this
      rw [List.getElem?_set_self hbl] at hz; exact .inl (Option.some.inj hz).symm
    · rw [List.getElem?_set_ne hc] at hz; exact .inr hz
  refine ⟨⟨rfl, rfl, rfl, Nat.le_refl _, fun _ _ => rfl, fun _ h => h, fun _ h _ => .inl h, fun _ _ _ => rfl, fun k hk hl => ?_, fun _ _ h => h, by simp⟩, ⟨hS.glob, hS.idom, fun c z hz => ?_, fun c c' z z' g' p p' h1 h2 h3 h4 h5 h6 => ?_⟩⟩
  · obtain ⟨c, z, p, h1, h2, h3⟩ := hl
    rcases hset c z h1 with rfl | h1
    · simp [ABlk.mut] at h2
    · exact ⟨c, z, p, h1, h2, h3⟩
  · rcases hset c z hz with rfl | h1
    · trivial
    · rw [List.length_set]; exact hS.blk c z h1
  · rcases hset c z h1 with rfl | h1
    · simp [ABlk.mut] at h2
    · rcases hset c' z' h3 with rfl | h3
      · simp [ABlk.mut] at h4
      · exact hS.inj c c' z z' g' p p' h1 h2 h3 h4 h5 h6

/-- Only the first blocks are kept: none of what is kept names a block that goes. -/
theorem Sim.take (hS : Sim GT w M I H) (n : Nat) (hn : n ≤ H.length) (hbel : ∀ b cs, b < n → H[b]? = some (.box cs) → ∀ c ∈ cs, c.bel n = true) : Sim GT w M I (H.take n) := by
  have hget : ∀ c z, (H.take n)[c]? = some z → c < n ∧ H[c]? = some z := fun c z hz => by
    rw [List.getElem?_take] at hz
    split at hz
    · exact ⟨‹_›, hz⟩
    · cases hz
  refine ⟨hS.glob, hS.idom, fun c z hz => ?_, fun c c' z z' g' p p' h1 h2 h3 h4 h5 h6 => hS.inj c c' z z' g' p p' (hget c z h1).2 h2 (hget c' z' h3).2 h4 h5 h6⟩
  obtain ⟨hc, hz⟩ := hget c z hz
  have hB := hS.blk c z hz
  have hlen : (H.take n).length = n := by simp; omega
  rw [hlen]
  have F : ∀ {k : Nat} {xs : List AV} {i j : Nat} {x c : AV} {v : Value}, Elems k xs → xs[i]? = some x → x.cells[j]? = some c → Rel w M I H.length c v → Rel w M I n c v :=
    fun he hx hj h => h.free (AV.noRef_cells (AV.elem_iff.1 (he _ (List.mem_of_getElem? hx))).2.1 hj)
  cases z with
  | dead => trivial
  | box cs =>
    obtain ⟨g, o, cur, h1, h2, h3, h4, h5⟩ := hB
    exact ⟨g, o, cur, h1, h2, h3, h4, fun j c' hj => let ⟨v, a, b⟩ := h5 j c' hj; ⟨v, a, b.cut (fun _ _ => rfl) (hbel c cs hc hz c' (List.mem_of_getElem? hj))⟩⟩
  | row k xs =>
    obtain ⟨he, h | ⟨g, o, cur, h1, h2, h3, h4, h5⟩⟩ := hB
    · exact ⟨he, .inl h⟩
    · exact ⟨he, .inr ⟨g, o, cur, h1, h2, h3, h4, fun i j x c' hx hj => let ⟨v, a, b⟩ := h5 i j x c' hx hj; ⟨v, a, F he hx hj b⟩⟩⟩
  | frz k xs =>
    obtain ⟨he, h | ⟨g, o, h1, h3, h5⟩⟩ := hB
    · exact ⟨he, .inl h⟩
    · exact ⟨he, .inr ⟨g, o, h1, h3, fun i j x c' hx hj => let ⟨v, a, b⟩ := h5 i j x c' hx hj; ⟨v, a, F he hx hj b⟩⟩⟩

theorem Grow.take {H' : Heap} {M' : AMap} {I' : Nat → Prop} (h : Grow w M I H w' M' I' H') : Grow w M I H w' M' I' (H'.take H.length) :=
  { h with
    live := fun k hk hl => h.live k hk (by
      obtain ⟨b, x, o, h1, h2, h3⟩ := hl
      rw [List.getElem?_take] at h1
      split at h1
      · exact ⟨b, x, o, h1, h2, h3⟩
      · cases h1)
    len := by have := h.len; simp; omega }

theorem Cells.cell? {g : Nat} {cur : Array Value} (h : Cells w g cur) (j : Nat) : w.cell? ⟨g, j, none⟩ = cur[j]? := by
  obtain ⟨e, fz, h1, _⟩ := h
  simp [World.cell?, h1]

/-- A row is shut: from now on nobody writes it. -/
theorem Sim.shut (hS : Sim GT w M I H) {b k : Nat} {xs : List AV} (hx : H[b]? = some (.row k xs)) :
    ∃ I', Grow w M I H w M I' (H.set b (.frz k xs)) ∧ Sim GT w M I' (H.set b (.frz k xs)) ∧ ∀ g o, M b = some (g, o) → I' g := by
  have hbl : b < H.length := (List.getElem?_eq_some_iff.1 hx).1
  have hset : ∀ c z, (H.set b (.frz k xs))[c]? = some z → (c = b ∧ z = .frz k xs) ∨ (c ≠ b ∧ H[c]? = some z) := fun c z hz => by
    by_cases hc : c = b
    · subst hc; rw [List.getElem?_set_self hbl] at hz; exact .inl ⟨rfl, (Option.some.inj hz).symm⟩
    · rw [List.getElem?_set_ne (Ne.symm hc)] at hz; exact .inr ⟨hc, hz⟩
  have hB := hS.blk b _ hx
  have hII : ∀ k', I k' → I k' ∨ ∃ o, M b = some (k', o) := fun _ h => .inl h
  refine ⟨fun k' => I k' ∨ ∃ o, M b = some (k', o), ⟨rfl, rfl, rfl, Nat.le_refl _, fun _ _ => rfl, hII, fun k' h hlt => ?_, fun _ _ _ => rfl, fun k' hk hl => ?_, fun _ _ h => h, by simp⟩, ⟨?_, ?_, fun c z hz => ?_, fun c c' z z' g' p p' h1 h2 h3 h4 h5 h6 => ?_⟩, fun g o h => .inr ⟨o, h⟩⟩
  · rcases h with h | ⟨o, h⟩
    · exact .inl h
    · exact .inr ⟨b, _, o, hx, rfl, h⟩
  · obtain ⟨c, z, p, h1, h2, h3⟩ := hl
    rcases hset c z h1 with ⟨rfl, rfl⟩ | ⟨_, h1⟩
    · simp [ABlk.mut] at h2
    · exact ⟨c, z, p, h1, h2, h3⟩
  · exact fun g x hg => (hS.glob g x hg).mono hII (fun _ _ => rfl) (fun _ _ => rfl) (Nat.le_refl _) (fun _ _ h => h)
  · rintro k' (h | ⟨o, h⟩)
    · exact hS.idom k' h
    · exact hS.live_lt ⟨b, _, o, hx, rfl, h⟩
  · rw [List.length_set]
    rcases hset c z hz with ⟨rfl, rfl⟩ | ⟨hc, h1⟩
    · obtain ⟨he, h | ⟨g, o, cur, h1, h2, h3, h4, h5⟩⟩ := hB
      · exact ⟨he, .inl h⟩
      · exact ⟨he, .inr ⟨g, o, h1, .inr ⟨o, h1⟩, fun i j x c' hx' hj => let ⟨v, a, b⟩ := h5 i j x c' hx' hj; ⟨v, by rw [h2.cell?]; exact a, b.mono hII (fun _ _ => rfl) (fun _ _ => rfl) (Nat.le_refl _) (fun _ _ h => h)⟩⟩⟩
    · refine (hS.blk c z h1).mono (List.getElem?_eq_some_iff.1 h1).1 hII (fun _ _ => rfl) (fun _ _ => rfl) (Nat.le_refl _) (fun _ _ h => h) (fun _ _ _ _ => rfl) (fun g' o' hM' hm' hn => ?_)
      rintro (h | ⟨o, h⟩)
      · exact hn h
      · exact hc (hS.inj c b z _ g' o' o h1 hm' hx rfl hM' h)
  · rcases hset c z h1 with ⟨rfl, rfl⟩ | ⟨_, h1⟩
    · simp [ABlk.mut] at h2
    · rcases hset c' z' h3 with ⟨rfl, rfl⟩ | ⟨_, h3⟩
      · simp [ABlk.mut] at h4
      · exact hS.inj c c' z z' g' p p' h1 h2 h3 h4 h5 h6

/-! ### Shutting a value -/

theorem elems_cut {k : Nat} {xs : List AV} (h : Elems k xs) (o l : Nat) : Elems k ((xs.drop o).take l) := fun x hx => h x (List.mem_of_mem_drop (List.mem_of_mem_take hx))

/-- A slice over a shut row stands for the list of its elements. -/
theorem rel_of_frz (hS : Sim GT w M I H) {q : Option Bool} {b k off len : Nat} {xs : List AV} {v : Value} (hx : H[b]? = some (.frz k xs)) (hle : off + len ≤ xs.length) (h : Rel w M I H.length (.sl q b k off len) v) :
    Rel w M I H.length (.lst (frzQ q ((xs.drop off).take len)) k ((xs.drop off).take len)) v := by
  obtain ⟨he, hB⟩ := hS.blk b _ hx
  have hlen : ((xs.drop off).take len).length = len := by simp; omega
  cases h with
  | sln q b k off hb hM hq =>
    simp only [List.take_zero]
    refine .lnil _ _ ?_
    unfold frzQ
    split
    · exact absurd rfl hq
    · simp
    · simp
  | sl q b k off len g o p cap hb hM hc hm hq ha =>
    rcases hB with ⟨h1, rfl⟩ | ⟨g', o', h1, hI, h5⟩
    · rw [hM] at h1; cases h1
    · rw [hM] at h1
      simp only [Option.some.injEq, Prod.mk.injEq] at h1
      obtain ⟨rfl, rfl⟩ := h1
      have hqq : frzQ q ((xs.drop off).take len) ≠ some true := by
        unfold frzQ
        split
        · simp
        · have := hq rfl
          simp only [ne_eq, Option.some.injEq, List.isEmpty_iff]
          intro e; rw [e] at hlen; simp at hlen; omega
        · simp
      have := Rel.mk_lst (w := w) (M := M) (n := H.length) (q := frzQ q ((xs.drop off).take len)) (xs := (xs.drop off).take len) (g := g) (o := p) (cap := cap) (k := k) (I := I) hqq (by omega) hm hI (elems_cut he off len) (fun i j x c hi hj => by
        have hi' : i < len := by have := (List.getElem?_eq_some_iff.1 hi).1; omega
        rw [List.getElem?_take, if_pos hi', List.getElem?_drop] at hi
        obtain ⟨hp, _⟩ := ha (by omega)
        obtain ⟨v, a, b⟩ := h5 (off + i) j x c hi hj
        refine ⟨v, ?_, b⟩
        rw [hp, show o + off * k + i * k + j = o + (off + i) * k + j by rw [Nat.add_mul]; omega]
        exact a)
      rwa [hlen] at this

theorem frz_sound (n0 : Nat) : ∀ (x : AV) {w : World} {M : AMap} {I : Nat → Prop} {H : Heap} {v : Value} {x' : AV} {H' : Heap}, Sim GT w M I H → Rel w M I H.length x v → frzV n0 x H = some (x', H') →
    ∃ I', Grow w M I H w M I' H' ∧ Sim GT w M I' H' ∧ Rel w M I' H'.length x' v ∧ H'.length = H.length ∧ (∀ (b : Nat) (cs : List AV), H'[b]? = some (ABlk.box cs) → H[b]? = some (ABlk.box cs)) := by
  intro x
  refine AV.rec (motive_1 := fun x => ∀ {w : World} {M : AMap} {I : Nat → Prop} {H : Heap} {v : Value} {x' : AV} {H' : Heap}, Sim GT w M I H → Rel w M I H.length x v → frzV n0 x H = some (x', H') →
      ∃ I', Grow w M I H w M I' H' ∧ Sim GT w M I' H' ∧ Rel w M I' H'.length x' v ∧ H'.length = H.length ∧ (∀ (b : Nat) (cs : List AV), H'[b]? = some (ABlk.box cs) → H[b]? = some (ABlk.box cs)))
    (motive_2 := fun xs => ∀ {w : World} {M : AMap} {I : Nat → Prop} {H : Heap} {vs : List Value} {xs' : List AV} {H' : Heap}, Sim GT w M I H → RelL w M I H.length xs vs → frzL n0 xs H = some (xs', H') →
      ∃ I', Grow w M I H w M I' H' ∧ Sim GT w M I' H' ∧ RelL w M I' H'.length xs' vs ∧ H'.length = H.length ∧ (∀ (b : Nat) (cs : List AV), H'[b]? = some (ABlk.box cs) → H[b]? = some (ABlk.box cs)))
    ?undef ?bool ?int ?str ?agg ?tup ?lst ?lref ?ref ?sl ?nilp ?nilf ?nili ?nilm ?fn ?iface ?raw ?pan ?nil ?cons x
  case sl =>
    intro q b k off len w M I H v x' H' hS hx hf
    simp only [frzV] at hf
    split at hf
    · simp only [Option.some.injEq, Prod.mk.injEq] at hf; obtain ⟨rfl, rfl⟩ := hf
      exact ⟨I, Grow.refl .., hS, hx, rfl, fun _ _ h => h⟩
    · split at hf
      · rename_i k' xs hb
        split at hf
        · rename_i hc
          obtain ⟨rfl, hle⟩ := hc
          simp only [Option.some.injEq, Prod.mk.injEq] at hf; obtain ⟨rfl, rfl⟩ := hf
          obtain ⟨I', hG, hS', _⟩ := hS.shut hb
          have hbl : b < H.length := (List.getElem?_eq_some_iff.1 hb).1
          refine ⟨I', hG, hS', rel_of_frz hS' (List.getElem?_set_self hbl) hle (hG.rel hS hx), by simp, fun c cs h => ?_⟩
          by_cases hc : b = c
          · subst hc; rw [List.getElem?_set_self hbl] at h; cases h
          · rwa [List.getElem?_set_ne hc] at h
        · cases hf
      · rename_i k' xs hb
        split at hf
        · rename_i hc
          obtain ⟨rfl, hle⟩ := hc
          simp only [Option.some.injEq, Prod.mk.injEq] at hf; obtain ⟨rfl, rfl⟩ := hf
          exact ⟨I, Grow.refl .., hS, rel_of_frz hS hb hle hx, rfl, fun _ _ h => h⟩
        · cases hf
      · cases hf
  case agg =>
    intro cs ih w M I H v x' H' hS hx hf
    simp only [frzV] at hf
    split at hf
    · rename_i cs' H1 h1
      simp only [Option.some.injEq, Prod.mk.injEq] at hf; obtain ⟨rfl, rfl⟩ := hf
      cases hx with
      | agg cs vs hl h =>
        obtain ⟨I', a, b, c, d, e⟩ := ih hS ⟨hl, h⟩ h1
        exact ⟨I', a, b, .agg _ _ c.1 c.2, d, e⟩
    · cases hf
  case tup =>
    intro cs ih w M I H v x' H' hS hx hf
    simp only [frzV] at hf
    split at hf
    · rename_i cs' H1 h1
      simp only [Option.some.injEq, Prod.mk.injEq] at hf; obtain ⟨rfl, rfl⟩ := hf
      cases hx with
      | tup cs vs hl h =>
        obtain ⟨I', a, b, c, d, e⟩ := ih hS ⟨hl, h⟩ h1
        exact ⟨I', a, b, .tup _ _ c.1 c.2, d, e⟩
    · cases hf
  case iface =>
    intro t y ih w M I H v x' H' hS hx hf
    simp only [frzV] at hf
    split at hf
    · rename_i y' H1 h1
      simp only [Option.some.injEq, Prod.mk.injEq] at hf; obtain ⟨rfl, rfl⟩ := hf
      cases hx with
      | iface t y u h =>
        obtain ⟨I', a, b, c, d, e⟩ := ih hS h h1
        exact ⟨I', a, b, .iface _ _ _ c, d, e⟩
    · cases hf
  case nil =>
    intro w M I H vs xs' H' hS hx hf
    simp only [frzL, Option.some.injEq, Prod.mk.injEq] at hf; obtain ⟨rfl, rfl⟩ := hf
    exact ⟨I, Grow.refl .., hS, hx, rfl, fun _ _ h => h⟩
  case cons =>
    intro x r ihx ihr w M I H vs xs' H' hS hx hf
    simp only [frzL] at hf
    split at hf
    · rename_i x1 H1 h1
      split at hf
      · rename_i r1 H2 h2
        simp only [Option.some.injEq, Prod.mk.injEq] at hf; obtain ⟨rfl, rfl⟩ := hf
        obtain ⟨hl, hr⟩ := hx
        match vs, hl with
        | v :: us, hl =>
          obtain ⟨I1, a1, b1, c1, d1, e1⟩ := ihx hS (hr 0 x v rfl rfl) h1
          have hr1 : RelL w M I1 H1.length r us := ⟨by simpa using hl, fun i c v hc hv => a1.rel hS (hr (i + 1) c v (by simpa using hc) (by simpa using hv))⟩
          obtain ⟨I2, a2, b2, c2, d2, e2⟩ := ihr b1 hr1 h2
          refine ⟨I2, a1.trans a2, b2, ⟨by simpa using c2.1, fun i c v hc hv => ?_⟩, d2.trans d1, fun b cs h => e1 b cs (e2 b cs h)⟩
          cases i with
          | zero =>
            simp at hc hv; subst hc hv
            exact a2.rel b1 c1
          | succ i => exact c2.2 i c v (by simpa using hc) (by simpa using hv)
      · cases hf
    · cases hf
  all_goals
    intros
    rename_i hS hx hf
    simp only [frzV, Option.some.injEq, Prod.mk.injEq] at hf; obtain ⟨rfl, rfl⟩ := hf
    exact ⟨_, Grow.refl .., hS, hx, rfl, fun _ _ h => h⟩

end Go.AM

/- The abstract machine, part 4: which code goes with which cleaned code ('chk..'), and that each abstract step is what the model does. Own work. -/
set_option linter.all false
namespace Go.AM

/-! ### What is checked -/

def constOK1 : Value → AV → Bool
  | .bool b, .bool b' => b == b'
  | .int k n, .int k' n' => decide (k = k') && n == n'
  | .string s, .str l => s.data.toList == l
  | .nilIface, .nili => true
  | .pointer none, .nilp => true
  | .slice none 0 0, .lst (some true) _ [] => true
  | .nilFunc, .nilf => true
  | .map none, .nilm => true
  | _, .undef => true
  | _, _ => false
def constL : List Value → List AV → Bool
  | [], [] => true
  | v :: vs, c :: cs => constOK1 v c && constL vs cs
  | _, _ => false
def constOK : Value → AV → Bool
  | .agg vs, .agg cs => constL vs.toList cs
  | v, c => constOK1 v c

def chkO : Operand → Opd → Bool
  | .tmp t, .tmp t' => t == t'
  | .const v, .const c => constOK v c
  | .global g, .glob g' => g == g'
  | .func f, .fn f' => f == f'
  | _, _ => false
def chkOs : List Operand → List Opd → Bool
  | [], [] => true
  | x :: xs, y :: ys => chkO x y && chkOs xs ys
  | _, _ => false

def sizeB (P : Program) (t : TypeId) : Option Nat := (P.info? t).map (·.size)
def aggB (P : Program) (t : TypeId) : Option Bool := match P.underlying t with
  | some (.struct _) => some true
  | some (.array _ _) => some true
  | some _ => some false
  | none => none

def shapeFs (P : Program) (S : TypeId → Option (List Sc)) : Nat → List Field → Option (List Sc)
  | _, [] => some []
  | o, f :: r => if f.name ≠ "_" ∧ f.offset = o then
      match S f.type with
      | some s => if sizeB P f.type = some s.length ∧ 0 < s.length then (shapeFs P S (o + s.length) r).map (s ++ ·) else none
      | none => none
    else none
/-- The cells of a type that '==' takes. -/
def shapeOf (P : Program) : Nat → TypeId → Option (List Sc)
  | 0, _ => none
  | d + 1, t => match P.underlying t with
    | some (.int k) => some [.int k]
    | some .bool => some [.bool]
    | some .string => some [.str]
    | some (.struct fs) => if P.stoodInHeld t then none else shapeFs P (shapeOf P d) 0 fs.toList
    | _ => none

def isConst : Operand → Bool
  | .const _ => true
  | _ => false

def ekOK (P : Program) (t : TypeId) : EK → Bool
  | .iface => match P.underlying t with
    | some (.interface _) => true
    | _ => false
  | .ptr => match P.underlying t with
    | some (.pointer _) => true
    | _ => false
  | .sl => match P.underlying t with
    | some (.slice _) => true
    | _ => false
  | .fn => match P.underlying t with
    | some (.func _ _ _) => true
    | _ => false

def isSliceOf (P : Program) (t : TypeId) (k : Nat) : Bool := match P.underlying t with
  | some (.slice e) => sizeB P e == some k
  | _ => false
def isArrOf (P : Program) (t : TypeId) (n k : Nat) : Bool := match P.underlying t with
  | some (.array m e) => m == n && sizeB P e == some k
  | _ => false
def isStr (P : Program) (t : TypeId) : Bool := match P.underlying t with
  | some .string => true
  | _ => false
def isInt (P : Program) (t : TypeId) (k : IntKind) : Bool := match P.underlying t with
  | some (.int k') => decide (k' = k)
  | _ => false
def isU8s (P : Program) (t : TypeId) : Bool := match P.underlying t with
  | some (.slice e) => isInt P e .u8
  | _ => false
def fieldOf (P : Program) (t : TypeId) (f : Nat) : Option (Nat × TypeId) := match P.underlying t with
  | some (.struct fs) => (fs[f]?).map fun f => (f.offset, f.type)
  | _ => none

def placesOf (P : Program) (t : TypeId) : List Nat → Option (List (Nat × Nat))
  | [] => some []
  | i :: r => match P.underlying t with
    | some (.struct fs) => match fs[i]? with
      | some f => match sizeB P f.type, placesOf P t r with
        | some s, some pl => some ((f.offset, s) :: pl)
        | _, _ => none
      | none => none
    | some (.array _ e) => match sizeB P e, placesOf P t r with
      | some s, some pl => some ((i * s, s) :: pl)
      | _, _ => none
    | _ => none
/-- Sizes of all parts of a struct or an array are known. -/
def sizesOK (P : Program) (t : TypeId) : Bool := match P.underlying t with
  | some (.struct fs) => fs.toList.all fun f => (sizeB P f.type).isSome
  | some (.array _ e) => (sizeB P e).isSome
  | _ => false
def zeroOK (P : Program) (t : TypeId) (z : List AV) : Bool := match P.info? t with
  | some i => match i.zero with
    | some v => constL v.cells.toList z
    | none => false
  | none => false

def chkOp0 (P : Program) : Op → AK → List Opd → Bool
  | .move x, .mv, [x'] => chkO x x'
  | .assign x, .mv, [x'] => chkO x x'
  | .pick c a b, .pick, [c', a', b'] => chkO c c' && chkO a a' && chkO b b'
  | .binOp op _ x y _, .bin op', [x', y'] => decide (op = op') && chkO x x' && chkO y y'
  | .binOp op t x y _, .eqs neg sh, [x', y'] => decide (op = if neg then .neq else .eql) && decide (shapeOf P 30 t = some sh) && !(P.eqGuardType P.depth t) && (match P.underlying t with
      | some (.struct _) => true
      | _ => false) && chkO x x' && chkO y y'
  | .binOp op t x y _, .eqb neg, [x', y'] => decide (op = if neg then .neq else .eql) && (match P.underlying t with
      | some .bool => true
      | _ => false) && chkO x x' && chkO y y'
  | .binOp op t x y _, .eqn e neg lit, [x', y'] => decide (op = if neg then .neq else .eql) && ekOK P t e && (!lit || isConst x || isConst y) && chkO x x' && chkO y y'
  | .unOp op _ x, .un op', [x'] => decide (op = op') && chkO x x'
  | .convert s d x, .convInt k, [x'] => (P.underlying s).isSome && isInt P d k && chkO x x'
  | .convert s d x, .convRune, [x'] => (P.underlying s).isSome && isStr P d && chkO x x'
  | .convert s d x, .convId, [x'] => (P.underlying s).isSome && isStr P d && chkO x x'
  | .convert s d x, .bytesToStr, [x'] => isU8s P s && isStr P d && chkO x x'
  | .convert s d x, .strToBytes, [x'] => (P.underlying s).isSome && isU8s P d && chkO x x'
  | .makeInterface t x, .mkIface t', [x'] => t == t' && (match P.underlying t with
      | some (.interface _) => false
      | some _ => true
      | none => false) && chkO x x'
  | .makeFunc (.func f) first caps, .mkFn f' m, xs => f == f' && first.size == m && chkOs (first.toList ++ caps.toList) xs
  | .call { callee := .builtin .len, args, argTypes }, .len s, [x'] => (match args.toList, argTypes[0]? with
      | [x], some t => (if s then isStr P t else (match P.underlying t with
        | some (.slice _) => true
        | _ => false)) && chkO x x'
      | _, _ => false)
  | .slice t x lo hi none, .slc k blo bhi, xs => (match k with
      | none => isStr P t
      | some k => isSliceOf P t k) && lo.isSome == blo && hi.isSome == bhi && chkOs (x :: (lo.toList ++ hi.toList)) xs
  | .fieldAddr t x f, .fieldAddr o, [x'] => (match fieldOf P t f with
      | some (o', u) => o' == o && (match sizeB P u with
        | some s => s != 0
        | none => false)
      | none => false) && chkO x x'
  | .field t x f, .field o s ag, [x'] => (match fieldOf P t f with
      | some (o', u) => o' == o && sizeB P u == some s && aggB P u == some ag
      | none => false) && chkO x x'
  | .indexAddr t x i, .idxAddr k, [x', i'] => isSliceOf P t k && chkO x x' && chkO i i'
  | .indexAddr t x i, .idxArr k n, [x', i'] => isArrOf P t n k && chkO x x' && chkO i i'
  | .index t x i, .idxStr, [x', i'] => isStr P t && chkO x x' && chkO i i'
  | .index t x i, .idxAgg k n ag, [x', i'] => isArrOf P t n k && (match P.underlying t with
      | some (.array _ e) => aggB P e == some ag
      | _ => false) && chkO x x' && chkO i i'
  | .nilCheck x, .nilchk, [x'] => chkO x x'
  | .extract x i, .extract i', [x'] => i == i' && chkO x x'
  | .load t x, .load s ag, [x'] => sizeB P t == some s && aggB P t == some ag && chkO x x'
  | .store t p x, .store s, [p', x'] => sizeB P t == some s && chkO p p' && chkO x x'
  | .alloc t, .alloc z, [] => zeroOK P t z
  | .box _ x, .box, [x'] => chkO x x'
  | .build t parts, .build z pl, xs => zeroOK P t z && sizesOK P t && decide (placesOf P t (parts.toList.map (·.1)) = some pl) && chkOs (parts.toList.map (·.2)) xs
  | .buildSlice t len parts, .bslice k, xs => isSliceOf P t k && (match P.underlying t with
      | some (.slice e) => (match P.info? e with
        | some i => i.zero.isSome
        | none => false)
      | _ => false) && decide (len * k ≤ 16777216) && decide (len ≤ 16777216) && decide (parts.toList.map (·.1) = List.range len) && chkOs (parts.toList.map (·.2)) xs
  | .makeSlice t l c, .make k bytes z, [l', c'] => (match P.underlying t with
      | some (.slice e) => (match P.info? e with
        | some i => i.size == k && i.bytes == bytes && (match i.zero with
          | some v => constOK v z && v.cells.size == k
          | none => false)
        | none => false)
      | _ => false) && chkO l l' && chkO c c' && decide (0 < k)
  | .call { callee := .builtin .append, args, argTypes }, .append k bytes, [x', y'] => (match args.toList, argTypes.toList with
      | [x, y], [t, t'] => t == t' && (match P.underlying t with
        | some (.slice e) => (match P.info? e with
          | some i => i.size == k && i.bytes == bytes && (match i.zero with
            | some v => v.cells.size == k
            | none => false)
          | none => false)
        | _ => false) && chkO x x' && chkO y y'
      | _, _ => false) && decide (0 < k)
  | .call { callee := .builtin .append, args, argTypes }, .appendS, [x', y'] => (match args.toList, argTypes.toList with
      | [x, y], [t, t'] => isStr P t' && (match P.underlying t with
        | some (.slice e) => (match P.info? e with
          | some i => i.size == 1 && i.bytes == 1 && (match i.zero with
            | some v => v.cells.size == 1
            | none => false)
          | none => false)
        | _ => false) && chkO x x' && chkO y y'
      | _, _ => false)
  | .call { callee := .builtin .min, args, .. }, .min, [x', y'] => (match args.toList with
      | [x, y] => chkO x x' && chkO y y'
      | _ => false)
  | .call { callee := .builtin .max, args, .. }, .max, [x', y'] => (match args.toList with
      | [x, y] => chkO x x' && chkO y y'
      | _ => false)
  | .call { callee := .value (.func f), args, .. }, .call f' _, xs => f == f' && chkOs args.toList xs
  | .call { callee := .value x, args, .. }, .callv _, xs => chkOs (x :: args.toList) xs
  | _, _, _ => false
/-- '.stuck': never reached. -/
def chkOp (P : Program) (op : Op) (k : AK) (xs : List Opd) : Bool := match k with
  | .stuck => true
  | .callp f => chkOp0 P op (.call f false) xs
  | .callvp => chkOp0 P op (.callv false) xs
  | .panic => (match op, xs with
    | .panic x, [x'] => chkO x x'
    | _, _ => false)
  | k => chkOp0 P op k xs

/-! ### Operands -/

section
variable {P : Program} {GT : Nat → Option AV} {w : World} {M : AMap} {I : Nat → Prop} {H : Heap} {n : Nat}

theorem const1_rel {v : Value} {c : AV} (h : constOK1 v c = true) : Rel w M I n c v := by
  unfold constOK1 at h
  split at h
  · simp at h; subst h; exact .bool _
  · simp at h; obtain ⟨rfl, rfl⟩ := h; exact .int _ _
  · rename_i s l
    simp at h; subst h
    obtain ⟨⟨l⟩⟩ := s
    exact .str l
  · exact .nili
  · exact .nilp
  · exact .lnil _ _ (by simp)
  · exact .nilf
  · exact .nilm
  · exact .undef _
  · cases h

theorem constL_rel : ∀ {vs : List Value} {cs : List AV}, constL vs cs = true → RelL w M I n cs vs
  | [], [], _ => ⟨rfl, by simp⟩
  | v :: vs, c :: cs, h => by
    simp only [constL, Bool.and_eq_true] at h
    have := constL_rel h.2
    refine ⟨by simpa using this.1, fun i c' v' hc hv => ?_⟩
    cases i with
    | zero => simp at hc hv; subst hc hv; exact const1_rel h.1
    | succ i => exact this.2 i c' v' (by simpa using hc) (by simpa using hv)
  | [], _ :: _, h => by simp [constL] at h
  | _ :: _, [], h => by simp [constL] at h

theorem const_rel {v : Value} {c : AV} (h : constOK v c = true) : Rel w M I n c v := by
  unfold constOK at h
  split at h
  · rename_i vs cs
    have := constL_rel (w := w) (M := M) (I := I) (n := n) h
    obtain ⟨vs⟩ := vs
    exact .agg cs vs this.1 this.2
  · exact const1_rel h

/-- A frame stands for the temporaries. -/
def FrOK (w : World) (M : AMap) (I : Nat → Prop) (n : Nat) (tm : Array Value) (fr : Fr) : Prop := ∀ t, Rel w M I n (get fr t) (tm.getD t Go.undef)

theorem ev_rel (hS : Sim GT w M I H) {a : Act} {fr : Fr} (hf : FrOK w M I H.length a.tmps fr) {x : Operand} {x' : Opd} (h : chkO x x' = true) : Rel w M I H.length (ev GT fr x') (a.eval x) := by
  unfold chkO at h
  split at h
  · simp at h; subst h; exact hf _
  · exact const_rel h
  · simp at h; subst h
    simp only [ev, Act.eval]
    split
    · exact (hS.glob _ _ ‹_›).free (by simp [AV.noRef, AV.bel])
    · exact .undef _
  · simp at h; subst h
    exact .fn _ [] [] [] [] rfl rfl (by simp) (by simp)
  · cases h

theorem evs_rel (hS : Sim GT w M I H) {a : Act} {fr : Fr} (hf : FrOK w M I H.length a.tmps fr) : ∀ {xs : List Operand} {xs' : List Opd}, chkOs xs xs' = true → RelL w M I H.length (xs'.map (ev GT fr)) (xs.map a.eval)
  | [], [], _ => ⟨rfl, by simp⟩
  | x :: xs, y :: ys, h => by
    simp only [chkOs, Bool.and_eq_true] at h
    have := evs_rel hS hf h.2
    refine ⟨by simpa using this.1, fun i c v hc hv => ?_⟩
    cases i with
    | zero => simp at hc hv; subst hc hv; exact ev_rel hS hf h.1
    | succ i => exact this.2 i c v (by simpa using hc) (by simpa using hv)
  | [], _ :: _, h => by simp [chkOs] at h
  | _ :: _, [], h => by simp [chkOs] at h

/-! ### Runs -/

/-- The model's step ends as the abstract one says. -/
def RunsTo (P : Program) (GT : Nat → Option AV) (w : World) (M : AMap) (I : Nat → Prop) (H : Heap) (s : Sem Value) (v : AV) (H' : Heap) : Prop :=
  ∃ v' w' M' I', s.run P w = .ok v' w' ∧ Grow w M I H w' M' I' H' ∧ Sim GT w' M' I' H' ∧ Rel w' M' I' H'.length v v'

theorem RunsTo.pure (hS : Sim GT w M I H) {s : Sem Value} {v : AV} {v' : Value} (h : s.run P w = .ok v' w) (hr : Rel w M I H.length v v') : RunsTo P GT w M I H s v H :=
  ⟨v', w, M, I, h, Grow.refl .., hS, hr⟩

theorem isAgg_run {t : TypeId} {b : Bool} (h : aggB P t = some b) : (isAgg t).run P w = .ok b w := by
  unfold aggB at h
  unfold isAgg
  split at h <;> simp_all [run_underlying]

theorem sizeOf_run {t : TypeId} {s : Nat} (h : sizeB P t = some s) : (sizeOf t).run P w = .ok s w := by
  unfold sizeB at h
  obtain ⟨i, hi, rfl⟩ := Option.map_eq_some_iff.1 h
  simp [sizeOf, typeInfo, hi]

theorem get_rel_list {cs : List AV} {vs : List Value} (h : RelL w M I n cs vs) {j : Nat} {c : AV} (hj : cs[j]? = some c) : ∃ v, vs[j]? = some v ∧ Rel w M I n c v := by
  have hlt := (List.getElem?_eq_some_iff.1 hj).1
  have hl := h.1
  exact ⟨vs[j]'(by omega), List.getElem?_eq_getElem _, h.2 j c _ hj (List.getElem?_eq_getElem _)⟩

/-- A part of an aggregate. -/
theorem part_sound {cs : List AV} {vs : List Value} (hr : RelL w M I n cs vs) {t : TypeId} {o s : Nat} {ag : Bool} {v : AV} (hs : sizeB P t = some s) (ha : aggB P t = some ag) (h : part cs o s ag = some v) :
    ∃ v', (Go.part t vs.toArray o).run P w = .ok v' w ∧ Rel w M I n v v' := by
  unfold part at h
  unfold Go.part
  cases ag with
  | true =>
    simp only [if_true] at h
    split at h
    · rename_i hle
      simp only [Option.some.injEq] at h; subst h
      refine ⟨.agg ((vs.drop o).take s).toArray, ?_, .agg _ _ ?_ ?_⟩
      · simp only [Sem.run_bind, isAgg_run ha, Result.andThen_ok, if_true, sizeOf_run hs, Sem.run_pure]
        congr 2
        simp [List.extract_toArray, List.extract_eq_take_drop]
      · have := hr.1; simp; omega
      · intro i c v hc hv
        rw [List.getElem?_take] at hc hv
        split at hc
        · rw [if_pos ‹_›] at hv
          rw [List.getElem?_drop] at hc hv
          exact hr.2 _ c v hc hv
        · cases hc
    · cases h
  | false =>
    simp only [Bool.false_eq_true, if_false] at h
    obtain ⟨u, hu, hru⟩ := get_rel_list hr h
    refine ⟨u, ?_, hru⟩
    simp only [Sem.run_bind, isAgg_run ha, Result.andThen_ok, Bool.false_eq_true, if_false]
    simp [hu]

/-- What a pointer leads to. -/
theorem ptr_sound (hS : Sim GT w M I H) {p : AV} {v : Value} (hp : Rel w M I H.length p v) {cs : List AV} {o : Nat} (h : ptrCells H p = some (cs, o)) :
    ∃ g a, v = .pointer (some ⟨g, a, none⟩) ∧ ∀ j c, cs[o + j]? = some c → ∃ u, w.cell? ⟨g, a + j, none⟩ = some u ∧ Rel w M I H.length c u := by
  cases hp with
  | lref x oo g o' V hI hx hv hr =>
    simp only [ptrCells, Option.some.injEq, Prod.mk.injEq] at h; obtain ⟨rfl, rfl⟩ := h
    exact ⟨g, o', rfl, fun j c hj => ⟨_, hv j c hj, hr j c hj⟩⟩
  | ref b k i oo g o' hb hM =>
    simp only [ptrCells] at h
    refine ⟨g, o' + i * k + oo, rfl, ?_⟩
    split at h
    · rename_i cs' hx
      split at h
      · rename_i hi
        subst hi
        simp only [Option.some.injEq, Prod.mk.injEq] at h; obtain ⟨rfl, rfl⟩ := h
        obtain ⟨g', o'', cur, h1, h2, h3, h4, h5⟩ := hS.blk b _ hx
        rw [hM] at h1; simp only [Option.some.injEq, Prod.mk.injEq] at h1; obtain ⟨rfl, rfl⟩ := h1
        intro j c hj
        obtain ⟨u, a, r⟩ := h5 _ c hj
        exact ⟨u, by rw [h2.cell?, ← a]; congr 1; omega, r⟩
      · cases h
    · rename_i k' xs hx
      split at h
      · rename_i hk; subst hk
        obtain ⟨x, hx', he⟩ := Option.map_eq_some_iff.1 h
        simp only [Prod.mk.injEq] at he; obtain ⟨rfl, rfl⟩ := he
        obtain ⟨he, ⟨_, rfl⟩ | ⟨g', o'', cur, h1, h2, h3, h4, h5⟩⟩ := hS.blk b _ hx
        · simp at hx'
        · rw [hM] at h1; simp only [Option.some.injEq, Prod.mk.injEq] at h1; obtain ⟨rfl, rfl⟩ := h1
          intro j c hj
          obtain ⟨u, a, r⟩ := h5 i _ x c hx' hj
          exact ⟨u, by rw [h2.cell?, ← a]; congr 1; omega, r⟩
      · cases h
    · rename_i k' xs hx
      split at h
      · rename_i hk; subst hk
        obtain ⟨x, hx', he⟩ := Option.map_eq_some_iff.1 h
        simp only [Prod.mk.injEq] at he; obtain ⟨rfl, rfl⟩ := he
        obtain ⟨he, ⟨_, rfl⟩ | ⟨g', o'', h1, h3, h5⟩⟩ := hS.blk b _ hx
        · simp at hx'
        · rw [hM] at h1; simp only [Option.some.injEq, Prod.mk.injEq] at h1; obtain ⟨rfl, rfl⟩ := h1
          intro j c hj
          obtain ⟨u, a, r⟩ := h5 i _ x c hx' hj
          exact ⟨u, by rw [← a]; congr 2; omega, r⟩
      · cases h
    · cases h
  | _ => simp [ptrCells] at h

/-- A variable's value, out of its cells. -/
theorem loadVar_sound {t : TypeId} {s : Nat} {ag : Bool} (hs : sizeB P t = some s) (ha : aggB P t = some ag) {cs : List AV} {o g a : Nat} {v : AV} (h : part cs o s ag = some v)
    (hc : ∀ j c, cs[o + j]? = some c → ∃ u, w.cell? ⟨g, a + j, none⟩ = some u ∧ Rel w M I n c u) : ∃ v', (loadVar t ⟨g, a, none⟩).run P w = .ok v' w ∧ Rel w M I n v v' := by
  unfold part at h
  unfold loadVar
  cases ag with
  | true =>
    simp only [if_true] at h
    split at h
    · rename_i hle
      simp only [Option.some.injEq] at h; subst h
      let vs : List Value := (List.range s).map fun j => (w.cell? ⟨g, a + j, none⟩).getD Go.undef
      have hvl : vs.length = s := by simp [vs]
      have hvs : ∀ j v, vs[j]? = some v → w.cell? ((⟨g, a, none⟩ : Addr).add j) = some v := fun j v hv => by
        have hj : j < s := by have := (List.getElem?_eq_some_iff.1 hv).1; omega
        obtain ⟨u, hu, _⟩ := hc j _ (List.getElem?_eq_getElem (by omega))
        rw [Addr.add_lit]
        simp [vs, hj, hu] at hv
        rw [hu, hv]
      have hl := run_loadCells_list (P := P) w ⟨g, a, none⟩ vs hvs
      rw [hvl] at hl
      refine ⟨.agg vs.toArray, ?_, .agg _ _ (by simp; omega) fun i c v hci hvi => ?_⟩
      · simp only [Sem.run_bind, isAgg_run ha, Result.andThen_ok, if_true, sizeOf_run hs, hl, Sem.run_pure]
      · rw [List.getElem?_take] at hci
        split at hci
        · rw [List.getElem?_drop] at hci
          obtain ⟨u, hu, hr⟩ := hc i c hci
          have := hvs i v hvi
          rw [Addr.add_lit, hu] at this
          rw [← Option.some.inj this]; exact hr
        · cases hci
    · cases h
  | false =>
    simp only [Bool.false_eq_true, if_false] at h
    obtain ⟨u, hu, hr⟩ := hc 0 v (by simpa using h)
    refine ⟨u, ?_, hr⟩
    simp only [Sem.run_bind, isAgg_run ha, Result.andThen_ok, Bool.false_eq_true, if_false]
    simp [show w.cell? ⟨g, a, none⟩ = some u by simpa using hu]

end
end Go.AM

/- The abstract machine, part 5: each abstract step is what the model does. Own work. -/
set_option linter.all false
namespace Go.AM

section
variable {P : Program} {GT : Nat → Option AV} {w : World} {M : AMap} {I : Nat → Prop} {H : Heap}

/-- The end of one operation of the model. -/
def OpTo (P : Program) (GT : Nat → Option AV) (w : World) (M : AMap) (I : Nat → Prop) (H : Heap) (s : Sem Next) (v : AV) (H' : Heap) : Prop :=
  ∃ v' w' M' I', (s.run P w = .ok (.value v') w' ∨ s.run P w = .ok .skip w' ∧ v' = Go.undef) ∧ Grow w M I H w' M' I' H' ∧ Sim GT w' M' I' H' ∧ Rel w' M' I' H'.length v v'

theorem OpTo.of_runs {s : Sem Value} {v : AV} {H' : Heap} (h : RunsTo P GT w M I H s v H') : OpTo P GT w M I H (do pure (.value (← s))) v H' := by
  obtain ⟨v', w', M', I', h1, h2, h3, h4⟩ := h
  exact ⟨v', w', M', I', .inl (by simp [h1]), h2, h3, h4⟩

theorem OpTo.val (hS : Sim GT w M I H) {v : AV} {v' : Value} (h : Rel w M I H.length v v') : OpTo P GT w M I H (Pure.pure (.value v')) v H :=
  ⟨v', w, M, I, .inl rfl, Grow.refl .., hS, h⟩

theorem toListB (s : List UInt8) : (⟨s.toArray⟩ : ByteArray).toList = s := by rw [ByteArray.toList_eq]
theorem sizeB' (s : List UInt8) : (⟨s.toArray⟩ : ByteArray).size = s.length := by simp [ByteArray.size]

theorem intBin_run {op : BinOp} {k : IntKind} {a b : Int} {v : AV} (t : TypeId) (h : intBin op k a b = some v) : ∃ v', (binOp op t (.int k a) (.int k b)).run P w = .ok v' w ∧ ∀ n, Rel w M I n v v' := by
  cases op <;> simp only [intBin, Option.some.injEq, reduceCtorEq] at h <;> simp only [binOp, ne_eq, not_true_eq_false, if_false, Op.intArith, Op.intCmp, Op.intBits, Op.intDiv, Sem.run_ite, Sem.run_pure]
  all_goals first
    | (subst h; exact ⟨_, rfl, fun n => .int _ _⟩)
    | (subst h; exact ⟨_, rfl, fun n => .bool _⟩)
    | (split at h
       · cases h
       · rename_i h0
         simp only [Option.some.injEq] at h
         subst h
         rw [if_neg h0]
         exact ⟨_, rfl, fun n => .int _ _⟩)

theorem shift_run {op : BinOp} {k k' : IntKind} {a b : Int} {v : AV} (t : TypeId) (hop : op = .shl ∨ op = .shr) (h : shiftBin op k a b = some v) : ∃ v', (binOp op t (.int k a) (.int k' b)).run P w = .ok v' w ∧ ∀ n, Rel w M I n v v' := by
  rcases hop with rfl | rfl <;> simp [shiftBin] at h <;> obtain ⟨h0, rfl⟩ := h
  all_goals
    have h0' : ¬ b < 0 := by omega
    exact ⟨_, by simp only [binOp, Op.shift, if_neg h0', Sem.run_pure], fun n => .int _ _⟩

theorem str_run {op : BinOp} {a b : List UInt8} {v : AV} (t : TypeId) (h : strBin op a b = some v) : ∃ v', (binOp op t (.string ⟨a.toArray⟩) (.string ⟨b.toArray⟩)).run P w = .ok v' w ∧ ∀ n, Rel w M I n v v' := by
  cases op <;> simp [strBin] at h <;> simp only [binOp, Op.stringOp, toListB, sizeB', Sem.run_ite, Sem.run_pure]
  all_goals first
    | (subst h; exact ⟨_, rfl, fun n => .bool _⟩)
    | (subst h; exact ⟨_, rfl, fun n => by rw [Bool.not_or]; exact .bool _⟩)
    | skip
  obtain ⟨h0, rfl⟩ := h
  refine ⟨.string ⟨(a ++ b).toArray⟩, ?_, fun n => .str _⟩
  rw [if_neg (by rw [IntKind.max_i64]; omega)]
  congr 2

theorem eqGuard_plain {op : BinOp} {t : TypeId} {x y : Operand} {a b : Value} (h : ∀ vs us, ¬ (a = .agg vs ∧ b = .agg us)) (h' : ¬ (a = .nilIface ∧ b = .nilIface)) : (eqGuard op t x y a b).run P w = .ok () w := by
  unfold eqGuard
  split
  all_goals first
    | rfl
    | (simp only [Bool.not_true, Bool.false_eq_true, if_false]
       split
       · exact absurd ⟨rfl, rfl⟩ h'
       · exact absurd ⟨rfl, rfl⟩ (h _ _)
       · rfl)

/-! ### '==' on structs -/

/-- A type's value, out of its cells. -/
def IsVal (P : Program) (t : TypeId) (vs : List Value) (v : Value) : Prop := (aggB P t = some true ∧ v = .agg vs.toArray) ∨ (aggB P t = some false ∧ vs = [v])

theorem cellsEq_append : ∀ (s r : List Sc) (xs ys : List AV) (b : Bool), cellsEq (s ++ r) xs ys = some b →
    ∃ p q, cellsEq s (xs.take s.length) (ys.take s.length) = some p ∧ cellsEq r (xs.drop s.length) (ys.drop s.length) = some q ∧ b = (p && q)
  | [], r, xs, ys, b, h => ⟨true, b, by simp [cellsEq], by simpa using h, by simp⟩
  | c :: s, r, [], ys, b, h => by simp [cellsEq] at h
  | c :: s, r, x :: xs, [], b, h => by simp [cellsEq] at h
  | c :: s, r, x :: xs, y :: ys, b, h => by
    simp only [List.cons_append, cellsEq] at h
    split at h
    · rename_i p q h1 h2
      obtain ⟨p', q', e1, e2, rfl⟩ := cellsEq_append s r xs ys q h2
      simp only [Option.some.injEq] at h
      subst h
      exact ⟨p && p', q', by simp [cellsEq, h1, e1], by simpa using e2, by cases p <;> cases p' <;> simp⟩
    · cases h

theorem cellsEq_len : ∀ (s : List Sc) (xs ys : List AV) (b : Bool), cellsEq s xs ys = some b → xs.length = s.length ∧ ys.length = s.length
  | [], [], [], _, _ => ⟨rfl, rfl⟩
  | [], _ :: _, _, _, h => by simp [cellsEq] at h
  | [], [], _ :: _, _, h => by simp [cellsEq] at h
  | _ :: _, [], _, _, h => by simp [cellsEq] at h
  | _ :: _, _ :: _, [], _, h => by simp [cellsEq] at h
  | c :: s, x :: xs, y :: ys, b, h => by
    simp only [cellsEq] at h
    split at h
    · rename_i p q h1 h2
      have := cellsEq_len s xs ys q h2
      simp [this.1, this.2]
    · cases h

theorem RelL.drop {n : Nat} {xs : List AV} {vs : List Value} (h : RelL w M I n xs vs) (k : Nat) : RelL w M I n (xs.drop k) (vs.drop k) :=
  ⟨by have := h.1; simp; omega, fun i c v hc hv => by rw [List.getElem?_drop] at hc hv; exact h.2 _ c v hc hv⟩
theorem RelL.take {n : Nat} {xs : List AV} {vs : List Value} (h : RelL w M I n xs vs) (k : Nat) : RelL w M I n (xs.take k) (vs.take k) :=
  ⟨by have := h.1; simp; omega, fun i c v hc hv => by
    rw [List.getElem?_take] at hc hv
    split at hc
    · rw [if_pos ‹_›] at hv; exact h.2 _ c v hc hv
    · cases hc⟩

theorem partVal {t : TypeId} {s o : Nat} {vs : List Value} (hs : sizeB P t = some s) (ha : (aggB P t).isSome = true) (h1 : aggB P t = some false → s = 1) (hl : o + s ≤ vs.length) :
    ∃ v, (Go.part t vs.toArray o).run P w = .ok v w ∧ IsVal P t ((vs.drop o).take s) v := by
  unfold Go.part
  cases hb : aggB P t with
  | none => simp [hb] at ha
  | some b =>
    cases b with
    | true =>
      refine ⟨.agg ((vs.drop o).take s).toArray, ?_, .inl ⟨hb, rfl⟩⟩
      simp only [Sem.run_bind, isAgg_run hb, Result.andThen_ok, if_true, sizeOf_run hs, Sem.run_pure]
      congr 2
      simp [List.extract_toArray, List.extract_eq_take_drop]
    | false =>
      obtain rfl := h1 hb
      refine ⟨vs[o]'(by omega), ?_, .inr ⟨hb, ?_⟩⟩
      · simp only [Sem.run_bind, isAgg_run hb, Result.andThen_ok, Bool.false_eq_true, if_false]
        simp [List.getElem?_eq_getElem (show o < vs.length by omega)]
      · rw [List.drop_eq_getElem_cons (by omega)]; rfl

theorem fields_sound {S : TypeId → Option (List Sc)} {D : Nat}
    (ih : ∀ t sh, S t = some sh → (aggB P t).isSome = true ∧ (aggB P t = some false → sh.length = 1) ∧ ∀ (xs ys : List AV) (vs us : List Value) (b : Bool) (v u : Value) (n : Nat), RelL w M I n xs vs → RelL w M I n ys us → cellsEq sh xs ys = some b → IsVal P t vs v → IsVal P t us u → (Op.equalIn D t v u).run P w = .ok b w) :
    ∀ (fs : List Field) (o : Nat) (sh : List Sc), shapeFs P S o fs = some sh → ∀ (xs ys : List AV) (vs us : List Value) (b : Bool) (n : Nat), RelL w M I n xs vs → RelL w M I n ys us → cellsEq sh (xs.drop o) (ys.drop o) = some b →
      (Op.eqFields D vs.toArray us.toArray fs).run P w = .ok b w
  | [], o, sh, h, xs, ys, vs, us, b, n, hx, hy, hc => by
    simp only [shapeFs, Option.some.injEq] at h; subst h
    have : b = true := by
      cases hd : xs.drop o <;> cases he : ys.drop o <;> simp [hd, he, cellsEq] at hc
      exact hc
    subst this
    simp [Op.eqFields]
  | f :: fs, o, sh, h, xs, ys, vs, us, b, n, hx, hy, hc => by
    simp only [shapeFs] at h
    split at h
    · rename_i hn
      obtain ⟨hname, hoff⟩ := hn
      split at h
      · rename_i s hS
        split at h
        · rename_i hsz
          obtain ⟨hsz, hpos⟩ := hsz
          obtain ⟨r, hr, rfl⟩ := Option.map_eq_some_iff.1 h
          obtain ⟨p, q, e1, e2, rfl⟩ := cellsEq_append s r _ _ _ hc
          obtain ⟨a1, a2, a3⟩ := ih _ _ hS
          have hlx := cellsEq_len _ _ _ _ e1
          have hv : o + s.length ≤ vs.length := by have := hx.1; have := hlx.1; simp at this; omega
          have hu : o + s.length ≤ us.length := by have := hy.1; have := hlx.2; simp at this; omega
          obtain ⟨v, rv, iv⟩ := partVal (P := P) (w := w) (o := o) hsz a1 a2 hv
          obtain ⟨u, ru, iu⟩ := partVal (P := P) (w := w) (o := o) hsz a1 a2 hu
          have he := a3 _ _ _ _ p v u n ((hx.drop o).take s.length) ((hy.drop o).take s.length) e1 iv iu
          rw [List.drop_drop, List.drop_drop] at e2
          have hrest := fields_sound ih fs (o + s.length) r hr xs ys vs us q n hx hy e2
          simp only [Op.eqFields, hname, ne_eq, not_false_eq_true, if_true, hoff, Sem.run_bind, rv, ru, Result.andThen_ok, he, Sem.run_ite, Sem.run_pure, hrest]
          cases p <;> simp
        · cases h
      · cases h
    · cases h

theorem eq_sound : ∀ (d D : Nat) (t : TypeId) (sh : List Sc), shapeOf P d t = some sh → d ≤ D →
    (aggB P t).isSome = true ∧ (aggB P t = some false → sh.length = 1) ∧ ∀ (xs ys : List AV) (vs us : List Value) (b : Bool) (v u : Value) (n : Nat), RelL w M I n xs vs → RelL w M I n ys us → cellsEq sh xs ys = some b → IsVal P t vs v → IsVal P t us u → (Op.equalIn D t v u).run P w = .ok b w
  | 0, _, _, _, h, _ => by simp [shapeOf] at h
  | d + 1, 0, _, _, _, h => absurd h (by omega)
  | d + 1, D + 1, t, sh, h, hd => by
    have one : ∀ {c : Sc} {xs ys : List AV} {b : Bool}, cellsEq [c] xs ys = some b → ∃ x y, xs = [x] ∧ ys = [y] ∧ cellEq c x y = some b := by
      intro c xs ys b h
      have hl := cellsEq_len _ _ _ _ h
      match xs, ys, hl with
      | [x], [y], _ =>
        simp only [cellsEq] at h
        split at h
        · rename_i p q h1 h2
          simp at h h2; subst h2; simp at h; subst h
          exact ⟨x, y, rfl, rfl, h1⟩
        · cases h
    have sing : ∀ {vs : List Value} {v : Value} {x : AV} {n : Nat}, aggB P t = some false → RelL w M I n [x] vs → IsVal P t vs v → Rel w M I n x v := by
      intro vs v x n ha hr hv
      rcases hv with ⟨h1, _⟩ | ⟨_, rfl⟩
      · rw [ha] at h1; cases h1
      · exact hr.2 0 x v rfl rfl
    simp only [shapeOf] at h
    split at h
    · rename_i k ht
      simp only [Option.some.injEq] at h; subst h
      have ha : aggB P t = some false := by simp [aggB, ht]
      refine ⟨by simp [ha], fun _ => rfl, fun xs ys vs us b v u n hx hy hc hv hu => ?_⟩
      obtain ⟨x, y, rfl, rfl, he⟩ := one hc
      have rx := sing ha hx hv
      have ry := sing ha hy hu
      unfold cellEq at he
      split at he
      · rename_i hs
        cases hs
        cases rx; cases ry
        split at he
        · rename_i hk
          obtain ⟨rfl, rfl⟩ := hk
          simp only [Option.some.injEq] at he; subst he
          exact run_equalIn_int w D t _ _ _ _ ht
        · cases he
      · rename_i hs; cases hs
      · rename_i hs; cases hs
      · cases he
    · rename_i ht
      simp only [Option.some.injEq] at h; subst h
      have ha : aggB P t = some false := by simp [aggB, ht]
      refine ⟨by simp [ha], fun _ => rfl, fun xs ys vs us b v u n hx hy hc hv hu => ?_⟩
      obtain ⟨x, y, rfl, rfl, he⟩ := one hc
      have rx := sing ha hx hv
      have ry := sing ha hy hu
      unfold cellEq at he
      split at he
      · rename_i hs; cases hs
      · cases rx; cases ry
        simp only [Option.some.injEq] at he; subst he
        exact run_equalIn_bool' w D t _ _ ht
      · rename_i hs; cases hs
      · cases he
    · rename_i ht
      simp only [Option.some.injEq] at h; subst h
      have ha : aggB P t = some false := by simp [aggB, ht]
      refine ⟨by simp [ha], fun _ => rfl, fun xs ys vs us b v u n hx hy hc hv hu => ?_⟩
      obtain ⟨x, y, rfl, rfl, he⟩ := one hc
      have rx := sing ha hx hv
      have ry := sing ha hy hu
      unfold cellEq at he
      split at he
      · rename_i hs; cases hs
      · rename_i hs; cases hs
      · cases rx; cases ry
        simp only [Option.some.injEq] at he; subst he
        rw [run_equalIn_string w D t _ _ ht, toListB, toListB]
      · cases he
    · rename_i fs ht
      have ha : aggB P t = some true := by simp [aggB, ht]
      split at h
      · cases h
      · rename_i hp
        have hf : P.fieldsOf t = fs := by simp [Program.fieldsOf, ht]
        refine ⟨by simp [ha], fun h => (by rw [ha] at h; cases h), fun xs ys vs us b v u n hx hy hc hv hu => ?_⟩
        rcases hv with ⟨_, rfl⟩ | ⟨h1, _⟩
        · rcases hu with ⟨_, rfl⟩ | ⟨h1, _⟩
          · rw [run_equalIn_struct w D t _ _ (by rw [hf]; exact ht) (by simpa using hp), hf]
            exact fields_sound (fun t sh hsh => eq_sound d D t sh hsh (by omega)) fs.toList 0 sh h xs ys vs us b n hx hy (by simpa using hc)
          · rw [ha] at h1; cases h1
        · rw [ha] at h1; cases h1
    · cases h

end
end Go.AM

/- The abstract machine, part 6: views on slices, stores, appends, cuts. Own work. -/
set_option linter.all false
namespace Go.AM

section
variable {P : Program} {GT : Nat → Option AV} {w : World} {M : AMap} {I : Nat → Prop} {H : Heap}

/-! ### What a slice shows -/

/-- The cells of a slice's elements lie one behind the other. -/
def RowAt (w : World) (M : AMap) (I : Nat → Prop) (n g p k : Nat) (ys : List AV) : Prop :=
  ∀ i j x c, ys[i]? = some x → x.cells[j]? = some c → ∃ u, w.cell? ⟨g, p + i * k + j, none⟩ = some u ∧ Rel w M I n c u

theorem RowAt.cut {n g p k : Nat} {xs : List AV} (h : RowAt w M I n g p k xs) (o l : Nat) : RowAt w M I n g (p + o * k) k ((xs.drop o).take l) := fun i j x c hi hj => by
  have hi' : i < l := by
    have := (List.getElem?_eq_some_iff.1 hi).1
    simp at this; omega
  rw [List.getElem?_take, if_pos hi', List.getElem?_drop] at hi
  obtain ⟨u, a, b⟩ := h _ j x c hi hj
  exact ⟨u, by rw [← a, Nat.add_mul]; congr 2; omega, b⟩

theorem view_sound (hS : Sim GT w M I H) {k : Nat} {y : AV} {v : Value} (hy : Rel w M I H.length y v) {ys : List AV} (h : view H k y = some ys) :
    Elems k ys ∧ (((v = .slice none 0 0 ∨ ∃ a, v = .slice (some a) 0 0) ∧ ys = []) ∨ ∃ g p cap, v = .slice (some ⟨g, p, none⟩) ys.length cap ∧ ys.length ≤ cap ∧ cap ≤ maxLen ∧ RowAt w M I H.length g p k ys) := by
  cases hy with
  | lnil q k' hq =>
    simp only [view, List.isEmpty_nil, if_true, ite_self, Option.some.injEq] at h; subst h
    exact ⟨fun _ hx => absurd hx (by simp), .inl ⟨.inl rfl, rfl⟩⟩
  | lemp q k' a hq =>
    simp only [view, List.isEmpty_nil, if_true, ite_self, Option.some.injEq] at h; subst h
    exact ⟨fun _ hx => absurd hx (by simp), .inl ⟨.inr ⟨a, rfl⟩, rfl⟩⟩
  | lst q k' xs g o cap V hq hc hm hI he hv hr =>
    simp only [view] at h
    split at h
    · rename_i hk; subst hk
      simp only [Option.some.injEq] at h; subst h
      exact ⟨he, .inr ⟨g, o, cap, rfl, hc, hm, fun i j x c hi hj => ⟨_, hv i j x c hi hj, hr i j x c hi hj⟩⟩⟩
    · split at h
      · rename_i hemp
        simp only [List.isEmpty_iff] at hemp
        subst hemp
        simp only [Option.some.injEq] at h; subst h
        exact ⟨fun _ hx => absurd hx (by simp), .inr ⟨g, o, cap, rfl, hc, hm, fun i j x c hi => by simp at hi⟩⟩
      · cases h
  | sln q b k' off hb hM hq =>
    simp only [view] at h
    split at h
    · have hnil : ys = [] := by
        split at h
        · split at h
          · simp at h; exact h
          · cases h
        · split at h
          · simp at h; exact h
          · cases h
        · cases h
      subst hnil
      exact ⟨fun _ hx => absurd hx (by simp), .inl ⟨.inl rfl, rfl⟩⟩
    · cases h
  | sl q b k' off len g o p cap hb hM hc hm hq ha =>
    simp only [view] at h
    split at h
    · rename_i hk; subst hk
      have key : ∀ xs, Elems k' xs → off + len ≤ xs.length → RowAt w M I H.length g o k' xs → ys = (xs.drop off).take len →
          Elems k' ys ∧ (((Value.slice (some ⟨g, p, none⟩) len cap = .slice none 0 0 ∨ ∃ a, Value.slice (some ⟨g, p, none⟩) len cap = .slice (some a) 0 0) ∧ ys = []) ∨ ∃ g' p' cap', Value.slice (some ⟨g, p, none⟩) len cap = .slice (some ⟨g', p', none⟩) ys.length cap' ∧ ys.length ≤ cap' ∧ cap' ≤ maxLen ∧ RowAt w M I H.length g' p' k' ys) := by
        intro xs he hle hrow e
        have hlen : ys.length = len := by rw [e]; simp; omega
        subst e
        refine ⟨elems_cut he off len, .inr ⟨g, p, cap, by rw [hlen], by omega, hm, ?_⟩⟩
        by_cases h0 : 0 < cap
        · obtain ⟨rfl, _⟩ := ha h0
          exact hrow.cut off len
        · intro i j x c hi
          have := (List.getElem?_eq_some_iff.1 hi).1
          omega
      split at h
      · rename_i k xs hx
        split at h
        · rename_i hk
          obtain ⟨rfl, hle⟩ := hk
          simp only [Option.some.injEq] at h
          obtain ⟨he, ⟨h1, _⟩ | ⟨g', o', cur, h1, h2, h3, h4, h5⟩⟩ := hS.blk b _ hx
          · rw [hM] at h1; cases h1
          · rw [hM] at h1; simp only [Option.some.injEq, Prod.mk.injEq] at h1; obtain ⟨rfl, rfl⟩ := h1
            exact key xs he hle (fun i j x c hi hj => let ⟨u, a, b⟩ := h5 i j x c hi hj; ⟨u, by rw [h2.cell?]; exact a, b⟩) h.symm
        · cases h
      · rename_i k xs hx
        split at h
        · rename_i hk
          obtain ⟨rfl, hle⟩ := hk
          simp only [Option.some.injEq] at h
          obtain ⟨he, ⟨h1, _⟩ | ⟨g', o', h1, h3, h5⟩⟩ := hS.blk b _ hx
          · rw [hM] at h1; cases h1
          · rw [hM] at h1; simp only [Option.some.injEq, Prod.mk.injEq] at h1; obtain ⟨rfl, rfl⟩ := h1
            exact key xs he hle h5 h.symm
        · cases h
      · cases h
    · cases h
  | _ => simp [view] at h

/-- The cells of a slice's elements, in one list. -/
theorem RowAt.flat {n g p k : Nat} {ys : List AV} (h : RowAt w M I n g p k ys) (he : Elems k ys) : ∃ news : List Value, news.length = ys.length * k ∧ (∀ j u, news[j]? = some u → w.cell? ⟨g, p + j, none⟩ = some u) ∧
    (∀ u ∈ news, u.oneCell' = true) ∧ ∀ i j x c, ys[i]? = some x → x.cells[j]? = some c → ∃ u, news[i * k + j]? = some u ∧ Rel w M I n c u := by
  let f : Nat → Value := fun t => (w.cell? ⟨g, p + t, none⟩).getD Go.undef
  have hf : ∀ t, t < ys.length * k → ∃ u, w.cell? ⟨g, p + t, none⟩ = some u ∧ u.oneCell' = true := fun t ht => by
    have hk : 0 < k := by rcases Nat.eq_zero_or_pos k with rfl | h; simp at ht; exact h
    have hi : t / k < ys.length := Nat.div_lt_of_lt_mul (by rw [Nat.mul_comm]; exact ht)
    have hx : ys[t / k]? = some ys[t / k] := List.getElem?_eq_getElem hi
    have hel := AV.elem_iff.1 (he _ (List.getElem_mem hi))
    have hj : t % k < ys[t / k].cells.length := by rw [hel.1]; exact Nat.mod_lt _ hk
    obtain ⟨u, a, b⟩ := h (t / k) (t % k) _ _ hx (List.getElem?_eq_getElem hj)
    refine ⟨u, ?_, b.oneCell (hel.2.2 _ (List.getElem_mem hj))⟩
    rw [← a]
    congr 2
    have := Nat.div_add_mod t k
    rw [Nat.mul_comm] at this
    omega
  refine ⟨(List.range (ys.length * k)).map f, by simp, fun j u hu => ?_, fun u hu => ?_, fun i j x c hi hj => ?_⟩
  · have hj : j < ys.length * k := by have := (List.getElem?_eq_some_iff.1 hu).1; simpa using this
    obtain ⟨u', h1, _⟩ := hf j hj
    simp [hj, f, h1] at hu
    rw [h1, hu]
  · obtain ⟨t, ht, rfl⟩ := List.mem_map.1 hu
    obtain ⟨u', h1, h2⟩ := hf t (List.mem_range.1 ht)
    simp [f, h1, h2]
  · obtain ⟨u, a, b⟩ := h i j x c hi hj
    refine ⟨u, ?_, b⟩
    have hil := (List.getElem?_eq_some_iff.1 hi).1
    have hjl := (List.getElem?_eq_some_iff.1 hj).1
    have hel := AV.elem_iff.1 (he x (List.mem_of_getElem? hi))
    rw [hel.1] at hjl
    have hlt : i * k + j < ys.length * k := by
      have : (i + 1) * k ≤ ys.length * k := Nat.mul_le_mul_right _ hil
      rw [Nat.add_mul] at this; omega
    have h1 : w.cell? ⟨g, p + (i * k + j), none⟩ = some u := by rw [← a]; congr 2; omega
    rw [List.getElem?_map, List.getElem?_range hlt]
    simp [f, h1]

/-! ### Stores -/

theorem heap_setCell {g j : Nat} {cur : Array Value} {e : TypeId} {fz : Nat × Nat} (hg : w.heap[g]? = some (.cells cur e fz)) (v : Value) :
    (w.setCell ⟨g, j, none⟩ v).heap = w.heap.setIfInBounds g (.cells (cur.setIfInBounds j v) e fz) := by
  obtain ⟨hlt, hge⟩ := Array.getElem?_eq_some_iff.1 hg
  apply Array.ext_getElem?
  intro k
  simp only [World.setCell, Array.getElem?_modify, Array.getElem?_setIfInBounds]
  by_cases hk : g = k
  · subst hk; simp [hlt, hge]
  · simp [hk]

theorem storeCells_free (g o : Nat) (e : TypeId) (fz : Nat × Nat) : ∀ (vs : List Value) (i : Nat) (cur : Array Value) (w : World), w.heap[g]? = some (.cells cur e fz) → (∀ j, j < cur.size → ¬ (fz.1 ≤ j ∧ j < fz.2)) →
    o + i + vs.length ≤ cur.size → (∀ v ∈ vs, v.oneCell' = true) → ∃ cur' w', (storeCells ⟨g, o, none⟩ vs i).run P w = .ok () w' ∧ w'.heap = w.heap.setIfInBounds g (.cells cur' e fz) ∧ w'.os = w.os ∧ w'.tape = w.tape ∧ w'.output = w.output ∧
      cur'.size = cur.size ∧ (∀ j, j < vs.length → cur'[o + i + j]? = vs[j]?) ∧ (∀ j, (j < o + i ∨ o + i + vs.length ≤ j) → cur'[j]? = cur[j]?)
  | [], i, cur, w, hg, _, _, _ => by
    refine ⟨cur, w, by simp [storeCells], ?_, rfl, rfl, rfl, rfl, by simp, fun _ _ => rfl⟩
    apply Array.ext_getElem?
    intro k
    rw [Array.getElem?_setIfInBounds]
    by_cases hk : g = k
    · subst hk
      obtain ⟨hlt, hge⟩ := Array.getElem?_eq_some_iff.1 hg
      simp [hlt, hge]
    · simp [hk]
  | v :: vs, i, cur, w, hg, hfz, hl, h1 => by
    simp only [List.length_cons] at hl
    have hlt := (Array.getElem?_eq_some_iff.1 hg).1
    have hcell : w.cell? ⟨g, o + i, none⟩ = some (cur[o + i]'(by omega)) := by simp [World.cell?, hg, show o + i < cur.size by omega]
    have hfrz : w.frozen? ⟨g, o + i, none⟩ = false := by
      have := hfz (o + i) (by omega)
      simp only [World.frozen?, hg]
      rcases Nat.lt_or_ge (o + i) fz.1 with h | h
      · simp; omega
      · simp; omega
    have hheap := heap_setCell (w := w) (j := o + i) hg v
    have hg' : (w.setCell ⟨g, o + i, none⟩ v).heap[g]? = some (.cells (cur.setIfInBounds (o + i) v) e fz) := by rw [hheap, Array.getElem?_setIfInBounds, if_pos rfl, if_pos hlt]
    obtain ⟨cur', w', r1, r2, r3, r4, r5, r6, r7, r8⟩ := storeCells_free g o e fz vs (i + 1) (cur.setIfInBounds (o + i) v) (w.setCell ⟨g, o + i, none⟩ v) hg' (by simpa using hfz) (by simp; omega) (fun u hu => h1 u (by simp [hu]))
    refine ⟨cur', w', ?_, ?_, r3, r4, r5, by simpa using r6, fun j hj => ?_, fun j hj => ?_⟩
    · simp only [storeCells, Addr.add_lit, Sem.run_bind, run_store P w _ v _ (h1 v (by simp)), hcell, hfrz, Bool.false_eq_true, if_false, Result.andThen_ok]
      exact r1
    · rw [r2, hheap]
      apply Array.ext_getElem?
      intro k
      simp only [Array.getElem?_setIfInBounds, Array.size_setIfInBounds]
      by_cases hk : g = k <;> simp [hk]
    · cases j with
      | zero =>
        rw [r8 _ (by omega)]
        simp [show o + i < cur.size by omega]
      | succ j =>
        have := r7 j (by simp at hj; omega)
        rw [show o + i + (j + 1) = o + (i + 1) + j by omega, this]
        simp
    · rw [r8 j (by simp at hj; omega), Array.getElem?_setIfInBounds, if_neg (by simp at hj; omega)]

/-! ### Storing into an abstract block -/

theorem one_ne {x : AV} (h : x.cells.all AV.one = true) : x ≠ .undef ∧ ∀ u, x ≠ .raw u := by
  refine ⟨?_, fun u => ?_⟩ <;> (rintro rfl; simp [AV.cells, AV.one] at h)

theorem rel_cells {n : Nat} {x : AV} {v : Value} (h : Rel w M I n x v) (hx : x ≠ .undef ∧ ∀ u, x ≠ .raw u) : RelL w M I n x.cells v.cells.toList := by
  cases h with
  | raw v => exact absurd rfl (hx.2 v)
  | agg cs vs hl h => exact ⟨by simpa [Value.cells, AV.cells] using hl, by simpa [Value.cells, AV.cells] using h⟩
  | undef v => exact absurd rfl hx.1
  | _ =>
    refine ⟨by simp [AV.cells, Value.cells], fun i c u hc hu => ?_⟩
    simp only [AV.cells, Value.cells] at hc hu
    cases i with
    | zero => simp at hc hu; subst hc hu; first | exact .bool _ | exact .int _ _ | exact .str _ | exact .tup _ _ ‹_› ‹_› | exact .lnil _ _ ‹_› | exact .lemp _ _ _ ‹_› | exact .lst _ _ _ _ _ _ _ ‹_› ‹_› ‹_› ‹_› ‹_› ‹_› ‹_› | exact .lref _ _ _ _ _ ‹_› ‹_› ‹_› ‹_› | exact .ref _ _ _ _ _ _ ‹_› ‹_› | exact .sln _ _ _ _ ‹_› ‹_› ‹_› | exact .sl _ _ _ _ _ _ _ _ _ ‹_› ‹_› ‹_› ‹_› ‹_› ‹_› | exact .nilp | exact .nilf | exact .nili | exact .nilm | exact .fn _ _ _ _ _ ‹_› ‹_› ‹_› ‹_› | exact .iface _ _ _ ‹_›
    | succ i => simp at hc

theorem splice_get {cs vs : List AV} {o : Nat} (hl : o + vs.length ≤ cs.length) (j : Nat) : (splice cs o vs)[j]? = if o ≤ j ∧ j < o + vs.length then vs[j - o]? else cs[j]? := by
  unfold splice
  have ho : (cs.take o).length = o := by simp; omega
  rw [List.append_assoc, List.getElem?_append, ho]
  split
  · rw [if_neg (by omega), List.getElem?_take, if_pos ‹_›]
  · rw [List.getElem?_append]
    split
    · rw [if_pos (by omega)]
    · rw [if_neg (by omega), List.getElem?_drop]
      congr 1; omega

theorem splice_len {cs vs : List AV} {o : Nat} (hl : o + vs.length ≤ cs.length) : (splice cs o vs).length = cs.length := by unfold splice; simp; omega

/-- A struct, or one cell of it, stored into a variable. -/
theorem store_box (hS : Sim GT w M I H) {t : TypeId} {b k o s : Nat} {x : AV} {v p : Value} {cs : List AV} (hsz : sizeB P t = some s) (hp : Rel w M I H.length (.ref b k 0 o) p) (hv : Rel w M I H.length x v) (hxl : x.cells.length = s)
    (hx1 : x.cells.all AV.one = true) (hb : H[b]? = some (.box cs)) (hle : o + s ≤ cs.length) :
    ∃ w', (Instr.storeAt t p v).run P w = .ok () w' ∧ Grow w M I H w' M I (H.set b (.box (splice cs o x.cells))) ∧ Sim GT w' M I (H.set b (.box (splice cs o x.cells))) := by
  cases hp with
  | ref _ _ _ _ g o' hbn hM =>
  obtain ⟨g', o'', cur, h1, h2, h3, h4, h5⟩ := hS.blk b _ hb
  rw [hM] at h1; simp only [Option.some.injEq, Prod.mk.injEq] at h1; obtain ⟨rfl, rfl⟩ := h1
  have hrl := rel_cells hv (one_ne hx1)
  have hvl : v.cells.toList.length = s := by rw [← hrl.1, hxl]
  have hv1 : ∀ u ∈ v.cells.toList, u.oneCell' = true := fun u hu => by
    obtain ⟨j, hj⟩ := List.getElem?_of_mem hu
    have hjl := (List.getElem?_eq_some_iff.1 hj).1
    have hc : x.cells[j]? = some x.cells[j] := List.getElem?_eq_getElem (by omega)
    exact (hrl.2 j _ _ hc hj).oneCell ((List.all_eq_true.1 hx1) _ (List.getElem_mem _))
  obtain ⟨e, fz, hg, hfz⟩ := h2
  obtain ⟨cur', w', r1, r2, r3, r4, r5, r6, r7, r8⟩ := storeCells_free (P := P) g (o' + o) e fz v.cells.toList 0 cur w hg hfz (by rw [hvl]; omega) hv1
  have hlt := (Array.getElem?_eq_some_iff.1 hg).1
  refine ⟨w', ?_, ?_⟩
  · have : v.cells.size = s := by simpa using hvl
    simp only [Instr.storeAt, Instr.sureAddr, storeVar, Sem.run_bind, Sem.run_pure, Result.andThen_ok, sizeOf_run hsz, this, ne_eq, not_true_eq_false, if_false, Nat.zero_mul, Nat.add_zero]
    exact r1
  · have hW := Sim.write (w' := w') (y := .dead) hS hb rfl hM hg r6 r2 r3 r4 r5 trivial
    refine Sim.write (w' := w') hS hb rfl hM hg r6 r2 r3 r4 r5 ⟨g, o', cur', hM, ⟨e, fz, ?_, ?_⟩, h3, ?_, fun j c hj => ?_⟩
    · rw [r2, Array.getElem?_setIfInBounds, if_pos rfl, if_pos hlt]
    · rw [r6]; exact hfz
    · rw [splice_len (by omega), r6]; exact h4
    · have R : ∀ {c v}, Rel w M I H.length c v → Rel w' M I H.length c v := fun h => by have := hW.1.rel hS h; simpa using this
      rw [splice_get (by omega)] at hj
      split at hj
      · rename_i hjj
        obtain ⟨u, hu, hr⟩ := get_rel_list hrl hj
        refine ⟨u, ?_, R hr⟩
        have := r7 (j - o) (by omega)
        rw [show o' + o + 0 + (j - o) = o' + j by omega] at this
        rw [this]; exact hu
      · rename_i hjj
        obtain ⟨u, hu, hr⟩ := h5 j c hj
        exact ⟨u, by rw [r8 _ (by omega)]; exact hu, R hr⟩

theorem updElem_cells {k o s : Nat} {x v : AV} (hx : x.elem k = true) (hv : v.elem s = true) (h0 : 0 < s) (hle : o + s ≤ k) : (updElem x o v).cells = splice x.cells o v.cells ∧ (updElem x o v).elem k = true := by
  obtain ⟨x1, x2, x3⟩ := AV.elem_iff.1 hx
  obtain ⟨v1, v2, v3⟩ := AV.elem_iff.1 hv
  have main : ∀ y : AV, y.cells = splice x.cells o v.cells → y.noRef = true → y.elem k = true := fun y hy hn => by
    refine AV.elem_iff.2 ⟨by rw [hy, splice_len (by omega)]; exact x1, hn, fun c hc => ?_⟩
    rw [hy] at hc
    simp only [splice, List.mem_append] at hc
    rcases hc with (hc | hc) | hc
    · exact x3 c (List.mem_of_mem_take hc)
    · exact v3 c hc
    · exact x3 c (List.mem_of_mem_drop hc)
  cases x with
  | agg cs =>
    refine ⟨rfl, main _ rfl ?_⟩
    simp only [updElem, AV.noRef, AV.bel, AV.belL_iff]
    intro c hc
    simp only [splice, List.mem_append] at hc
    rcases hc with (hc | hc) | hc
    · simp only [AV.noRef, AV.bel, AV.belL_iff] at x2; exact x2 c (List.mem_of_mem_take hc)
    · obtain ⟨j, hj⟩ := List.getElem?_of_mem hc; exact AV.noRef_cells v2 hj
    · simp only [AV.noRef, AV.bel, AV.belL_iff] at x2; exact x2 c (List.mem_of_mem_drop hc)
  | _ =>
    simp only [AV.cells, List.length_singleton] at x1
    have e : o = 0 := by omega
    subst e
    have hh : ∀ z : AV, v.cells = splice [z] 0 v.cells := fun z => by unfold splice; simp; omega
    exact ⟨hh _, main _ (hh _) v2⟩

/-- Stored into an element of a row. -/
theorem store_row (hS : Sim GT w M I H) {t : TypeId} {b k i o s : Nat} {x y : AV} {v p : Value} {xs : List AV} (hsz : sizeB P t = some s) (hp : Rel w M I H.length (.ref b k i o) p) (hv : Rel w M I H.length x v) (hx : x.elem s = true)
    (h0 : 0 < s) (hb : H[b]? = some (.row k xs)) (hy : xs[i]? = some y) (hle : o + s ≤ k) :
    ∃ w', (Instr.storeAt t p v).run P w = .ok () w' ∧ Grow w M I H w' M I (H.set b (.row k (xs.set i (updElem y o x)))) ∧ Sim GT w' M I (H.set b (.row k (xs.set i (updElem y o x)))) := by
  cases hp with
  | ref _ _ _ _ g o' hbn hM =>
  obtain ⟨he, ⟨h1, _⟩ | ⟨g', o'', cur, h1, h2, h3, h4, h5⟩⟩ := hS.blk b _ hb
  · rw [hM] at h1; cases h1
  rw [hM] at h1; simp only [Option.some.injEq, Prod.mk.injEq] at h1; obtain ⟨rfl, rfl⟩ := h1
  obtain ⟨x1, x2, x3⟩ := AV.elem_iff.1 hx
  have hye := he y (List.mem_of_getElem? hy)
  have hyl := (AV.elem_iff.1 hye).1
  obtain ⟨u1, u2⟩ := updElem_cells hye hx h0 hle
  have hil := (List.getElem?_eq_some_iff.1 hy).1
  have hrl := rel_cells hv (one_ne (List.all_eq_true.2 x3))
  have hvl : v.cells.toList.length = s := by rw [← hrl.1, x1]
  have hv1 : ∀ u ∈ v.cells.toList, u.oneCell' = true := fun u hu => by
    obtain ⟨j, hj⟩ := List.getElem?_of_mem hu
    have hjl := (List.getElem?_eq_some_iff.1 hj).1
    have hc : x.cells[j]? = some x.cells[j] := List.getElem?_eq_getElem (by omega)
    exact (hrl.2 j _ _ hc hj).oneCell (x3 _ (List.getElem_mem _))
  obtain ⟨e, fz, hg, hfz⟩ := h2
  have hin : (i + 1) * k ≤ xs.length * k := Nat.mul_le_mul_right _ hil
  rw [Nat.add_mul] at hin
  obtain ⟨cur', w', r1, r2, r3, r4, r5, r6, r7, r8⟩ := storeCells_free (P := P) g (o' + i * k + o) e fz v.cells.toList 0 cur w hg hfz (by rw [hvl]; omega) hv1
  have hlt := (Array.getElem?_eq_some_iff.1 hg).1
  refine ⟨w', ?_, ?_⟩
  · have : v.cells.size = s := by simpa using hvl
    simp only [Instr.storeAt, Instr.sureAddr, storeVar, Sem.run_bind, Sem.run_pure, Result.andThen_ok, sizeOf_run hsz, this, ne_eq, not_true_eq_false, if_false]
    exact r1
  · have hW := Sim.write (w' := w') (y := .dead) hS hb rfl hM hg r6 r2 r3 r4 r5 trivial
    have R : ∀ {c v}, Rel w M I H.length c v → Rel w' M I H.length c v := fun h => by have := hW.1.rel hS h; simpa using this
    have hel' : Elems k (xs.set i (updElem y o x)) := fun z hz => by
      rcases List.mem_or_eq_of_mem_set hz with hz | rfl
      · exact he z hz
      · exact u2
    refine Sim.write (w' := w') hS hb rfl hM hg r6 r2 r3 r4 r5 ⟨hel', .inr ⟨g, o', cur', hM, ⟨e, fz, ?_, ?_⟩, h3, ?_, fun i' j z c hz hj => ?_⟩⟩
    · rw [r2, Array.getElem?_setIfInBounds, if_pos rfl, if_pos hlt]
    · rw [r6]; exact hfz
    · rw [List.length_set, r6]; exact h4
    · by_cases hi : i' = i
      · subst hi
        rw [List.getElem?_set_self hil] at hz
        obtain rfl := Option.some.inj hz
        rw [u1, splice_get (by omega)] at hj
        split at hj
        · rename_i hjj
          obtain ⟨u, hu, hr⟩ := get_rel_list hrl hj
          refine ⟨u, ?_, R hr⟩
          have := r7 (j - o) (by omega)
          rw [show o' + i' * k + o + 0 + (j - o) = o' + i' * k + j by omega] at this
          rw [this]; exact hu
        · obtain ⟨u, hu, hr⟩ := h5 i' j y c hy hj
          exact ⟨u, by rw [r8 _ (by omega)]; exact hu, R hr⟩
      · rw [List.getElem?_set_ne (Ne.symm hi)] at hz
        obtain ⟨u, hu, hr⟩ := h5 i' j z c hz hj
        refine ⟨u, ?_, R hr⟩
        have hjl := (List.getElem?_eq_some_iff.1 hj).1
        rw [(AV.elem_iff.1 (he z (List.mem_of_getElem? hz))).1] at hjl
        rw [r8 _ ?_]; exact hu
        rcases Nat.lt_or_gt_of_ne hi with hlt' | hgt
        · have : (i' + 1) * k ≤ i * k := Nat.mul_le_mul_right _ hlt'
          rw [Nat.add_mul] at this; omega
        · have : (i + 1) * k ≤ i' * k := Nat.mul_le_mul_right _ hgt
          rw [Nat.add_mul] at this; omega

end
end Go.AM

/- The abstract machine, part 7: appends, new rows. Own work. -/
set_option linter.all false
namespace Go.AM

section
variable {P : Program} {GT : Nat → Option AV} {w : World} {M : AMap} {I : Nat → Prop} {H : Heap}

/-- A row that is given up lives on, written, under a new number. -/
theorem Sim.regrow {w' : World} (hS : Sim GT w M I H) {b g o o2 : Nat} {x y : ABlk} (hx : H[b]? = some x) (hxm : x.mut = true) (hM : M b = some (g, o)) {cur cur' : Array Value} {e : TypeId} {fz : Nat × Nat}
    (hg : w.heap[g]? = some (.cells cur e fz)) (hsz : cur'.size = cur.size) (hh : w'.heap = w.heap.setIfInBounds g (.cells cur' e fz)) (ho : w'.os = w.os) (ht : w'.tape = w.tape) (hq : w'.output = w.output)
    (hy : BlkOK w' (more M H.length (some (g, o2))) I (H.length + 1) H.length y) :
    Grow w M I H w' (more M H.length (some (g, o2))) I (H.set b .dead ++ [y]) ∧ Sim GT w' (more M H.length (some (g, o2))) I (H.set b .dead ++ [y]) := by
  obtain ⟨G, S⟩ := Sim.write (y := .dead) hS hx hxm hM hg hsz hh ho ht hq trivial
  have hlive : LiveAt H M g := ⟨b, x, o, hx, hxm, hM⟩
  have hnI : ¬ I g := fun h => hS.notLive h hlive
  have hlen : (H.set b .dead).length = H.length := by simp
  have hold : ∀ c, c < H.length → more M H.length (some (g, o2)) c = M c := fun c hc => more_old hc
  have hnone : ¬ LiveAt (H.set b .dead) M g := by
    rintro ⟨c, z, p, h1, h2, h3⟩
    by_cases hc : b = c
    · subst hc
      have hbl := (List.getElem?_eq_some_iff.1 hx).1
      rw [List.getElem?_set_self hbl] at h1
      obtain rfl := Option.some.inj h1
      simp [ABlk.mut] at h2
    · rw [List.getElem?_set_ne hc] at h1
      exact hc (hS.inj c b z x g p o h1 h2 hx hxm h3 hM).symm
  have hget : ∀ c z, (H.set b .dead ++ [y])[c]? = some z → (c < H.length ∧ (H.set b .dead)[c]? = some z) ∨ (c = H.length ∧ z = y) := fun c z hz => by
    by_cases hc : c < H.length
    · rw [List.getElem?_append_left (by simpa using hc)] at hz; exact .inl ⟨hc, hz⟩
    · have hlt := (List.getElem?_eq_some_iff.1 hz).1
      simp at hlt
      obtain rfl : c = H.length := by omega
      rw [← hlen] at hz
      simp at hz
      exact .inr ⟨rfl, hz.symm⟩
  refine ⟨⟨G.os, G.tape, G.output, G.size, hold, G.imm, G.imm', G.frame, fun k hk hl => ?_, G.shape, by simp⟩, ⟨S.glob' hold, S.idom, fun c z hz => ?_, fun c c' z z' g' p p' h1 h2 h3 h4 h5 h6 => ?_⟩⟩
  · obtain ⟨c, z, p, h1, h2, h3⟩ := hl
    rcases hget c z h1 with ⟨hc, h1⟩ | ⟨rfl, rfl⟩
    · exact G.live k hk ⟨c, z, p, h1, h2, by rwa [hold c hc] at h3⟩
    · rw [more_new] at h3
      simp only [Option.some.injEq, Prod.mk.injEq] at h3
      obtain ⟨rfl, _⟩ := h3
      exact hlive
  · rcases hget c z hz with ⟨hc, h1⟩ | ⟨rfl, rfl⟩
    · refine (S.blk c z h1).mono (by simpa using hc) (fun _ h => h) (fun _ _ => rfl) (fun b hb => hold b (by simpa using hb)) (by simp) (fun _ _ h => h) (fun _ _ _ _ => rfl) (fun _ _ _ _ h => h)
    · simpa using hy
  · rcases hget c z h1 with ⟨hc, k1⟩ | ⟨rfl, rfl⟩
    · rw [hold c hc] at h5
      rcases hget c' z' h3 with ⟨hc', k3⟩ | ⟨rfl, rfl⟩
      · rw [hold c' hc'] at h6
        exact S.inj c c' z z' g' p p' k1 h2 k3 h4 h5 h6
      · rw [more_new] at h6
        simp only [Option.some.injEq, Prod.mk.injEq] at h6
        obtain ⟨rfl, _⟩ := h6
        exact absurd ⟨c, z, p, k1, h2, h5⟩ hnone
    · rw [more_new] at h5
      simp only [Option.some.injEq, Prod.mk.injEq] at h5
      obtain ⟨rfl, _⟩ := h5
      rcases hget c' z' h3 with ⟨hc', k3⟩ | ⟨rfl, rfl⟩
      · rw [hold c' hc'] at h6
        exact absurd ⟨c', z', p', k3, h4, h6⟩ hnone
      · rfl

theorem append_firsts {k m : Nat} {yv : Value} {news : List Value} {w' : World} (hw : ∀ a, w'.cell? a = w.cell? a)
    (hy : ((yv = .slice none 0 0 ∨ ∃ a, yv = .slice (some a) 0 0) ∧ m = 0 ∧ news = []) ∨ ∃ g p cap, yv = .slice (some ⟨g, p, none⟩) m cap ∧ news.length = m * k ∧ ∀ j u, news[j]? = some u → w.cell? ⟨g, p + j, none⟩ = some u) :
    (Builtin.firstCells k m yv).run P w' = .ok news.toArray w' ∧ (Builtin.lenOf yv).run P w' = .ok m w' := by
  rcases hy with ⟨rfl | ⟨a, rfl⟩, rfl, rfl⟩ | ⟨g, p, cap, rfl, hl, hc⟩
  · exact ⟨by simp [Builtin.firstCells], by simp [Builtin.lenOf]⟩
  · exact ⟨by simp [Builtin.firstCells, loadCells, loadCellsFrom], by simp [Builtin.lenOf]⟩
  · exact ⟨run_firstCells_some w' k m _ m cap news hl (fun j u hu => by rw [hw, Addr.add_lit]; exact hc j u hu), by simp [Builtin.lenOf]⟩

/-- What is appended: a slice's cells, or a string's bytes. -/
structure Src (P : Program) (w : World) (k m : Nat) (u : TypeId) (yv : Value) (news : List Value) : Prop where
  ty : (∃ e, P.underlying u = some (.slice e)) ∨ P.underlying u = some .string
  len : ∀ w' : World, (∀ a, w'.cell? a = w.cell? a) → (Builtin.lenOf yv).run P w' = .ok m w'
  first : ∀ w' : World, (∀ a, w'.cell? a = w.cell? a) → (Builtin.firstCells k m yv).run P w' = .ok news.toArray w'

theorem Src.of_slice {k m : Nat} {u e : TypeId} {yv : Value} {news : List Value} (hu : P.underlying u = some (.slice e))
    (hy : ((yv = .slice none 0 0 ∨ ∃ a, yv = .slice (some a) 0 0) ∧ m = 0 ∧ news = []) ∨ ∃ g p cap, yv = .slice (some ⟨g, p, none⟩) m cap ∧ news.length = m * k ∧ ∀ j u, news[j]? = some u → w.cell? ⟨g, p + j, none⟩ = some u) :
    Src P w k m u yv news := by
  refine ⟨.inl ⟨e, hu⟩, fun w' hw => (append_firsts hw hy).2, fun w' hw => (append_firsts hw hy).1⟩

theorem Src.of_str {u : TypeId} (hu : P.underlying u = some .string) (s : List UInt8) : Src P w 1 s.length u (.string ⟨s.toArray⟩) (s.map fun b => .int .u8 b.toNat) := by
  have hz : (⟨s.toArray⟩ : ByteArray).size = s.length := by simp [ByteArray.size]
  refine ⟨.inr hu, fun w' _ => by simp [Builtin.lenOf, hz], fun w' _ => ?_⟩
  have he : (⟨s.toArray⟩ : ByteArray).extract 0 s.length = ⟨s.toArray⟩ := by
    rw [← hz]; exact ByteArray.extract_zero_size
  simp only [Builtin.firstCells, he, Sem.run_pure]
  congr 1
  simp

theorem run_append_nil_src {t u ty e : TypeId} {i : TypeInfo} {z : Value} (ht : P.underlying t = some (.slice e)) (hi : P.info? e = some i) (hz : i.zero = some z) {m : Nat} {yv : Value} {news : List Value}
    (hs : Src P w i.size m u yv news) (h0 : 0 < m) (h63 : (m : Int) ≤ 9223372036854775807) (h48 : m * i.bytes ≤ 281474976710656) :
    (Builtin.append_ #[t, u] ty #[.slice none 0 0, yv]).run P w =
      .ok (.slice (some ⟨w.heap.size, 0, none⟩) m (grownCap w m 0 e)) (w.drew.alloc (.cells (news.toArray ++ Builtin.zeroCells z.cells (grownCap w m 0 e - m)) e)) := by
  have hn : m ≠ 0 := by omega
  have h63' : ¬ (9223372036854775807 < (m : Int)) := by omega
  have h48' : ¬ (281474976710656 < Builtin.nextslicecap m 0 * i.bytes) := by rw [nextslicecap_zero h0]; omega
  have hl := hs.len w (fun _ => rfl)
  have hf := hs.first w.drew (fun _ => rfl)
  rcases hs.ty with ⟨e', hu⟩ | hu
  · simp [Builtin.append_, run_underlying ht, run_underlying hu, sizeOf, typeInfo, zeroValue, hi, hz, hl, hn, h63', h48', Question.forced, run_firstCells_none, hf, newRow, grownCap]
  · simp [Builtin.append_, run_underlying ht, run_underlying hu, sizeOf, typeInfo, zeroValue, hi, hz, hl, hn, h63', h48', Question.forced, run_firstCells_none, hf, newRow, grownCap]

theorem run_append_none_src {t u ty e : TypeId} {i : TypeInfo} (ht : P.underlying t = some (.slice e)) (hi : P.info? e = some i) {yv : Value}
    (hs : Src P w i.size 0 u yv []) : (Builtin.append_ #[t, u] ty #[.slice none 0 0, yv]).run P w = .ok (.slice none 0 0) w := by
  have hl := hs.len w (fun _ => rfl)
  have hf := hs.first w (fun _ => rfl)
  rcases hs.ty with ⟨e', hu⟩ | hu
  · simp [Builtin.append_, run_underlying ht, run_underlying hu, sizeOf, typeInfo, hi, hl, hf]
  · simp [Builtin.append_, run_underlying ht, run_underlying hu, sizeOf, typeInfo, hi, hl, hf]

theorem run_append_none_src' {t u ty e : TypeId} {i : TypeInfo} (ht : P.underlying t = some (.slice e)) (hi : P.info? e = some i) {yv : Value} {a : Addr} {n c : Nat} (hc : n ≤ c)
    (hs : Src P w i.size 0 u yv []) : (Builtin.append_ #[t, u] ty #[.slice (some a) n c, yv]).run P w = .ok (.slice (some a) n c) w := by
  have hl := hs.len w (fun _ => rfl)
  have hf := hs.first w (fun _ => rfl)
  rcases hs.ty with ⟨e', hu⟩ | hu
  · simp [Builtin.append_, run_underlying ht, run_underlying hu, sizeOf, typeInfo, hi, hl, hf, hc, storeCells]
  · simp [Builtin.append_, run_underlying ht, run_underlying hu, sizeOf, typeInfo, hi, hl, hf, hc, storeCells]

theorem run_append_grow_src {t u ty e : TypeId} {i : TypeInfo} {z : Value} (ht : P.underlying t = some (.slice e)) (hi : P.info? e = some i) (hz : i.zero = some z)
    (b : Addr) (sLen sCap : Nat) (olds : List Value) (hlo : olds.length = sLen * i.size) (holds : ∀ j v, olds[j]? = some v → w.cell? (b.add j) = some v)
    {n : Nat} {yv : Value} {news : List Value} (hs : Src P w i.size n u yv news)
    (hg : sCap < sLen + n) (h63 : ((sLen + n : Nat) : Int) ≤ 9223372036854775807) (hfit : Builtin.nextslicecap (sLen + n) sCap * i.bytes ≤ 281474976710656) :
    (Builtin.append_ #[t, u] ty #[.slice (some b) sLen sCap, yv]).run P w =
      .ok (.slice (some ⟨w.heap.size, 0, none⟩) (sLen + n) (grownCap w (sLen + n) sCap e))
        (w.drew.alloc (.cells (olds.toArray ++ news.toArray ++ Builtin.zeroCells z.cells (grownCap w (sLen + n) sCap e - (sLen + n))) e)) := by
  have hn : ¬ (sLen + n ≤ sCap) := by omega
  have h63' : ¬ (9223372036854775807 < ((sLen : Int) + (n : Int))) := by omega
  have h48' : ¬ (281474976710656 < Builtin.nextslicecap (sLen + n) sCap * i.bytes) := by omega
  have hl := hs.len w (fun _ => rfl)
  have hf := hs.first w.drew (fun _ => rfl)
  have hfo := run_firstCells_some (P := P) w.drew i.size sLen b sLen sCap olds hlo (by simpa using holds)
  rcases hs.ty with ⟨e', hu⟩ | hu
  · simp [Builtin.append_, run_underlying ht, run_underlying hu, sizeOf, typeInfo, zeroValue, hi, hz, hl, hn, h63', h48', Question.forced, hf, hfo, newRow, grownCap]
    congr 2
    apply Array.ext'
    simp [List.append_assoc]
  · simp [Builtin.append_, run_underlying ht, run_underlying hu, sizeOf, typeInfo, zeroValue, hi, hz, hl, hn, h63', h48', Question.forced, hf, hfo, newRow, grownCap]
    congr 2
    apply Array.ext'
    simp [List.append_assoc]

/-- New rows: what was there, what comes, and room. -/
theorem rowOK_new {w' : World} {M' : AMap} {n b k g o : Nat} {cur : Array Value} {ys : List AV} {cells : List Value} (he : Elems k ys) (hM : M' b = some (g, o)) (hC : Cells w' g cur) (hI : ¬ I g) (hlen : o + ys.length * k ≤ cur.size)
    (hcur : ∀ j, j < ys.length * k → cur[o + j]? = cells[j]?) (hcl : cells.length = ys.length * k) (hr : ∀ i j x c, ys[i]? = some x → x.cells[j]? = some c → ∃ u, cells[i * k + j]? = some u ∧ Rel w' M' I n c u) : BlkOK w' M' I n b (.row k ys) := by
  refine ⟨he, .inr ⟨g, o, cur, hM, hC, hI, hlen, fun i j x c hi hj => ?_⟩⟩
  obtain ⟨u, hu, hru⟩ := hr i j x c hi hj
  have := (List.getElem?_eq_some_iff.1 hu).1
  exact ⟨u, by rw [Nat.add_assoc, hcur _ (by omega)]; exact hu, hru⟩

theorem Sim.glob_more (hS : Sim GT w M I H) (p : Option (Nat × Nat)) : ∀ g x, GT g = some x → Rel w (more M H.length p) I 0 (.lref x 0) (.pointer (some ⟨g, 0, none⟩)) :=
  fun g x hg => (hS.glob g x hg).free (by simp [AV.noRef, AV.bel])

/-- What 'append' comes to where nothing was there. -/
theorem append_nil_src (hS : Sim GT w M I H) {t u ty e : TypeId} {i : TypeInfo} {z : Value} {k bytes : Nat} (ht : P.underlying t = some (.slice e)) (hi : P.info? e = some i) (hk : i.size = k) (hb : i.bytes = bytes) (hz : i.zero = some z) (hzc : z.cells.size = k) (hk0 : 0 < k)
    {yv : Value} {ys : List AV} {news : List Value} (he : Elems k ys) (hsrc : Src P w k ys.length u yv news) (n1 : news.length = ys.length * k) (n4 : ∀ i j x c, ys[i]? = some x → x.cells[j]? = some c → ∃ u, news[i * k + j]? = some u ∧ Rel w M I H.length c u)
    (h1 : ys.length ≤ 9223372036854775807) (h2 : ys.length * bytes ≤ 140737488355328) (q : Option Bool) (hq : q ≠ some false) :
    RunsTo P GT w M I H (Builtin.append_ #[t, u] ty #[.slice none 0 0, yv]) (.sl q H.length k 0 ys.length) (H ++ [.row k ys]) := by
  by_cases hemp : ys = []
  · subst hemp
    obtain rfl : news = [] := List.eq_nil_of_length_eq_zero (by simpa using n1)
    subst hk
    have hrun := run_append_none_src (ty := ty) ht hi hsrc
    obtain ⟨G, S⟩ := hS.pushNone (blk := .row i.size []) (fun _ => ⟨fun _ h => absurd h (by simp), .inl ⟨more_new, rfl⟩⟩) (.inr rfl)
    exact ⟨_, w, _, I, hrun, G, S, .sln q H.length _ 0 (by simp) more_new hq⟩
  · have hpos : 0 < ys.length := List.length_pos_iff.2 hemp
    subst hk hb
    have hr := run_append_nil_src (ty := ty) ht hi hz hsrc hpos (by omega) (by omega)
    have hge := grownCap_ge w ys.length 0 e
    have hcm' : grownCap w ys.length 0 e ≤ maxLen := grownCap_le_maxLen w ys.length 0 e (by simp only [maxLen]; omega)
    have hsize : (news.toArray ++ Builtin.zeroCells z.cells (grownCap w ys.length 0 e - ys.length)).size = grownCap w ys.length 0 e * i.size := by
      simp only [Array.size_append, List.size_toArray, size_zeroCells, hzc, n1, ← Nat.add_mul]
      congr 1; omega
    have hheap : (w.drew.alloc (.cells (news.toArray ++ Builtin.zeroCells z.cells (grownCap w ys.length 0 e - ys.length)) e)).heap = w.heap.push (.cells (news.toArray ++ Builtin.zeroCells z.cells (grownCap w ys.length 0 e - ys.length)) e) := rfl
    have R : ∀ {c v}, Rel w M I H.length c v → c.noRef = true → Rel (w.drew.alloc (.cells (news.toArray ++ Builtin.zeroCells z.cells (grownCap w ys.length 0 e - ys.length)) e)) (more M H.length (some (w.heap.size, 0))) I (H.length + 1) c v := fun h hn => by
      have := (Sim.push (blk := .dead) hS hheap rfl rfl rfl trivial).1.rel hS h
      simpa using this
    obtain ⟨G, S⟩ := hS.push (blk := .row i.size ys) hheap rfl rfl rfl (rowOK_new (cells := news) (o := 0) he more_new ⟨e, (0, 0), by rw [hheap, Array.getElem?_push, if_pos rfl], fun j _ h => absurd h.2 (Nat.not_lt_zero _)⟩
      (fun h => absurd (hS.idom _ h) (Nat.lt_irrefl _)) (by rw [hsize]; simpa using Nat.mul_le_mul_right _ hge)
      (fun j hj => by rw [Nat.zero_add, Array.getElem?_append_left (by simp; omega)]; simp) n1 (fun a j x c hx hj => by
        obtain ⟨u, h1, h2⟩ := n4 a j x c hx hj
        exact ⟨u, h1, R h2 (AV.noRef_cells (AV.elem_iff.1 (he x (List.mem_of_getElem? hx))).2.1 hj)⟩))
    refine ⟨_, _, _, I, hr, G, S, ?_⟩
    exact .sl q H.length i.size 0 ys.length w.heap.size 0 0 _ (by simp) more_new hge hcm' (fun _ => hpos) (fun _ => ⟨by simp, e, _, by simp [World.shape?, hheap]; rfl, by have h := hsize; rw [Array.size_append, List.size_toArray] at h; simp only [Nat.zero_add]; omega⟩)

/-- The cells of a slice that is appended. -/
theorem src_of_view (hS : Sim GT w M I H) {u e : TypeId} (hu : P.underlying u = some (.slice e)) {k : Nat} {yv : Value} {y : AV} (hy : Rel w M I H.length y yv) {ys : List AV} (hv : view H k y = some ys) :
    Elems k ys ∧ ∃ news : List Value, Src P w k ys.length u yv news ∧ news.length = ys.length * k ∧ (∀ u ∈ news, u.oneCell' = true) ∧ ∀ i j x c, ys[i]? = some x → x.cells[j]? = some c → ∃ u, news[i * k + j]? = some u ∧ Rel w M I H.length c u := by
  obtain ⟨he, hyv⟩ := view_sound hS hy hv
  refine ⟨he, ?_⟩
  rcases hyv with ⟨hyv, rfl⟩ | ⟨g1, p1, cap1, rfl, _, _, hr1⟩
  · exact ⟨[], .of_slice hu (.inl ⟨hyv, rfl, rfl⟩), by simp, by simp, by simp⟩
  · obtain ⟨news, n1, n2, n3, n4⟩ := hr1.flat he
    exact ⟨news, .of_slice hu (.inr ⟨g1, p1, cap1, rfl, n1, n2⟩), n1, n3, n4⟩

theorem append_nil_sound (hS : Sim GT w M I H) {t ty e : TypeId} {i : TypeInfo} {z : Value} {k bytes : Nat} (ht : P.underlying t = some (.slice e)) (hi : P.info? e = some i) (hk : i.size = k) (hb : i.bytes = bytes) (hz : i.zero = some z) (hzc : z.cells.size = k) (hk0 : 0 < k)
    {yv : Value} {y : AV} (hy : Rel w M I H.length y yv) {ys : List AV} (hv : view H k y = some ys) (h1 : ys.length ≤ 9223372036854775807) (h2 : ys.length * bytes ≤ 140737488355328) (q : Option Bool) (hq : q ≠ some false) :
    RunsTo P GT w M I H (Builtin.append_ #[t, t] ty #[.slice none 0 0, yv]) (.sl q H.length k 0 ys.length) (H ++ [.row k ys]) := by
  obtain ⟨he, news, hs, n1, _, n4⟩ := src_of_view hS ht hy hv
  exact append_nil_src hS ht hi hk hb hz hzc hk0 he hs n1 n4 h1 h2 q hq

/-- 'append' to a row of one's own. -/
theorem append_row_src (hS : Sim GT w M I H) {t u ty e : TypeId} {i : TypeInfo} {z : Value} {k bytes : Nat} (ht : P.underlying t = some (.slice e)) (hi : P.info? e = some i) (hk : i.size = k) (hb : i.bytes = bytes) (hz : i.zero = some z) (hzc : z.cells.size = k) (hk0 : 0 < k)
    {yv s : Value} {ys xs : List AV} {news : List Value} (he : Elems k ys) (hsrc : Src P w k ys.length u yv news) (n1 : news.length = ys.length * k) (n3 : ∀ u ∈ news, u.oneCell' = true) (n4 : ∀ i j x c, ys[i]? = some x → x.cells[j]? = some c → ∃ u, news[i * k + j]? = some u ∧ Rel w M I H.length c u) {q : Option Bool} {b off len : Nat} (hs : Rel w M I H.length (.sl q b k off len) s) (hx : H[b]? = some (.row k xs)) (hle : off + len ≤ xs.length)
    (h1 : len + ys.length ≤ 9223372036854775807) (h2 : (len + ys.length) * bytes ≤ 140737488355328) :
    RunsTo P GT w M I H (Builtin.append_ #[t, u] ty #[s, yv]) (.sl q H.length k 0 (len + ys.length)) (H.set b .dead ++ [.row k ((xs.drop off).take len ++ ys)]) := by
  have hbl : b < H.length := (List.getElem?_eq_some_iff.1 hx).1
  cases hs with
  | sln _ _ _ _ hbn hM hq =>
    obtain ⟨Gk, Sk⟩ := hS.kill b
    simp only [List.take_zero, List.nil_append, Nat.zero_add]
    rw [show H.length = (H.set b .dead).length by simp]
    obtain ⟨v', w', M', I', r, G, S, R⟩ := append_nil_src (P := P) (ty := ty) Sk ht hi hk hb hz hzc hk0 he hsrc n1 (fun i j x c hi hj => let ⟨u, a, b⟩ := n4 i j x c hi hj; ⟨u, a, by simpa using b⟩) (by simpa using h1) (by simpa using h2) q hq
    exact ⟨v', w', M', I', r, Gk.trans G, S, R⟩
  | sl _ _ _ _ _ g o p cap hbn hM hc hm hq ha =>
    obtain ⟨hex, ⟨h1', _⟩ | ⟨g', o', cur, h1', h2', h3, h4, h5⟩⟩ := hS.blk b _ hx
    · rw [hM] at h1'; cases h1'
    rw [hM] at h1'; simp only [Option.some.injEq, Prod.mk.injEq] at h1'; obtain ⟨rfl, rfl⟩ := h1'
    have hrow : RowAt w M I H.length g o k xs := fun i j x c hi hj => let ⟨u, a, b⟩ := h5 i j x c hi hj; ⟨u, by rw [h2'.cell?]; exact a, b⟩
    have hcut := hrow.cut off len
    have hec := elems_cut hex off len
    have hlen : ((xs.drop off).take len).length = len := by simp; omega
    obtain ⟨olds, o1, o2, o3, o4⟩ := hcut.flat hec
    rw [hlen] at o1
    have hall : ∀ (cells : List Value), cells = olds ++ news → ∀ i j x c, ((xs.drop off).take len ++ ys)[i]? = some x → x.cells[j]? = some c → ∃ u, cells[i * k + j]? = some u ∧ Rel w M I H.length c u ∧ c.noRef = true := by
      rintro cells rfl i j x c hi hj
      by_cases hil : i < len
      · rw [List.getElem?_append_left (by omega)] at hi
        obtain ⟨u, a, r⟩ := o4 i j x c hi hj
        have := (List.getElem?_eq_some_iff.1 a).1
        exact ⟨u, by rw [List.getElem?_append_left this]; exact a, r, AV.noRef_cells (AV.elem_iff.1 (hec x (List.mem_of_getElem? hi))).2.1 hj⟩
      · rw [List.getElem?_append_right (by omega), hlen] at hi
        obtain ⟨u, a, r⟩ := n4 _ j x c hi hj
        refine ⟨u, ?_, r, AV.noRef_cells (AV.elem_iff.1 (he x (List.mem_of_getElem? hi))).2.1 hj⟩
        have hik : len * k ≤ i * k := Nat.mul_le_mul_right _ (by omega)
        rw [List.getElem?_append_right (by omega), o1, ← a]
        congr 1
        rw [Nat.sub_mul]; omega
    have heall : Elems k ((xs.drop off).take len ++ ys) := fun x hx => by
      rcases List.mem_append.1 hx with hx | hx
      · exact hec x hx
      · exact he x hx
    have hcl : (olds ++ news).length = ((xs.drop off).take len ++ ys).length * k := by rw [List.length_append, List.length_append, o1, n1, hlen, Nat.add_mul]
    have hall' : ((xs.drop off).take len ++ ys).length = len + ys.length := by rw [List.length_append, hlen]
    by_cases hroom : len + ys.length ≤ cap
    · -- there is room
      obtain ⟨e', fz, hg, hfz⟩ := h2'
      have hf : (Builtin.firstCells k ys.length yv).run P w = .ok news.toArray w ∧ (Builtin.lenOf yv).run P w = .ok ys.length w := ⟨hsrc.first w (fun _ => rfl), hsrc.len w (fun _ => rfl)⟩
      have hlt := (Array.getElem?_eq_some_iff.1 hg).1
      have hfit : o + off * k + len * k + news.length ≤ cur.size ∨ news = [] := by
        rcases Nat.eq_zero_or_pos cap with h0 | h0
        · right
          exact List.eq_nil_of_length_eq_zero (by rw [n1, show ys.length = 0 by omega, Nat.zero_mul])
        · left
          obtain ⟨_, e1, sz, hsh, hsz⟩ := ha h0
          simp only [World.shape?, hg, Option.some.injEq, Prod.mk.injEq] at hsh
          obtain ⟨_, rfl⟩ := hsh
          have : (off + (len + ys.length)) * k ≤ (off + cap) * k := Nat.mul_le_mul_right _ (by omega)
          rw [Nat.add_mul, Nat.add_mul] at this
          rw [n1]; omega
      have hbase : o + off * k + len * k ≤ cur.size := by
        have : (off + len) * k ≤ xs.length * k := Nat.mul_le_mul_right _ hle
        rw [Nat.add_mul] at this; omega
      obtain ⟨cur', w', r1, r2, r3, r4, r5, r6, r7, r8⟩ : ∃ (cur' : Array Value) (w' : World), (storeCells ⟨g, p + len * k, none⟩ news 0).run P w = .ok () w' ∧ w'.heap = w.heap.setIfInBounds g (.cells cur' e' fz) ∧ w'.os = w.os ∧ w'.tape = w.tape ∧ w'.output = w.output ∧
          cur'.size = cur.size ∧ (∀ j, j < news.length → cur'[o + off * k + len * k + j]? = news[j]?) ∧ (∀ j, (j < o + off * k + len * k ∨ o + off * k + len * k + news.length ≤ j) → cur'[j]? = cur[j]?) := by
        rcases hfit with hfit | rfl
        · rcases Nat.eq_zero_or_pos cap with h0 | h0
          · obtain rfl : news = [] := List.eq_nil_of_length_eq_zero (by rw [n1, show ys.length = 0 by omega, Nat.zero_mul])
            obtain ⟨cur', w', r1, r2, r3, r4, r5, r6, r7, r8⟩ := storeCells_free (P := P) g (o + off * k + len * k) e' fz [] 0 cur w hg hfz (by simpa using hbase) (by simp)
            exact ⟨cur', w', by simpa [storeCells] using r1, r2, r3, r4, r5, r6, by simp, fun j hj => r8 j (by simpa using hj)⟩
          · obtain ⟨rfl, _⟩ := ha h0
            obtain ⟨cur', w', r1, r2, r3, r4, r5, r6, r7, r8⟩ := storeCells_free (P := P) g (o + off * k + len * k) e' fz news 0 cur w hg hfz (by omega) n3
            exact ⟨cur', w', r1, r2, r3, r4, r5, r6, fun j hj => by simpa using r7 j hj, fun j hj => r8 j (by simpa using hj)⟩
        · obtain ⟨cur', w', r1, r2, r3, r4, r5, r6, r7, r8⟩ := storeCells_free (P := P) g (o + off * k + len * k) e' fz [] 0 cur w hg hfz (by simpa using hbase) (by simp)
          exact ⟨cur', w', by simpa [storeCells] using r1, r2, r3, r4, r5, r6, by simp, fun j hj => r8 j (by simpa using hj)⟩
      have hrun : (Builtin.append_ #[t, u] ty #[.slice (some ⟨g, p, none⟩) len cap, yv]).run P w = .ok (.slice (some ⟨g, p, none⟩) (len + ys.length) cap) w' := by
        have hp : (⟨g, p, none⟩ : Addr).add (len * k) = ⟨g, p + len * k, none⟩ := Addr.add_lit _ _ _
        subst hk
        rcases hsrc.ty with ⟨e', hu⟩ | hu
        · simp [Builtin.append_, run_underlying ht, run_underlying hu, sizeOf, typeInfo, hi, hf.1, hf.2, hroom, hp, r1]
        · simp [Builtin.append_, run_underlying ht, run_underlying hu, sizeOf, typeInfo, hi, hf.1, hf.2, hroom, hp, r1]
      have hlt' : w'.heap[g]? = some (.cells cur' e' fz) := by rw [r2, Array.getElem?_setIfInBounds, if_pos rfl, if_pos hlt]
      obtain ⟨G0, S0⟩ := Sim.write (w' := w') (y := .dead) hS hx rfl hM hg r6 r2 r3 r4 r5 trivial
      have R : ∀ {c v}, Rel w M I H.length c v → c.noRef = true → Rel w' (more M H.length (some (g, o + off * k))) I (H.length + 1) c v := fun h hn => (G0.rel hS h).free hn
      obtain ⟨G, S⟩ := Sim.regrow (w' := w') (o2 := o + off * k) (y := .row k ((xs.drop off).take len ++ ys)) hS hx rfl hM hg r6 r2 r3 r4 r5
        (rowOK_new (cells := olds ++ news) heall more_new ⟨e', fz, hlt', by rw [r6]; exact hfz⟩ h3 (by
          rw [hall', Nat.add_mul, r6]
          rcases hfit with h | h
          · omega
          · rw [h] at n1; simp at n1; rw [← n1]; omega) (fun j hj => by
          rw [hall', Nat.add_mul] at hj
          by_cases hjl : j < len * k
          · rw [r8 _ (by omega), List.getElem?_append_left (by omega)]
            obtain ⟨u, hu⟩ : ∃ u, olds[j]? = some u := ⟨_, List.getElem?_eq_getElem (by omega)⟩
            have := o2 j u hu
            rw [hu, ← this]
            simp [World.cell?, hg]
          · rw [List.getElem?_append_right (by omega), o1]
            have := r7 (j - len * k) (by omega)
            rw [← this]; congr 1; omega) hcl (fun a j x c hx hj => by
          obtain ⟨u, h1, h2, h3⟩ := hall _ rfl a j x c hx hj
          exact ⟨u, h1, R h2 h3⟩))
      refine ⟨_, w', _, I, hrun, G, S, .sl q H.length k 0 _ g (o + off * k) p cap (by simp) more_new hroom hm (fun h => by have := hq h; omega) (fun h0 => ?_)⟩
      obtain ⟨rfl, e1, sz, hsh, hsz⟩ := ha h0
      refine ⟨by simp, e', cur'.size, by simp [World.shape?, hlt'], ?_⟩
      simp only [World.shape?, hg, Option.some.injEq, Prod.mk.injEq] at hsh
      obtain ⟨_, rfl⟩ := hsh
      rw [r6, Nat.zero_add, Nat.add_assoc, ← Nat.add_mul]
      exact hsz
    · -- it grows
      have hpos : 0 < ys.length := by omega
      have hpo : len = 0 ∨ p = o + off * k := by
        rcases Nat.eq_zero_or_pos cap with h0 | h0
        · left; omega
        · exact .inr (ha h0).1
      subst hk hb
      have hr := run_append_grow_src (P := P) (ty := ty) ht hi hz ⟨g, p, none⟩ len cap olds o1 (fun j u hu => by
          rw [Addr.add_lit]
          rcases hpo with h0 | rfl
          · have := (List.getElem?_eq_some_iff.1 hu).1
            rw [o1, h0] at this; simp at this
          · exact o2 j u hu) hsrc (by omega) (by omega) (growslice_fits (by omega) h2)
      have hge := grownCap_ge w (len + ys.length) cap e
      have hcm' : grownCap w (len + ys.length) cap e ≤ maxLen := grownCap_le_maxLen w _ cap e (by simp only [maxLen]; omega)
      generalize hgc : grownCap w (len + ys.length) cap e = gc at hr hge hcm'
      have hsize : (olds.toArray ++ news.toArray ++ Builtin.zeroCells z.cells (gc - (len + ys.length))).size = gc * i.size := by
        simp only [Array.size_append, List.size_toArray, size_zeroCells, hzc, n1, o1, ← Nat.add_mul]
        congr 1; omega
      generalize hcur' : olds.toArray ++ news.toArray ++ Builtin.zeroCells z.cells (gc - (len + ys.length)) = cur1 at hr hsize
      have hheap : (w.drew.alloc (.cells cur1 e)).heap = w.heap.push (.cells cur1 e) := rfl
      obtain ⟨Gk, Sk⟩ := hS.kill b
      have hlk : (H.set b .dead).length = H.length := by simp
      have R : ∀ {c v}, Rel w M I H.length c v → c.noRef = true → Rel (w.drew.alloc (.cells cur1 e)) (more M (H.set b .dead).length (some (w.heap.size, 0))) I ((H.set b .dead).length + 1) c v := fun h hn => by
        have := (Sim.push (blk := .dead) Sk hheap rfl rfl rfl trivial).1.rel Sk (by simpa using h)
        simpa using this
      obtain ⟨G, S⟩ := Sk.push (blk := .row i.size ((xs.drop off).take len ++ ys)) hheap rfl rfl rfl (rowOK_new (cells := olds ++ news) (o := 0) heall more_new ⟨e, (0, 0), by rw [hheap, Array.getElem?_push, if_pos rfl], fun j _ h => absurd h.2 (Nat.not_lt_zero _)⟩
        (fun h => absurd (hS.idom _ h) (Nat.lt_irrefl _)) (by rw [hsize, hall']; simpa using Nat.mul_le_mul_right _ hge)
        (fun j hj => by
          rw [← hcl] at hj
          rw [Nat.zero_add, ← hcur', Array.getElem?_append_left (by simpa using hj)]
          simp) hcl (fun a j x c hx hj => by
          obtain ⟨u, h1, h2, h3⟩ := hall _ rfl a j x c hx hj
          exact ⟨u, h1, R h2 h3⟩))
      refine ⟨_, _, _, I, hr, Gk.trans G, S, ?_⟩
      exact .sl q H.length i.size 0 _ w.heap.size 0 0 gc (by simp) (by rw [hlk]; exact more_new) hge hcm' (fun h => by have := hq h; omega) (fun _ => ⟨by simp, e, cur1.size, by simp [World.shape?, hheap], by rw [hsize]; simp⟩)

theorem append_row_sound (hS : Sim GT w M I H) {t ty e : TypeId} {i : TypeInfo} {z : Value} {k bytes : Nat} (ht : P.underlying t = some (.slice e)) (hi : P.info? e = some i) (hk : i.size = k) (hb : i.bytes = bytes) (hz : i.zero = some z) (hzc : z.cells.size = k) (hk0 : 0 < k)
    {yv s : Value} {y : AV} (hy : Rel w M I H.length y yv) {ys xs : List AV} (hv : view H k y = some ys) {q : Option Bool} {b off len : Nat} (hs : Rel w M I H.length (.sl q b k off len) s) (hx : H[b]? = some (.row k xs)) (hle : off + len ≤ xs.length)
    (h1 : len + ys.length ≤ 9223372036854775807) (h2 : (len + ys.length) * bytes ≤ 140737488355328) :
    RunsTo P GT w M I H (Builtin.append_ #[t, t] ty #[s, yv]) (.sl q H.length k 0 (len + ys.length)) (H.set b .dead ++ [.row k ((xs.drop off).take len ++ ys)]) := by
  obtain ⟨he, news, hsrc, n1, n3, n4⟩ := src_of_view hS ht hy hv
  exact append_row_src hS ht hi hk hb hz hzc hk0 he hsrc n1 n3 n4 hs hx hle h1 h2

end
end Go.AM

/- The abstract machine, part 8: every abstract step is what the model does. Own work. -/
set_option linter.all false
namespace Go.AM

section
variable {P : Program} {GT : Nat → Option AV} {w : World} {M : AMap} {I : Nat → Prop} {H : Heap}

theorem aBounds_sound {l : Nat} {lo hi : Option AV} {vlo vhi : Option Value} (hlo : ∀ a v, lo = some a → vlo = some v → Rel w M I H.length a v) (hhi : ∀ a v, hi = some a → vhi = some v → Rel w M I H.length a v)
    (h1 : lo.isSome = vlo.isSome) (h2 : hi.isSome = vhi.isSome) {a b : Nat} (h : aBounds l lo hi = some (a, b)) (isSlice : Bool) (cap : Nat) (hc : l ≤ cap) :
    (Instr.sliceBounds isSlice l cap vlo vhi none).run P w = .ok (a, b, cap) w ∧ a ≤ b ∧ b ≤ l := by
  have hB : ∀ k (i : Int) (y : Nat) (code : BoundsCode), 0 ≤ i → i ≤ y → (Instr.sliceBound (.int k i) y code).run P w = .ok i.toNat w := fun k i y code a b => run_sliceBound w k i y code a b
  obtain ⟨hh0, hl0⟩ : aHi l hi = some b ∧ aLo b lo = some a := by
    unfold aBounds at h
    split at h
    · cases h
    · split at h
      · cases h
      · simp only [Option.some.injEq, Prod.mk.injEq] at h
        obtain ⟨rfl, rfl⟩ := h
        exact ⟨‹_›, ‹_›⟩
  have hh : (vhi = none ∧ b = l) ∨ ∃ k n, vhi = some (.int k n) ∧ 0 ≤ n ∧ n ≤ (l : Int) ∧ b = n.toNat := by
    cases hi with
    | none =>
      simp only [aHi, Option.some.injEq] at hh0
      left; exact ⟨by cases vhi <;> simp at h2 ⊢, hh0.symm⟩
    | some x =>
      cases hv : vhi with
      | none => rw [hv] at h2; simp at h2
      | some v =>
        have hr := hhi x v rfl hv
        right
        cases x <;> simp only [aHi, reduceCtorEq] at hh0
        split at hh0
        · rename_i hn
          simp only [Option.some.injEq] at hh0
          cases hr
          exact ⟨_, _, rfl, hn.1, hn.2, hh0.symm⟩
        · cases hh0
  have hbl : b ≤ l := by rcases hh with ⟨_, rfl⟩ | ⟨_, n, _, _, _, rfl⟩ <;> omega
  have hlo2 : (vlo = none ∧ a = 0) ∨ ∃ k n, vlo = some (.int k n) ∧ 0 ≤ n ∧ n ≤ (b : Int) ∧ a = n.toNat := by
    cases lo with
    | none =>
      simp only [aLo, Option.some.injEq] at hl0
      left; exact ⟨by cases vlo <;> simp at h1 ⊢, hl0.symm⟩
    | some x =>
      cases hv : vlo with
      | none => rw [hv] at h1; simp at h1
      | some v =>
        have hr := hlo x v rfl hv
        right
        cases x <;> simp only [aLo, reduceCtorEq] at hl0
        split at hl0
        · rename_i hn
          simp only [Option.some.injEq] at hl0
          cases hr
          exact ⟨_, _, rfl, hn.1, hn.2, hl0.symm⟩
        · cases hl0
  refine ⟨?_, ?_, hbl⟩
  · unfold Instr.sliceBounds
    rcases hh with ⟨rfl, rfl⟩ | ⟨k, n, rfl, n0, n1, rfl⟩
    · rcases hlo2 with ⟨rfl, rfl⟩ | ⟨k', n', rfl, m0, m1, rfl⟩
      · simp
      · simp [hB k' n' b .sliceB m0 m1]
    · have hb1 := hB k n cap (if isSlice then .sliceAcap else .sliceAlen) n0 (by omega)
      rcases hlo2 with ⟨rfl, rfl⟩ | ⟨k', n', rfl, m0, m1, rfl⟩
      · simp [hb1]
      · have hb2 := hB k' n' n.toNat .sliceB m0 (by omega)
        simp [hb1, hb2]
  · rcases hlo2 with ⟨_, rfl⟩ | ⟨_, n', _, _, m1, rfl⟩ <;> omega

theorem cut_str {s : List UInt8} {l h : Nat} : (⟨s.toArray⟩ : ByteArray).extract l h = ⟨((s.take h).drop l).toArray⟩ := by
  apply ByteArray.ext
  simp [ByteArray.data_extract, List.extract_toArray, List.extract_eq_take_drop, List.drop_take]

def slcOK (P : Program) (t : TypeId) : Option Nat → Prop
  | none => isStr P t = true
  | some k => isSliceOf P t k = true

theorem slice_sound (hS : Sim GT w M I H) {t : TypeId} {k : Option Nat} {x v : AV} {xv : Value} {lo hi : Option AV} {vlo vhi : Option Value} (hx : Rel w M I H.length x xv)
    (hlo : ∀ a v, lo = some a → vlo = some v → Rel w M I H.length a v) (hhi : ∀ a v, hi = some a → vhi = some v → Rel w M I H.length a v) (h1 : lo.isSome = vlo.isSome) (h2 : hi.isSome = vhi.isSome)
    (hk : slcOK P t k) (h : aSlice k x lo hi = some v) : RunsTo P GT w M I H (Instr.sliceAt t xv vlo vhi none) v H := by
  unfold aSlice at h
  split at h
  · -- a string
    rename_i s
    obtain ⟨⟨a, b⟩, hb, rfl⟩ := Option.map_eq_some_iff.1 h
    cases hx
    have ht : P.underlying t = some .string := by
      simp only [slcOK, isStr] at hk
      split at hk
      · assumption
      · cases hk
    obtain ⟨r, hab, hbl⟩ := aBounds_sound (P := P) hlo hhi h1 h2 hb false s.length (Nat.le_refl _)
    refine RunsTo.pure hS (v' := .string ⟨((s.take b).drop a).toArray⟩) ?_ (.str _)
    simp only [Instr.sliceAt, Sem.run_bind, run_underlying ht, Result.andThen_ok]
    simp [Instr.slice, run_underlying ht, sizeB', r, cut_str]
  · -- an immutable slice
    rename_i k q k' xs
    split at h
    · rename_i hkk
      obtain ⟨⟨a, b⟩, hb, rfl⟩ := Option.map_eq_some_iff.1 h
      obtain ⟨e, ht, hse⟩ : ∃ e, P.underlying t = some (.slice e) ∧ sizeB P e = some k := by
        simp only [slcOK, isSliceOf] at hk
        split at hk
        · rename_i e he; exact ⟨e, he, by simpa using hk⟩
        · cases hk
      cases hx with
      | lnil _ _ hq =>
        obtain ⟨r, hab, hbl⟩ := aBounds_sound (P := P) hlo hhi h1 h2 hb true 0 (Nat.le_refl _)
        simp at hbl
        obtain rfl : b = 0 := by omega
        obtain rfl : a = 0 := by omega
        refine RunsTo.pure hS (v' := .slice none 0 0) ?_ ?_
        · simp only [Instr.sliceAt, Sem.run_bind, run_underlying ht, Result.andThen_ok]
          simp at r
          simp [Instr.slice, run_underlying ht, r, sizeOf_run hse]
        · simp only [List.take_nil, List.drop_nil]
          refine .lnil _ _ ?_
          unfold cutQL; split <;> simp_all
      | lemp _ _ ad hq =>
        obtain ⟨r, hab, hbl⟩ := aBounds_sound (P := P) hlo hhi h1 h2 hb true 0 (Nat.le_refl _)
        simp at hbl
        obtain rfl : b = 0 := by omega
        obtain rfl : a = 0 := by omega
        refine RunsTo.pure hS (v' := .slice (some ad) 0 0) ?_ ?_
        · simp only [Instr.sliceAt, Sem.run_bind, run_underlying ht, Result.andThen_ok]
          simp at r
          simp [Instr.slice, run_underlying ht, r, sizeOf_run hse]
        · simp only [List.take_nil, List.drop_nil]
          refine .lemp _ _ _ ?_
          unfold cutQL; split <;> simp_all
      | lst _ _ _ g o cap V hq hc hm hI he hv hr =>
        obtain ⟨r, hab, hbl⟩ := aBounds_sound (P := P) hlo hhi h1 h2 hb true cap hc
        have hlen : ((xs.take b).drop a).length = b - a := by simp; omega
        have hrow : RowAt w M I H.length g o k' xs := fun i j x c hi hj => ⟨_, hv i j x c hi hj, hr i j x c hi hj⟩
        have hcq : cutQL q a b ≠ some true := by unfold cutQL; split <;> simp_all
        have hrun : ∀ p, (if cap = a then (⟨g, o, none⟩ : Addr) else ⟨g, o + a * k, none⟩) = ⟨g, p, none⟩ → (Instr.sliceAt t (.slice (some ⟨g, o, none⟩) xs.length cap) vlo vhi none).run P w = .ok (.slice (some ⟨g, p, none⟩) (b - a) (cap - a)) w := fun p hp => by
          simp only [Instr.sliceAt, Sem.run_bind, run_underlying ht, Result.andThen_ok]
          simp only [Instr.slice, Sem.run_bind, run_underlying ht, Result.andThen_ok, r, sizeOf_run hse, Sem.run_pure, Option.map_some, Addr.add_lit]
          split at hp
          · rename_i hca; rw [if_pos hca]; congr 2; rw [← hp]
          · rename_i hca; rw [if_neg hca]; congr 2; rw [← hp]
        have hrel : ∀ p, (a = b ∨ p = o + a * k') → Rel w M I H.length (.lst (cutQL q a b) k' ((xs.take b).drop a)) (.slice (some ⟨g, p, none⟩) (b - a) (cap - a)) := fun p hp => by
          have := Rel.mk_lst (w := w) (M := M) (I := I) (n := H.length) (q := cutQL q a b) (xs := (xs.take b).drop a) (g := g) (o := p) (cap := cap - a) (k := k') hcq (by omega) (Nat.le_trans (Nat.sub_le _ _) hm) hI
            (fun x hx => he x (List.mem_of_mem_take (List.mem_of_mem_drop hx))) (fun i j x c hi hj => by
              have hil := (List.getElem?_eq_some_iff.1 hi).1
              rcases hp with hp | rfl
              · omega
              · rw [List.getElem?_drop, List.getElem?_take, if_pos (by omega)] at hi
                obtain ⟨u, e1, e2⟩ := hrow _ j x c hi hj
                exact ⟨u, by rw [← e1, Nat.add_mul]; congr 2; omega, e2⟩)
          rwa [hlen] at this
        by_cases hca : cap = a
        · exact RunsTo.pure hS (hrun o (by rw [if_pos hca])) (hrel o (.inl (by omega)))
        · refine RunsTo.pure hS (hrun (o + a * k) (by rw [if_neg hca])) (hrel _ ?_)
          rcases hkk with rfl | hemp
          · exact .inr rfl
          · simp at hemp; subst hemp; left; simp at hbl; omega
    · cases h
  · -- a row of one's own
    rename_i k q b0 k' off len
    split at h
    · rename_i hkk; subst hkk
      obtain ⟨⟨a, b⟩, hb, rfl⟩ := Option.map_eq_some_iff.1 h
      obtain ⟨e, ht, hse⟩ : ∃ e, P.underlying t = some (.slice e) ∧ sizeB P e = some k' := by
        simp only [slcOK, isSliceOf] at hk
        split at hk
        · rename_i e he; exact ⟨e, he, by simpa using hk⟩
        · cases hk
      cases hx with
      | sln _ _ _ _ hbn hM hq =>
        obtain ⟨r, hab, hbl⟩ := aBounds_sound (P := P) hlo hhi h1 h2 hb true 0 (Nat.le_refl _)
        obtain rfl : b = 0 := by omega
        obtain rfl : a = 0 := by omega
        refine RunsTo.pure hS (v' := .slice none 0 0) ?_ (.sln _ _ _ _ hbn hM ?_)
        · simp only [Instr.sliceAt, Sem.run_bind, run_underlying ht, Result.andThen_ok]
          simp [Instr.slice, run_underlying ht, r, sizeOf_run hse]
        · unfold cutQ; split <;> simp_all
      | sl _ _ _ _ _ g o p cap hbn hM hc hm hq ha =>
        obtain ⟨r, hab, hbl⟩ := aBounds_sound (P := P) hlo hhi h1 h2 hb true cap hc
        have hrun : ∀ p', (if cap = a then (⟨g, p, none⟩ : Addr) else ⟨g, p + a * k', none⟩) = ⟨g, p', none⟩ → (Instr.sliceAt t (.slice (some ⟨g, p, none⟩) len cap) vlo vhi none).run P w = .ok (.slice (some ⟨g, p', none⟩) (b - a) (cap - a)) w := fun p' hp => by
          simp only [Instr.sliceAt, Sem.run_bind, run_underlying ht, Result.andThen_ok]
          simp only [Instr.slice, Sem.run_bind, run_underlying ht, Result.andThen_ok, r, sizeOf_run hse, Sem.run_pure, Option.map_some, Addr.add_lit]
          split at hp
          · rename_i hca; rw [if_pos hca]; congr 2; rw [← hp]
          · rename_i hca; rw [if_neg hca]; congr 2; rw [← hp]
        have hcq : cutQ q a b = some true → 0 < b - a := by
          unfold cutQ
          split
          · simp
          · split
            · intro _; omega
            · simp
          · simp
        by_cases hca : cap = a
        · refine RunsTo.pure hS (hrun p (by rw [if_pos hca])) (.sl _ _ _ _ _ g o p (cap - a) hbn hM (by omega) (Nat.le_trans (Nat.sub_le _ _) hm) hcq (fun h0 => by omega))
        · refine RunsTo.pure hS (hrun (p + a * k') (by rw [if_neg hca])) (.sl _ _ _ _ _ g o _ (cap - a) hbn hM (by omega) (Nat.le_trans (Nat.sub_le _ _) hm) hcq (fun h0 => ?_))
          have hac : off + a + (cap - a) = off + cap := by omega
          have h00 : 0 < cap := by omega
          obtain ⟨hp, e1, sz, hsh, hsz⟩ := ha h00
          exact ⟨by rw [Nat.add_mul, hp]; omega, e1, sz, hsh, by rw [hac]; exact hsz⟩
    · cases h
  · cases h

end
end Go.AM

/- The abstract machine, part 9: every abstract step but a call is what the model does. Own work. -/
set_option linter.all false
namespace Go.AM

section
variable {P : Program} {GT : Nat → Option AV} {w : World} {M : AMap} {I : Nat → Prop} {H : Heap}

theorem isStr_eq {t : TypeId} (h : isStr P t = true) : P.underlying t = some .string := by
  simp only [isStr] at h; split at h
  · assumption
  · cases h
theorem isInt_eq {t : TypeId} {k : IntKind} (h : isInt P t k = true) : P.underlying t = some (.int k) := by
  simp only [isInt] at h; split at h
  · rename_i k' hk; simp at h; subst h; exact hk
  · cases h
theorem isU8s_eq {t : TypeId} (h : isU8s P t = true) : ∃ e, P.underlying t = some (.slice e) ∧ P.underlying e = some (.int .u8) := by
  simp only [isU8s] at h; split at h
  · rename_i e he; exact ⟨e, he, isInt_eq h⟩
  · cases h
theorem isSliceOf_eq {t : TypeId} {k : Nat} (h : isSliceOf P t k = true) : ∃ e, P.underlying t = some (.slice e) ∧ sizeB P e = some k := by
  simp only [isSliceOf] at h; split at h
  · rename_i e he; exact ⟨e, he, by simpa using h⟩
  · cases h
theorem isArrOf_eq {t : TypeId} {n k : Nat} (h : isArrOf P t n k = true) : ∃ e, P.underlying t = some (.array n e) ∧ sizeB P e = some k := by
  simp only [isArrOf] at h; split at h
  · rename_i m e he
    simp at h; obtain ⟨rfl, h⟩ := h; exact ⟨e, he, h⟩
  · cases h

theorem bin_sound (hS : Sim GT w M I H) {op : BinOp} {t : TypeId} {X Y : Operand} {x y v : AV} {a b : Value} (hx : Rel w M I H.length x a) (hy : Rel w M I H.length y b) (h : aBin op x y = some v) :
    RunsTo P GT w M I H (do eqGuard op t X Y a b; binOp op t a b) v H := by
  have GI : ∀ (k k' : IntKind) (m m' : Int), (eqGuard op t X Y (.int k m) (.int k' m')).run P w = .ok () w := fun _ _ _ _ => eqGuard_plain (by simp) (by simp)
  have GS : ∀ (s s' : ByteArray), (eqGuard op t X Y (.string s) (.string s')).run P w = .ok () w := fun _ _ => eqGuard_plain (by simp) (by simp)
  unfold aBin at h
  split at h
  · rename_i k a k' b
    cases hx; cases hy
    split at h
    · rename_i hs
      obtain ⟨v', r, R⟩ := shift_run (P := P) (w := w) (M := M) (I := I) (k' := k') t hs h
      exact RunsTo.pure hS (by rw [Sem.run_bind, GI]; exact r) (R _)
    · split at h
      · rename_i hk; subst hk
        obtain ⟨v', r, R⟩ := intBin_run (P := P) (w := w) (M := M) (I := I) t h
        exact RunsTo.pure hS (by rw [Sem.run_bind, GI]; exact r) (R _)
      · cases h
  · cases hx; cases hy
    obtain ⟨v', r, R⟩ := str_run (P := P) (w := w) (M := M) (I := I) t h
    exact RunsTo.pure hS (by rw [Sem.run_bind, GS]; exact r) (R _)
  · cases h

theorem eqs_sound (hS : Sim GT w M I H) {neg : Bool} {sh : List Sc} {t : TypeId} {X Y : Operand} {x y : List AV} {a b : Value} {r : Bool} (hx : Rel w M I H.length (.agg x) a) (hy : Rel w M I H.length (.agg y) b)
    (hsh : shapeOf P 30 t = some sh) (hg : P.eqGuardType P.depth t = false) (hag : aggB P t = some true) (h : cellsEq sh x y = some r) :
    RunsTo P GT w M I H (do eqGuard (if neg then .neq else .eql) t X Y a b; binOp (if neg then .neq else .eql) t a b) (.bool (if neg then !r else r)) H := by
  cases hx with
  | agg _ vs hl hr =>
  cases hy with
  | agg _ us hl' hr' =>
  have he := (eq_sound (P := P) (w := w) (M := M) (I := I) 30 10000 t sh hsh (by omega)).2.2 x y vs us r (.agg vs.toArray) (.agg us.toArray) H.length ⟨hl, hr⟩ ⟨hl', hr'⟩ h (.inl ⟨hag, rfl⟩) (.inl ⟨hag, rfl⟩)
  refine RunsTo.pure hS (v' := .bool (if neg then !r else r)) ?_ (.bool _)
  cases neg
  · simp only [Bool.false_eq_true, if_false, Sem.run_bind, run_eqGuard_agg w _ t X Y _ _ hg, Result.andThen_ok, run_eql_struct, he]
  · simp only [if_true, Sem.run_bind, run_eqGuard_agg w _ t X Y _ _ hg, Result.andThen_ok, run_neq_struct, he]

theorem nilness_sound {n : Nat} {x : AV} {v : Value} (h : Rel w M I n x v) {b : Bool} (hb : nilness x = some b) : ∃ a l c, v = .slice a l c ∧ a.isNone = b := by
  cases h with
  | lnil q k hq => simp only [nilness] at hb; refine ⟨none, 0, 0, rfl, ?_⟩; cases b <;> simp_all
  | lemp q k a hq => simp only [nilness] at hb; refine ⟨_, _, _, rfl, ?_⟩; cases b <;> simp_all
  | lst q k xs g o cap V hq => simp only [nilness] at hb; refine ⟨_, _, _, rfl, ?_⟩; cases b <;> simp_all
  | sln q b' k off hbn hM hq => unfold nilness at hb; split at hb <;> simp_all
  | sl q b' k off len g o p cap hbn hM hc hm hq ha =>
    refine ⟨_, _, _, rfl, ?_⟩
    unfold nilness at hb
    split at hb
    · simp_all
    · simp_all
    · rename_i heq
      simp only [AV.sl.injEq] at heq
      obtain ⟨rfl, rfl, rfl, rfl, rfl⟩ := heq
      have := hq rfl
      simp only [Option.some.injEq] at hb
      rw [← hb]; simp; omega
    · cases hb
  | _ => simp [nilness] at hb

theorem eqn_sound (hS : Sim GT w M I H) {neg lit : Bool} {e : EK} {t : TypeId} {X Y : Operand} {x y : AV} {a b : Value} {r : Bool} (hx : Rel w M I H.length x a) (hy : Rel w M I H.length y b)
    (hek : ekOK P t e = true) (hlit : lit = true → isConst X = true ∨ isConst Y = true) (h : eqNil e lit x y = some r) :
    RunsTo P GT w M I H (do eqGuard (if neg then .neq else .eql) t X Y a b; binOp (if neg then .neq else .eql) t a b) (.bool (if neg then !r else r)) H := by
  refine RunsTo.pure hS (v' := .bool (if neg then !r else r)) ?_ (.bool _)
  have fin : (∀ d, (Op.equalIn (d + 1) t a b).run P w = .ok r w) → (eqGuard (if neg then .neq else .eql) t X Y a b).run P w = .ok () w → (∀ op, (op = .eql ∨ op = .neq) → binOp op t a b = (if op = .eql then (do pure (.bool (← Op.equal t a b))) else do pure (.bool (!(← Op.equal t a b))))) →
      Sem.run P (do eqGuard (if neg then .neq else .eql) t X Y a b; binOp (if neg then .neq else .eql) t a b) w = .ok (.bool (if neg then !r else r)) w := fun h0 h2 h3 => by
    have h1 : (Op.equal t a b).run P w = .ok r w := h0 9999
    cases neg
    · simp only [Bool.false_eq_true, if_false] at h2 ⊢
      simp only [Sem.run_bind, h2, Result.andThen_ok, h3 .eql (.inl rfl), if_true, h1, Sem.run_pure]
    · simp only [if_true] at h2 ⊢
      simp only [Sem.run_bind, h2, Result.andThen_ok, h3 .neq (.inr rfl), reduceCtorEq, if_false, h1, Sem.run_pure]
  have sl : ∀ {a b}, (∃ o l c, a = Value.slice o l c) → (∃ o l c, b = Value.slice o l c) → ∀ op, (op = .eql ∨ op = .neq) → binOp op t a b = (if op = .eql then (do pure (.bool (← Op.equal t a b))) else do pure (.bool (!(← Op.equal t a b)))) := by
    rintro _ _ ⟨o, l, c, rfl⟩ ⟨o', l', c', rfl⟩ op (rfl | rfl) <;> rfl
  unfold eqNil at h
  split at h
  · -- nil, nil
    cases hx; cases hy
    split at h
    · rename_i hl
      simp only [Option.some.injEq] at h; subst h
      obtain ⟨ms, ht⟩ : ∃ ms, P.underlying t = some (.interface ms) := by simp only [ekOK] at hek; split at hek <;> simp_all
      refine fin (fun d => by simp [Op.equalIn, run_underlying ht]) ?_ (by rintro op (rfl | rfl) <;> rfl)
      have hc : ((match X with | .const _ => true | _ => false) || (match Y with | .const _ => true | _ => false)) = true := by
        rcases hlit hl with h | h
        · cases X <;> simp_all [isConst]
        · cases Y <;> simp_all [isConst]
      cases neg <;> simp only [Bool.false_eq_true, if_false, if_true, eqGuard]
      · show Sem.run P (if ((match X with | .const _ => true | _ => false) || (match Y with | .const _ => true | _ => false)) = true then _ else _) w = _
        rw [if_pos hc]; rfl
      · show Sem.run P (if ((match X with | .const _ => true | _ => false) || (match Y with | .const _ => true | _ => false)) = true then _ else _) w = _
        rw [if_pos hc]; rfl
    · cases h
  all_goals first
    | (cases hx; cases hy
       simp only [Option.some.injEq] at h; subst h
       simp only [ekOK] at hek
       split at hek
       · rename_i ht
         exact fin (fun d => by simp [Op.equalIn, run_underlying ht]) (eqGuard_plain (by simp) (by simp)) (by rintro op (rfl | rfl) <;> rfl)
       · cases hek)
    | skip
  · -- nil on the left
    obtain ⟨e, ht⟩ : ∃ e, P.underlying t = some (.slice e) := by simp only [ekOK] at hek; split at hek <;> simp_all
    obtain ⟨o, l, c, rfl, ho⟩ := nilness_sound hy h
    obtain ⟨o', l', c', rfl, ho'⟩ := nilness_sound hx (b := true) rfl
    simp only [Option.isNone_iff_eq_none] at ho'; subst ho'
    exact fin (fun d => by simp [Op.equalIn, run_underlying ht, ho]) (eqGuard_plain (by simp) (by simp)) (sl ⟨_, _, _, rfl⟩ ⟨_, _, _, rfl⟩)
  · obtain ⟨e, ht⟩ : ∃ e, P.underlying t = some (.slice e) := by simp only [ekOK] at hek; split at hek <;> simp_all
    obtain ⟨o, l, c, rfl, ho⟩ := nilness_sound hx h
    obtain ⟨o', l', c', rfl, ho'⟩ := nilness_sound hy (b := true) rfl
    simp only [Option.isNone_iff_eq_none] at ho'; subst ho'
    refine fin (fun d => ?_) (eqGuard_plain (by simp) (by simp)) (sl ⟨_, _, _, rfl⟩ ⟨_, _, _, rfl⟩)
    cases o <;> simp at ho <;> subst ho <;> simp [Op.equalIn, run_underlying ht]
  · cases h

end
end Go.AM

/- The abstract machine, part 10: every abstract step but a call, in one theorem. Own work. -/
set_option linter.all false
namespace Go.AM

section
variable {P : Program} {GT : Nat → Option AV} {w : World} {M : AMap} {I : Nat → Prop} {H : Heap}

theorem len_sound (hS : Sim GT w M I H) {s : Bool} {x : AV} {v : Value} {t ty : TypeId} {n : Nat} (hx : Rel w M I H.length x v) (h : aLen s x = some n) (ht : if s then isStr P t = true else ∃ e, P.underlying t = some (.slice e)) :
    RunsTo P GT w M I H (Builtin.len_ #[t] ty #[v]) (.int .i64 n) H := by
  unfold aLen at h
  split at h
  · obtain ⟨e, ht⟩ := ht
    simp only [Option.some.injEq] at h; subst h
    refine RunsTo.pure hS (v' := .int .i64 _) ?_ (.int _ _)
    cases hx <;> simp [Builtin.len_, run_underlying ht, goInt]
  · obtain ⟨e, ht⟩ := ht
    simp only [Option.some.injEq] at h; subst h
    refine RunsTo.pure hS (v' := .int .i64 _) ?_ (.int _ _)
    cases hx <;> simp [Builtin.len_, run_underlying ht, goInt]
  · have ht := isStr_eq ht
    simp only [Option.some.injEq] at h; subst h
    refine RunsTo.pure hS (v' := .int .i64 _) ?_ (.int _ _)
    cases hx; simp [Builtin.len_, run_underlying ht, goInt, sizeB']
  · cases h

theorem bytesOf_spec : ∀ {xs : List AV} {s : List UInt8}, bytesOf xs = some s → ∃ ns : List Int, xs = ns.map (AV.int .u8) ∧ s = ns.map fun n => UInt8.ofNat n.toNat
  | [], s, h => by simp [bytesOf] at h; subst h; exact ⟨[], rfl, rfl⟩
  | x :: xs, s, h => by
    cases x with
    | int k n =>
      cases k <;> simp only [bytesOf, reduceCtorEq] at h
      obtain ⟨r, hr, rfl⟩ := Option.map_eq_some_iff.1 h
      obtain ⟨ns, rfl, rfl⟩ := bytesOf_spec hr
      exact ⟨n :: ns, rfl, rfl⟩
    | _ => simp [bytesOf] at h

theorem foldl_push (ns : List Int) : ∀ l : List UInt8, ns.foldl (fun (r : ByteArray) n => r.push (UInt8.ofNat n.toNat)) ⟨l.toArray⟩ = ⟨(l ++ ns.map fun n => UInt8.ofNat n.toNat).toArray⟩ := by
  induction ns with
  | nil => intro l; simp
  | cons n ns ih =>
    intro l
    simp only [List.foldl_cons, List.map_cons]
    rw [show (⟨l.toArray⟩ : ByteArray).push (UInt8.ofNat n.toNat) = ⟨(l ++ [UInt8.ofNat n.toNat]).toArray⟩ by apply ByteArray.ext; simp [ByteArray.push], ih]
    simp

theorem toStr_sound (hS : Sim GT w M I H) {s d : TypeId} {x : AV} {v : Value} {xs : List AV} {r : List UInt8} (hs : isU8s P s = true) (hd : isStr P d = true) (hx : Rel w M I H.length x v) (hv : view H 1 x = some xs) (hb : bytesOf xs = some r) :
    RunsTo P GT w M I H (convert s d v) (.str r) H := by
  obtain ⟨e, h1, h2⟩ := isU8s_eq hs
  have h3 := isStr_eq hd
  obtain ⟨ns, rfl, rfl⟩ := bytesOf_spec hb
  obtain ⟨he, ⟨rfl | ⟨a, rfl⟩, hnil⟩ | ⟨g, p, cap, rfl, hc, hm, hrow⟩⟩ := view_sound hS hx hv
  · simp only [List.map_eq_nil_iff] at hnil
    subst hnil
    refine RunsTo.pure hS (v' := .string ⟨[].toArray⟩) ?_ (.str _)
    rw [run_convert_bytes_string w s d e none 0 0 h1 h2 h3]
    simp [Conv.bytesToString]; rfl
  · simp only [List.map_eq_nil_iff] at hnil
    subst hnil
    refine RunsTo.pure hS (v' := .string ⟨[].toArray⟩) ?_ (.str _)
    rw [run_convert_bytes_string w s d e (some a) 0 0 h1 h2 h3]
    simp [Conv.bytesToString, loadCells, loadCellsFrom]; rfl
  · refine RunsTo.pure hS (v' := .string ⟨(ns.map fun n => UInt8.ofNat n.toNat).toArray⟩) ?_ (.str _)
    rw [run_convert_bytes_string w s d e _ _ cap h1 h2 h3]
    have hl := run_loadCells_list (P := P) w ⟨g, p, none⟩ (ns.map (Value.int .u8)) (fun j u hu => by
      rw [Addr.add_lit]
      simp only [List.getElem?_map, Option.map_eq_some_iff] at hu
      obtain ⟨m, hm, rfl⟩ := hu
      obtain ⟨u', a, b⟩ := hrow j 0 (.int .u8 m) (.int .u8 m) (by simp [hm]) rfl
      cases b
      rw [← a]; congr 2; omega)
    rw [List.length_map] at hl ⊢
    rw [run_bytesToString w _ _ cap ns hl]
    have := foldl_push ns []
    simp only [List.nil_append] at this
    congr 2

theorem bytes_elems (s : List UInt8) : Elems 1 (s.map byteAV) := fun x hx => by
  obtain ⟨c, _, rfl⟩ := List.mem_map.1 hx
  rfl

theorem toBytes_sound (hS : Sim GT w M I H) {s d : TypeId} {l : List UInt8} (hs : (P.underlying s).isSome = true) (hd : isU8s P d = true) (hl : l.length ≤ 140737488355328) :
    RunsTo P GT w M I H (convert s d (.string ⟨l.toArray⟩)) (.sl (some false) H.length 1 0 l.length) (H ++ [.row 1 (l.map byteAV)]) := by
  obtain ⟨e, h1, h2⟩ := isU8s_eq hd
  obtain ⟨u, hu⟩ := Option.isSome_iff_exists.1 hs
  have hr := Lib.run_convert_string_bytes (P := P) w s d e ⟨l.toArray⟩ hu h1 h2
  have hge := grownCap_ge w l.length 0 e
  have hcm := grownCap_le_maxLen w l.length 0 e (by simp only [maxLen]; omega)
  have hnew := Lib.bytesWorld_at_new w e ⟨l.toArray⟩
  have hsize : (Lib.bytesCells w e ⟨l.toArray⟩).size = grownCap w l.length 0 e := by
    simp only [Lib.bytesCells, Array.size_append, Array.size_map, Array.size_replicate, sizeB']; simp; omega
  have hheap : (Lib.bytesWorld w e ⟨l.toArray⟩).heap = w.heap.push (.cells (Lib.bytesCells w e ⟨l.toArray⟩) e ((Lib.bytesCells w e ⟨l.toArray⟩).size, (Lib.bytesCells w e ⟨l.toArray⟩).size + 1)) := by
    apply Array.ext_getElem?
    intro k
    rw [Array.getElem?_push]
    split
    · rename_i hk; rw [hk]; exact hnew
    · rename_i hk
      by_cases hlt : k < w.heap.size
      · exact Lib.bytesWorld_at_old w e _ k hlt
      · rw [Array.getElem?_eq_none (xs := w.heap) (by omega), Array.getElem?_eq_none (by rw [Lib.bytesWorld_size]; omega)]
  have hos : (Lib.bytesWorld w e ⟨l.toArray⟩).os = w.os ∧ (Lib.bytesWorld w e ⟨l.toArray⟩).tape = w.tape ∧ (Lib.bytesWorld w e ⟨l.toArray⟩).output = w.output := by
    exact ⟨rfl, rfl, rfl⟩
  obtain ⟨G, S⟩ := hS.push (blk := .row 1 (l.map byteAV)) hheap hos.1 hos.2.1 hos.2.2 (rowOK_new (cells := l.map fun c => .int .u8 c.toNat) (o := 0) (bytes_elems l) more_new ⟨e, _, hnew, fun j hj h => by omega⟩
    (fun h => absurd (hS.idom _ h) (Nat.lt_irrefl _)) (by rw [hsize]; simpa using hge) (fun j hj => by
      simp only [List.length_map, Nat.mul_one] at hj
      rw [Nat.zero_add, Lib.bytesCells, Array.getElem?_append_left (by simpa using hj)]
      simp) (by simp) (fun i j x c hi hj => by
      simp only [List.getElem?_map, Option.map_eq_some_iff] at hi
      obtain ⟨b, hb, rfl⟩ := hi
      cases j with
      | zero => simp [byteAV, AV.cells] at hj; subst hj; exact ⟨.int .u8 b.toNat, by simp [hb], .int _ _⟩
      | succ j => simp [byteAV, AV.cells] at hj))
  refine ⟨_, _, _, I, hr, G, S, ?_⟩
  rw [sizeB']
  exact .sl _ _ _ _ _ w.heap.size 0 0 _ (by simp) more_new hge hcm (by simp) (fun _ => ⟨by simp, e, _, by simp [World.shape?, hnew]; rfl, by rw [hsize]; simp⟩)

theorem alloc_push (hS : Sim GT w M I H) {e : TypeId} {vs : Array Value} {cs : List AV} (hr : RelL w M I H.length cs vs.toList) :
    Grow w M I H (w.alloc (.cells vs e)) (more M H.length (some (w.heap.size, 0))) I (H ++ [.box cs]) ∧ Sim GT (w.alloc (.cells vs e)) (more M H.length (some (w.heap.size, 0))) I (H ++ [.box cs]) := by
  have hheap : (w.alloc (.cells vs e)).heap = w.heap.push (.cells vs e) := rfl
  refine hS.push hheap rfl rfl rfl ⟨w.heap.size, 0, vs, more_new, ⟨e, (0, 0), by rw [hheap, Array.getElem?_push, if_pos rfl], fun j _ h => absurd h.2 (Nat.not_lt_zero _)⟩, fun h => absurd (hS.idom _ h) (Nat.lt_irrefl _), by have := hr.1; simp at this; omega, fun j c hj => ?_⟩
  obtain ⟨v, hv, hrv⟩ := get_rel_list hr hj
  refine ⟨v, by rw [Nat.zero_add, ← hv]; simp, ?_⟩
  have := (Sim.push (blk := .dead) hS hheap rfl rfl rfl trivial).1.rel hS hrv
  simpa using this

theorem make_sound (hS : Sim GT w M I H) {t e : TypeId} {i : TypeInfo} {zv : Value} {z : AV} {k bytes : Nat} {kl kc : IntKind} {l c : Int} (ht : P.underlying t = some (.slice e)) (hi : P.info? e = some i) (hk : i.size = k) (hb : i.bytes = bytes) (hz : i.zero = some zv)
    (hzk : zv.cells.size = k) (hzz : constOK zv z = true) (hk0 : 0 < k) (h0 : 0 ≤ l) (hlc : l ≤ c) (hbytes : (bytes : Int) * c ≤ 281474976710656) (hc : c ≤ 9223372036854775807) (hel : z.elem k = true) :
    RunsTo P GT w M I H (Instr.makeSlice t (.int kl l) (.int kc c)) (.sl (some false) H.length k 0 l.toNat) (H ++ [.row k (List.replicate l.toNat z)]) := by
  subst hk hb
  have hr := run_make (P := P) w t e i zv ht hi hz kl kc l c h0 hlc hbytes hc
  have hheap : (w.alloc (.cells (madeCells zv.cells (c.toNat * i.size)) e)).heap = w.heap.push (.cells (madeCells zv.cells (c.toNat * i.size)) e) := rfl
  have hzr := rel_cells (const_rel (w := w) (M := M) (I := I) (n := H.length) hzz) (one_ne (List.all_eq_true.2 (AV.elem_iff.1 hel).2.2))
  have hlc' : l.toNat ≤ c.toNat := by omega
  obtain ⟨G, S⟩ := hS.push (blk := .row i.size (List.replicate l.toNat z)) hheap rfl rfl rfl (rowOK_new (cells := (madeCells zv.cells (l.toNat * i.size)).toList) (o := 0) (fun x hx => by obtain ⟨_, rfl⟩ := List.mem_replicate.1 hx; exact hel) more_new
    ⟨e, (0, 0), by rw [hheap, Array.getElem?_push, if_pos rfl], fun j _ h => absurd h.2 (Nat.not_lt_zero _)⟩
    (fun h => absurd (hS.idom _ h) (Nat.lt_irrefl _)) (by rw [size_madeCells]; simpa using Nat.mul_le_mul_right _ hlc') (fun j hj => by
      simp only [List.length_replicate] at hj
      have : l.toNat * i.size ≤ c.toNat * i.size := Nat.mul_le_mul_right _ hlc'
      simp [madeCells, hj, show j < c.toNat * i.size by omega]) (by simp [size_madeCells]) (fun a j x c' hx hj => by
      rw [List.getElem?_replicate] at hx
      split at hx
      case isFalse => cases hx
      rename_i hal
      obtain rfl := Option.some.inj hx
      obtain ⟨u, hu, hru⟩ := get_rel_list hzr hj
      have hjl := (List.getElem?_eq_some_iff.1 hj).1
      rw [(AV.elem_iff.1 hel).1] at hjl
      have hlt : a * i.size + j < l.toNat * i.size := by
        have : (a + 1) * i.size ≤ l.toNat * i.size := Nat.mul_le_mul_right _ hal
        rw [Nat.add_mul] at this; omega
      refine ⟨u, ?_, ?_⟩
      · simp only [madeCells, Array.toList_map, Array.toList_range, List.getElem?_map, List.getElem?_range hlt, Option.map_some, hzk]
        rw [show (a * i.size + j) % i.size = j by rw [Nat.add_comm, Nat.add_mul_mod_self_right, Nat.mod_eq_of_lt hjl]]
        have hu' : zv.cells[j]? = some u := by simpa using hu
        simp [getElem!_def, hu']
      · have := (Sim.push (blk := .dead) hS hheap rfl rfl rfl trivial).1.rel hS hru
        simpa using this))
  refine ⟨_, _, _, I, hr, G, S, ?_⟩
  exact .sl _ _ _ _ _ w.heap.size 0 0 _ (by simp) more_new hlc' (by simp only [maxLen]; omega) (by simp) (fun _ => ⟨by simp, e, _, by simp [World.shape?, hheap]; rfl, by rw [size_madeCells]; simp⟩)

/-! ### Literals -/

def spliceV (cs : List Value) (o : Nat) (vs : List Value) : List Value := cs.take o ++ vs ++ cs.drop (o + vs.length)

theorem fold_splice (off : Nat) : ∀ (l : List Value) (a : Nat) (cs : Array Value), off + a + l.length ≤ cs.size →
    ((l.zipIdx a).foldl (fun (cs : Array Value) (p : Value × Nat) => cs.setIfInBounds (off + p.2) p.1) cs).toList = spliceV cs.toList (off + a) l
  | [], a, cs, h => by simp [spliceV]
  | v :: l, a, cs, h => by
    simp only [List.length_cons] at h
    simp only [List.zipIdx_cons, List.foldl_cons]
    rw [fold_splice off l (a + 1) _ (by simp; omega)]
    apply List.ext_getElem?
    intro j
    have hl : (cs.toList.take (off + (a + 1))).length = off + (a + 1) := by simp; omega
    simp only [spliceV, Array.toList_setIfInBounds, List.append_assoc, List.length_cons]
    by_cases h1 : j < off + a
    · rw [List.getElem?_append_left (by simp; omega), List.getElem?_append_left (by simp; omega), List.getElem?_take, List.getElem?_take, if_pos (by omega), if_pos h1, List.getElem?_set_ne (by omega)]
    · rw [List.getElem?_append_right (l₁ := List.take (off + a) cs.toList) (by simp; omega)]
      have hl2 : (List.take (off + a) cs.toList).length = off + a := by simp; omega
      rw [hl2]
      by_cases h2 : j = off + a
      · subst h2
        rw [List.getElem?_append_left (by simp; omega), List.getElem?_take, if_pos (by omega), List.getElem?_set_self (by simp; omega)]
        simp
      · have hl3 : (List.take (off + (a + 1)) (cs.toList.set (off + a) v)).length = off + (a + 1) := by simp; omega
        rw [List.getElem?_append_right (by rw [hl3]; omega), hl3]
        rw [show j - (off + a) = (j - (off + (a + 1))) + 1 by omega, List.cons_append, List.getElem?_cons_succ]
        by_cases h3 : j - (off + (a + 1)) < l.length
        · rw [List.getElem?_append_left h3, List.getElem?_append_left h3]
        · rw [List.getElem?_append_right (by omega), List.getElem?_append_right (by omega), List.getElem?_drop, List.getElem?_drop, List.getElem?_set_ne (by omega)]
          congr 1; omega

theorem splice_rel {n : Nat} {cs vs : List AV} {us ws : List Value} (h1 : RelL w M I n cs us) (h2 : RelL w M I n vs ws) {o : Nat} (hle : o + vs.length ≤ cs.length) : RelL w M I n (splice cs o vs) (spliceV us o ws) := by
  have l1 := h1.1
  have l2 := h2.1
  refine ⟨by simp [splice, spliceV]; omega, fun i c v hc hv => ?_⟩
  rw [splice_get hle] at hc
  have hv' : (spliceV us o ws)[i]? = if o ≤ i ∧ i < o + ws.length then ws[i - o]? else us[i]? := by
    unfold spliceV
    have ho : (us.take o).length = o := by simp; omega
    rw [List.append_assoc, List.getElem?_append, ho]
    split
    · rw [if_neg (by omega), List.getElem?_take, if_pos ‹_›]
    · rw [List.getElem?_append]
      split
      · rw [if_pos (by omega)]
      · rw [if_neg (by omega), List.getElem?_drop]
        congr 1; omega
  rw [hv'] at hv
  split at hc
  · rw [if_pos (by omega)] at hv; exact h2.2 _ c v hc hv
  · rw [if_neg (by omega)] at hv; exact h1.2 _ c v hc hv

theorem fill_sound {n : Nat} (place : Nat → Option (Nat × Nat)) : ∀ (ps : List (Nat × Value)) (pl : List (Nat × Nat)) (vs : List AV) (cells : Array Value) (cs cs' : List AV), ps.map (fun p => place p.1) = pl.map some → RelL w M I n vs (ps.map (·.2)) →
    RelL w M I n cs cells.toList → fillAll cs pl vs = some cs' → ∃ cells', Instr.fill place cells ps = some cells' ∧ RelL w M I n cs' cells'.toList
  | [], [], [], cells, cs, cs', _, _, hc, hf => by
    simp only [fillAll, Option.some.injEq] at hf; subst hf
    exact ⟨cells, rfl, hc⟩
  | [], [], _ :: _, _, _, _, _, hv, _, _ => by have := hv.1; simp at this
  | [], _ :: _, _, _, _, _, hp, _, _, _ => by simp at hp
  | _ :: _, [], _, _, _, _, hp, _, _, _ => by simp at hp
  | _ :: _, _ :: _, [], _, _, _, _, hv, _, _ => by have := hv.1; simp at this
  | (i, u) :: ps, (o, s) :: pl, v :: vs, cells, cs, cs', hp, hv, hc, hf => by
    simp only [List.map_cons, List.cons.injEq] at hp
    simp only [fillAll] at hf
    split at hf
    · rename_i hcond
      obtain ⟨hs, hle, hone⟩ := hcond
      have hvu : Rel w M I n v u := hv.2 0 v u rfl rfl
      have hvs : RelL w M I n vs (ps.map (·.2)) := ⟨by have := hv.1; simpa using this, fun j c x h1 h2 => hv.2 (j + 1) c x (by simpa using h1) (by simpa using h2)⟩
      have hcu := rel_cells hvu (one_ne hone)
      have hul : u.cells.size = s := by have := hcu.1; simp at this; omega
      have hcl : cells.size = cs.length := by have := hc.1; simp at this; omega
      have hfold : (u.cells.zipIdx.foldl (fun (cs : Array Value) (p : Value × Nat) => cs.setIfInBounds (o + p.2) p.1) cells).toList = spliceV cells.toList o u.cells.toList := by
        rw [← Array.foldl_toList, Array.toList_zipIdx]
        have := fold_splice o u.cells.toList 0 cells (by simp; omega)
        simpa using this
      obtain ⟨cells', r1, r2⟩ := fill_sound place ps pl vs _ (splice cs o v.cells) cs' hp.2 hvs (by rw [hfold]; exact splice_rel hc hcu (by omega)) hf
      refine ⟨cells', ?_, r2⟩
      simp only [Instr.fill, hp.1]
      rw [if_neg (by simp; omega)]
      exact r1
    · cases hf

theorem placesOf_len {t : TypeId} : ∀ {is : List Nat} {pl : List (Nat × Nat)}, placesOf P t is = some pl → is.length = pl.length
  | [], pl, h => by simp [placesOf] at h; subst h; rfl
  | i :: r, pl, h => by
    simp only [placesOf] at h
    split at h
    · split at h
      · split at h
        · rename_i h1 h2
          simp only [Option.some.injEq] at h; subst h
          simp [placesOf_len h2]
        · cases h
      · cases h
    · split at h
      · rename_i h1 h2
        simp only [Option.some.injEq] at h; subst h
        simp [placesOf_len h2]
      · cases h
    · cases h

theorem build_sound (hS : Sim GT w M I H) {t : TypeId} {parts : Array (Nat × Value)} {z cs : List AV} {pl : List (Nat × Nat)} {vs : List AV} (hz : zeroOK P t z = true) (hso : sizesOK P t = true) (hpl : placesOf P t (parts.toList.map (·.1)) = some pl)
    (hv : RelL w M I H.length vs (parts.toList.map (·.2))) (h : fillAll z pl vs = some cs) : RunsTo P GT w M I H (Instr.build t parts) (.agg cs) H := by
  unfold zeroOK at hz
  split at hz
  · rename_i it hit
    split at hz
    · rename_i zv hzv
      have hzr := constL_rel (w := w) (M := M) (I := I) (n := H.length) hz
      have main : ∀ place, (parts.toList.map (fun p => place p.1) = pl.map some) → (∀ cells', Instr.fill place zv.cells parts.toList = some cells' → P.built t parts.toList = some cells') → RunsTo P GT w M I H (Instr.build t parts) (.agg cs) H := fun place hp hb => by
        obtain ⟨cells', r1, r2⟩ := fill_sound place parts.toList pl vs zv.cells z cs hp hv hzr h
        refine RunsTo.pure hS (v' := .agg cells') (run_build w t parts cells' (hb _ r1)) ?_
        have := Rel.agg (w := w) (M := M) (I := I) (n := H.length) cs cells'.toList r2.1 r2.2
        simpa using this
      unfold sizesOK at hso
      split at hso
      · rename_i fs hu
        have hm : ∃ places, fs.toList.mapM (fun (f : Field) => (P.info? f.type).map fun i => (f.offset, i.size)) = some places ∧ ∀ j : Nat, places[j]? = (fs.toList[j]?).bind fun (f : Field) => (sizeB P f.type).map fun s => (f.offset, s) := by
          revert hso
          generalize fs.toList = l
          intro hso
          induction l with
          | nil => exact ⟨[], rfl, by simp⟩
          | cons f l ih =>
            simp only [List.all_cons, Bool.and_eq_true] at hso
            obtain ⟨pl', e1, e2⟩ := ih hso.2
            obtain ⟨s, hs⟩ := Option.isSome_iff_exists.1 hso.1
            have hs' := hs
            unfold sizeB at hs'
            obtain ⟨i, hi, hsz⟩ := Option.map_eq_some_iff.1 hs'
            refine ⟨(f.offset, i.size) :: pl', by simp [List.mapM_cons, hi, e1], fun j => ?_⟩
            cases j with
            | zero => simp [hs, hsz]
            | succ j => simpa using e2 j
        obtain ⟨places, m1, m2⟩ := hm
        refine main (places.toArray[·]?) ?_ (fun cells' hc => by simp only [Program.built, hit, hu, hzv, m1]; exact hc)
        have : ∀ (is : List Nat) (pl : List (Nat × Nat)), placesOf P t is = some pl → is.map (fun i => places.toArray[i]?) = pl.map some := by
          intro is
          induction is with
          | nil => intro pl h; simp [placesOf] at h; subst h; rfl
          | cons i is ih =>
            intro pl h
            simp only [placesOf, hu] at h
            split at h
            · rename_i f hf
              split at h
              · rename_i s pl' h1 h2
                simp only [Option.some.injEq] at h; subst h
                have hf' : fs.toList[i]? = some f := by simpa using hf
                rw [List.map_cons, List.map_cons, ih _ h2]
                congr 1
                rw [List.getElem?_toArray, m2, hf']
                simp [h1]
              · cases h
            · cases h
        have := this _ _ hpl
        simpa [List.map_map, Function.comp_def] using this
      · rename_i m e hu
        obtain ⟨s, hs⟩ := Option.isSome_iff_exists.1 hso
        have hs' := hs
        unfold sizeB at hs'
        obtain ⟨ie, hie, hsz⟩ := Option.map_eq_some_iff.1 hs'
        refine main (fun i => some (i * ie.size, ie.size)) ?_ (fun cells' hc => by simp only [Program.built, hit, hu, hzv, hie]; exact hc)
        have : ∀ (is : List Nat) (pl : List (Nat × Nat)), placesOf P t is = some pl → is.map (fun i => some (i * ie.size, ie.size)) = pl.map some := by
          intro is
          induction is with
          | nil => intro pl h; simp [placesOf] at h; subst h; rfl
          | cons i is ih =>
            intro pl h
            simp only [placesOf, hu, hs] at h
            split at h
            · rename_i s' pl' h1 h2
              simp only [Option.some.injEq] at h h1; subst h h1
              rw [List.map_cons, List.map_cons, ih _ h2]
              simp [hsz]
            · cases h
        have := this _ _ hpl
        simpa [List.map_map, Function.comp_def] using this
      · cases hso
    · cases hz
  · cases hz

end
end Go.AM

/- The abstract machine, part 11: slice literals; every abstract step but a call, in one theorem. Own work. -/
set_option linter.all false
namespace Go.AM

section
variable {P : Program} {GT : Nat → Option AV} {w : World} {M : AMap} {I : Nat → Prop} {H : Heap}

theorem fillAll_seq (k : Nat) : ∀ (vs : List AV) (a : Nat) (pre : List AV), pre.length = a * k → (∀ v ∈ vs, v.elem k = true) →
    fillAll (pre ++ List.replicate (vs.length * k) .undef) ((List.range' a vs.length).map fun i => (i * k, k)) vs = some (pre ++ vs.flatMap AV.cells)
  | [], a, pre, _, _ => by simp [fillAll]
  | v :: vs, a, pre, hp, hv => by
    obtain ⟨h1, h2, h3⟩ := AV.elem_iff.1 (hv v (by simp))
    have hone : v.cells.all AV.one = true := List.all_eq_true.2 h3
    simp only [List.length_cons, List.range'_succ, List.map_cons, fillAll]
    rw [if_pos ⟨h1, by simp [Nat.add_mul]; omega, hone⟩]
    have hs : splice (pre ++ List.replicate ((vs.length + 1) * k) AV.undef) (a * k) v.cells = (pre ++ v.cells) ++ List.replicate (vs.length * k) AV.undef := by
      unfold splice
      rw [h1, ← hp, List.take_left', List.drop_append]
      · simp [List.drop_replicate, Nat.add_mul]
      · rfl
    rw [hs, fillAll_seq k vs (a + 1) (pre ++ v.cells) (by simp [h1, hp, Nat.add_mul]) (fun x hx => hv x (by simp [hx]))]
    simp

theorem flat_get {k : Nat} : ∀ {xs : List AV} {i j : Nat} {x c : AV}, Elems k xs → xs[i]? = some x → x.cells[j]? = some c → (xs.flatMap AV.cells)[i * k + j]? = some c
  | [], _, _, _, _, _, h, _ => by simp at h
  | y :: xs, i, j, x, c, he, hx, hj => by
    have hy := (AV.elem_iff.1 (he y (by simp))).1
    cases i with
    | zero =>
      simp at hx; subst hx
      rw [List.flatMap_cons, Nat.zero_mul, Nat.zero_add, List.getElem?_append_left (List.getElem?_eq_some_iff.1 hj).1]
      exact hj
    | succ i =>
      rw [List.flatMap_cons, List.getElem?_append_right (by rw [hy, Nat.add_mul]; omega), hy]
      have := flat_get (xs := xs) (fun z hz => he z (by simp [hz])) (by simpa using hx) hj
      rw [← this]; congr 1
      rw [Nat.add_mul]; omega

theorem flat_len {k : Nat} : ∀ {xs : List AV}, Elems k xs → (xs.flatMap AV.cells).length = xs.length * k
  | [], _ => by simp
  | y :: xs, he => by
    have hy := (AV.elem_iff.1 (he y (by simp))).1
    have := flat_len (xs := xs) (k := k) (fun z hz => he z (by simp [hz]))
    simp [hy, this, Nat.add_mul]; omega

theorem bslice_sound (hS : Sim GT w M I H) {t : TypeId} {len k : Nat} {parts : Array (Nat × Value)} {vs vs' : List AV} {H1 : Heap} (hsl : isSliceOf P t k = true) (hz : (match P.underlying t with
      | some (.slice e) => (match P.info? e with
        | some i => i.zero.isSome
        | none => false)
      | _ => false) = true) (hlim : len * k ≤ 16777216) (hlim' : len ≤ 16777216) (hidx : parts.toList.map (·.1) = List.range len)
    (hv : RelL w M I H.length vs (parts.toList.map (·.2))) (hf : frzL 0 vs H = some (vs', H1)) (hel : vs'.all (fun v => v.elem k) = true) :
    RunsTo P GT w M I H (Instr.buildSlice t len parts) (.sl (some false) H1.length k 0 vs'.length) (H1 ++ [.row k vs']) := by
  obtain ⟨e, ht, hse⟩ := isSliceOf_eq hsl
  rw [ht] at hz
  simp only at hz
  split at hz
  case h_2 => cases hz
  rename_i i hi
  obtain ⟨zv, hzv⟩ := Option.isSome_iff_exists.1 hz
  have hagg := Rel.agg (w := w) (M := M) (I := I) (n := H.length) vs (parts.toList.map (·.2)) hv.1 hv.2
  obtain ⟨I', G1, S1, R1, hlen, _⟩ := frz_sound 0 (.agg vs) hS hagg (x' := .agg vs') (H' := H1) (by simp [frzV, hf])
  have hr : RelL w M I' H1.length vs' (parts.toList.map (·.2)) := by
    generalize hus : parts.toList.map (·.2) = us at R1
    cases R1 with
    | agg _ _ hl h => exact ⟨hl, h⟩
  have hvl : vs'.length = len := by have h1 := hr.1; have h2 := congrArg List.length hidx; simp at h1 h2; omega
  have hE : Elems k vs' := fun x hx => List.all_eq_true.1 hel x hx
  subst hvl
  have hseq := fillAll_seq k vs' 0 [] (by simp) hE
  simp only [List.nil_append] at hseq
  let base : Array Value := (Array.range (vs'.length * k)).map (fun j => (if vs'.length * k = 0 then (#[] : Array Value) else zv.cells)[j % (if vs'.length * k = 0 then (#[] : Array Value) else zv.cells).size]!)
  have hbase : RelL w M I' H1.length (List.replicate (vs'.length * k) AV.undef) base.toList := by
    refine ⟨by simp [base], fun a c v hc _ => ?_⟩
    rw [List.getElem?_replicate] at hc
    split at hc
    · rw [← Option.some.inj hc]; exact .undef _
    · cases hc
  obtain ⟨cells', f1, f2⟩ := fill_sound (w := w) (M := M) (I := I') (n := H1.length) (fun i => some (i * k, k)) parts.toList _ vs' base _ _ (by
    have : parts.toList.map (fun p => some (p.1 * k, k)) = (parts.toList.map (·.1)).map (fun i => some (i * k, k)) := by simp
    rw [this, hidx, List.range_eq_range']
    simp) hr hbase hseq
  have hcl : cells'.toList.length = vs'.length * k := by rw [← f2.1, flat_len hE]
  have hrun : (Instr.buildSlice t vs'.length parts).run P w = .ok (.slice (some ⟨w.heap.size, 0, none⟩) vs'.length vs'.length) (w.alloc (.cells cells' e)) := by
    have hno : ¬ (vs'.length * k > 2 ^ 24) := by omega
    have hzr : ∀ w : World, (zeroValue e).run P w = .ok zv w := fun w => by simp [zeroValue, typeInfo, hi, hzv]
    have f1' : Instr.fill (fun i => some (i * k, k)) ((Array.range (vs'.length * k)).map (fun j => (if vs'.length * k = 0 then (#[] : Array Value) else zv.cells)[j % (if vs'.length * k = 0 then (#[] : Array Value) else zv.cells).size]!)) parts.toList = some cells' := f1
    unfold Instr.buildSlice
    by_cases h0 : vs'.length * k = 0
    · simp only [if_pos h0] at f1'
      simp only [Sem.run_bind, run_underlying ht, Result.andThen_ok, sizeOf_run hse, if_neg hno, if_pos h0, Sem.run_pure, f1']
      simp [newRow]
    · simp only [if_neg h0] at f1'
      simp only [Sem.run_bind, run_underlying ht, Result.andThen_ok, sizeOf_run hse, if_neg hno, if_neg h0, hzr, Sem.run_pure, f1']
      simp [newRow]
  have hheap : (w.alloc (.cells cells' e)).heap = w.heap.push (.cells cells' e) := rfl
  obtain ⟨G, S⟩ := S1.push (blk := .row k vs') hheap rfl rfl rfl (rowOK_new (cells := cells'.toList) (o := 0) hE more_new ⟨e, (0, 0), by rw [hheap, Array.getElem?_push, if_pos rfl], fun j _ h => absurd h.2 (Nat.not_lt_zero _)⟩
    (fun h => absurd (S1.idom _ h) (Nat.lt_irrefl _)) (by have := hcl; simp at this; omega) (fun j hj => by rw [Nat.zero_add]; simp) hcl (fun a j x c hx hj => by
      obtain ⟨u, hu, hru⟩ := get_rel_list f2 (flat_get hE hx hj)
      refine ⟨u, hu, ?_⟩
      have := (Sim.push (blk := .dead) S1 hheap rfl rfl rfl trivial).1.rel S1 hru
      simpa using this))
  refine ⟨_, _, _, I', hrun, G1.trans G, S, ?_⟩
  refine .sl _ _ _ _ _ w.heap.size 0 0 _ (by simp) more_new (Nat.le_refl _) ?_ (by simp) (fun _ => ⟨by simp, e, _, by simp [World.shape?, hheap]; rfl, by have := hcl; simp at this; simp; omega⟩)
  simp only [maxLen]; omega

end
end Go.AM
