/- The abstract machine, part 4: which code goes with which cleaned code ('chk..'), and that each abstract step is what the model does. Own work. -/
import Derived.Test.YtibdekobocpfdaaDoorAm3
import Derived.Laws.StructEq
import Derived.OwnWalk
set_option linter.all false
namespace Go.AM

/-! ### What is checked -/

def constOK1 : Value → AV → Bool
  | .bool b, .bool b' => b == b'
  | .int k n, .int k' n' => decide (k = k') && n == n'
  | .string s, .str l => s.data.toList == l
  | .nilIface, .nili => true
  | .pointer none, .nilp => true
  | .slice none 0 0, .lst (some true) _ [] => true
  | .nilFunc, .nilf => true
  | .map none, .nilm => true
  | _, .undef => true
  | _, _ => false
def constL : List Value → List AV → Bool
  | [], [] => true
  | v :: vs, c :: cs => constOK1 v c && constL vs cs
  | _, _ => false
def constOK : Value → AV → Bool
  | .agg vs, .agg cs => constL vs.toList cs
  | v, c => constOK1 v c

def chkO : Operand → Opd → Bool
  | .tmp t, .tmp t' => t == t'
  | .const v, .const c => constOK v c
  | .global g, .glob g' => g == g'
  | .func f, .fn f' => f == f'
  | _, _ => false
def chkOs : List Operand → List Opd → Bool
  | [], [] => true
  | x :: xs, y :: ys => chkO x y && chkOs xs ys
  | _, _ => false

def sizeB (P : Program) (t : TypeId) : Option Nat := (P.info? t).map (·.size)
def aggB (P : Program) (t : TypeId) : Option Bool := match P.underlying t with
  | some (.struct _) => some true
  | some (.array _ _) => some true
  | some _ => some false
  | none => none

def shapeFs (P : Program) (S : TypeId → Option (List Sc)) : Nat → List Field → Option (List Sc)
  | _, [] => some []
  | o, f :: r => if f.name ≠ "_" ∧ f.offset = o then
      match S f.type with
      | some s => if sizeB P f.type = some s.length ∧ 0 < s.length then (shapeFs P S (o + s.length) r).map (s ++ ·) else none
      | none => none
    else none
/-- The cells of a type that '==' takes. -/
def shapeOf (P : Program) : Nat → TypeId → Option (List Sc)
  | 0, _ => none
  | d + 1, t => match P.underlying t with
    | some (.int k) => some [.int k]
    | some .bool => some [.bool]
    | some .string => some [.str]
    | some (.struct fs) => if P.stoodInHeld t then none else shapeFs P (shapeOf P d) 0 fs.toList
    | _ => none

def isConst : Operand → Bool
  | .const _ => true
  | _ => false

def ekOK (P : Program) (t : TypeId) : EK → Bool
  | .iface => match P.underlying t with
    | some (.interface _) => true
    | _ => false
  | .ptr => match P.underlying t with
    | some (.pointer _) => true
    | _ => false
  | .sl => match P.underlying t with
    | some (.slice _) => true
    | _ => false
  | .fn => match P.underlying t with
    | some (.func _ _ _) => true
    | _ => false

def isSliceOf (P : Program) (t : TypeId) (k : Nat) : Bool := match P.underlying t with
  | some (.slice e) => sizeB P e == some k
  | _ => false
def isArrOf (P : Program) (t : TypeId) (n k : Nat) : Bool := match P.underlying t with
  | some (.array m e) => m == n && sizeB P e == some k
  | _ => false
def isStr (P : Program) (t : TypeId) : Bool := match P.underlying t with
  | some .string => true
  | _ => false
def isInt (P : Program) (t : TypeId) (k : IntKind) : Bool := match P.underlying t with
  | some (.int k') => decide (k' = k)
  | _ => false
def isU8s (P : Program) (t : TypeId) : Bool := match P.underlying t with
  | some (.slice e) => isInt P e .u8
  | _ => false
def fieldOf (P : Program) (t : TypeId) (f : Nat) : Option (Nat × TypeId) := match P.underlying t with
  | some (.struct fs) => (fs[f]?).map fun f => (f.offset, f.type)
  | _ => none

def placesOf (P : Program) (t : TypeId) : List Nat → Option (List (Nat × Nat))
  | [] => some []
  | i :: r => match P.underlying t with
    | some (.struct fs) => match fs[i]? with
      | some f => match sizeB P f.type, placesOf P t r with
        | some s, some pl => some ((f.offset, s) :: pl)
        | _, _ => none
      | none => none
    | some (.array _ e) => match sizeB P e, placesOf P t r with
      | some s, some pl => some ((i * s, s) :: pl)
      | _, _ => none
    | _ => none
/-- Sizes of all parts of a struct or an array are known. -/
def sizesOK (P : Program) (t : TypeId) : Bool := match P.underlying t with
  | some (.struct fs) => fs.toList.all fun f => (sizeB P f.type).isSome
  | some (.array _ e) => (sizeB P e).isSome
  | _ => false
def zeroOK (P : Program) (t : TypeId) (z : List AV) : Bool := match P.info? t with
  | some i => match i.zero with
    | some v => constL v.cells.toList z
    | none => false
  | none => false

def chkOp0 (P : Program) : Op → AK → List Opd → Bool
  | .move x, .mv, [x'] => chkO x x'
  | .assign x, .mv, [x'] => chkO x x'
  | .pick c a b, .pick, [c', a', b'] => chkO c c' && chkO a a' && chkO b b'
  | .binOp op _ x y _, .bin op', [x', y'] => decide (op = op') && chkO x x' && chkO y y'
  | .binOp op t x y _, .eqs neg sh, [x', y'] => decide (op = if neg then .neq else .eql) && decide (shapeOf P 30 t = some sh) && !(P.eqGuardType P.depth t) && (match P.underlying t with
      | some (.struct _) => true
      | _ => false) && chkO x x' && chkO y y'
  | .binOp op t x y _, .eqb neg, [x', y'] => decide (op = if neg then .neq else .eql) && (match P.underlying t with
      | some .bool => true
      | _ => false) && chkO x x' && chkO y y'
  | .binOp op t x y _, .eqn e neg lit, [x', y'] => decide (op = if neg then .neq else .eql) && ekOK P t e && (!lit || isConst x || isConst y) && chkO x x' && chkO y y'
  | .unOp op _ x, .un op', [x'] => decide (op = op') && chkO x x'
  | .convert s d x, .convInt k, [x'] => (P.underlying s).isSome && isInt P d k && chkO x x'
  | .convert s d x, .convRune, [x'] => (P.underlying s).isSome && isStr P d && chkO x x'
  | .convert s d x, .convId, [x'] => (P.underlying s).isSome && isStr P d && chkO x x'
  | .convert s d x, .bytesToStr, [x'] => isU8s P s && isStr P d && chkO x x'
  | .convert s d x, .strToBytes, [x'] => (P.underlying s).isSome && isU8s P d && chkO x x'
  | .makeInterface t x, .mkIface t', [x'] => t == t' && (match P.underlying t with
      | some (.interface _) => false
      | some _ => true
      | none => false) && chkO x x'
  | .makeFunc (.func f) first caps, .mkFn f' m, xs => f == f' && first.size == m && chkOs (first.toList ++ caps.toList) xs
  | .call { callee := .builtin .len, args, argTypes }, .len s, [x'] => (match args.toList, argTypes[0]? with
      | [x], some t => (if s then isStr P t else (match P.underlying t with
        | some (.slice _) => true
        | _ => false)) && chkO x x'
      | _, _ => false)
  | .slice t x lo hi none, .slc k blo bhi, xs => (match k with
      | none => isStr P t
      | some k => isSliceOf P t k) && lo.isSome == blo && hi.isSome == bhi && chkOs (x :: (lo.toList ++ hi.toList)) xs
  | .fieldAddr t x f, .fieldAddr o, [x'] => (match fieldOf P t f with
      | some (o', u) => o' == o && (match sizeB P u with
        | some s => s != 0
        | none => false)
      | none => false) && chkO x x'
  | .field t x f, .field o s ag, [x'] => (match fieldOf P t f with
      | some (o', u) => o' == o && sizeB P u == some s && aggB P u == some ag
      | none => false) && chkO x x'
  | .indexAddr t x i, .idxAddr k, [x', i'] => isSliceOf P t k && chkO x x' && chkO i i'
  | .indexAddr t x i, .idxArr k n, [x', i'] => isArrOf P t n k && chkO x x' && chkO i i'
  | .index t x i, .idxStr, [x', i'] => isStr P t && chkO x x' && chkO i i'
  | .index t x i, .idxAgg k n ag, [x', i'] => isArrOf P t n k && (match P.underlying t with
      | some (.array _ e) => aggB P e == some ag
      | _ => false) && chkO x x' && chkO i i'
  | .nilCheck x, .nilchk, [x'] => chkO x x'
  | .extract x i, .extract i', [x'] => i == i' && chkO x x'
  | .load t x, .load s ag, [x'] => sizeB P t == some s && aggB P t == some ag && chkO x x'
  | .store t p x, .store s, [p', x'] => sizeB P t == some s && chkO p p' && chkO x x'
  | .alloc t, .alloc z, [] => zeroOK P t z
  | .box _ x, .box, [x'] => chkO x x'
  | .build t parts, .build z pl, xs => zeroOK P t z && sizesOK P t && decide (placesOf P t (parts.toList.map (·.1)) = some pl) && chkOs (parts.toList.map (·.2)) xs
  | .buildSlice t len parts, .bslice k, xs => isSliceOf P t k && (match P.underlying t with
      | some (.slice e) => (match P.info? e with
        | some i => i.zero.isSome
        | none => false)
      | _ => false) && decide (len * k ≤ 16777216) && decide (len ≤ 16777216) && decide (parts.toList.map (·.1) = List.range len) && chkOs (parts.toList.map (·.2)) xs
  | .makeSlice t l c, .make k bytes z, [l', c'] => (match P.underlying t with
      | some (.slice e) => (match P.info? e with
        | some i => i.size == k && i.bytes == bytes && (match i.zero with
          | some v => constOK v z && v.cells.size == k
          | none => false)
        | none => false)
      | _ => false) && chkO l l' && chkO c c' && decide (0 < k)
  | .call { callee := .builtin .append, args, argTypes }, .append k bytes, [x', y'] => (match args.toList, argTypes.toList with
      | [x, y], [t, t'] => t == t' && (match P.underlying t with
        | some (.slice e) => (match P.info? e with
          | some i => i.size == k && i.bytes == bytes && (match i.zero with
            | some v => v.cells.size == k
            | none => false)
          | none => false)
        | _ => false) && chkO x x' && chkO y y'
      | _, _ => false) && decide (0 < k)
  | .call { callee := .builtin .append, args, argTypes }, .appendS, [x', y'] => (match args.toList, argTypes.toList with
      | [x, y], [t, t'] => isStr P t' && (match P.underlying t with
        | some (.slice e) => (match P.info? e with
          | some i => i.size == 1 && i.bytes == 1 && (match i.zero with
            | some v => v.cells.size == 1
            | none => false)
          | none => false)
        | _ => false) && chkO x x' && chkO y y'
      | _, _ => false)
  | .call { callee := .builtin .min, args, .. }, .min, [x', y'] => (match args.toList with
      | [x, y] => chkO x x' && chkO y y'
      | _ => false)
  | .call { callee := .builtin .max, args, .. }, .max, [x', y'] => (match args.toList with
      | [x, y] => chkO x x' && chkO y y'
      | _ => false)
  | .call { callee := .value (.func f), args, .. }, .call f' _, xs => f == f' && chkOs args.toList xs
  | .call { callee := .value x, args, .. }, .callv _, xs => chkOs (x :: args.toList) xs
  | _, _, _ => false
/-- '.stuck': never reached. -/
def chkOp (P : Program) (op : Op) (k : AK) (xs : List Opd) : Bool := match k with
  | .stuck => true
  | .callp f => chkOp0 P op (.call f false) xs
  | .callvp => chkOp0 P op (.callv false) xs
  | .panic => (match op, xs with
    | .panic x, [x'] => chkO x x'
    | _, _ => false)
  | k => chkOp0 P op k xs

/-! ### Operands -/

section
variable {P : Program} {GT : Nat → Option AV} {w : World} {M : AMap} {I : Nat → Prop} {H : Heap} {n : Nat}

theorem const1_rel {v : Value} {c : AV} (h : constOK1 v c = true) : Rel w M I n c v := by
  unfold constOK1 at h
  split at h
  · simp at h; subst h; exact .bool _
  · simp at h; obtain ⟨rfl, rfl⟩ := h; exact .int _ _
  · rename_i s l
    simp at h; subst h
    obtain ⟨⟨l⟩⟩ := s
    exact .str l
  · exact .nili
  · exact .nilp
  · exact .lnil _ _ (by simp)
  · exact .nilf
  · exact .nilm
  · exact .undef _
  · cases h

theorem constL_rel : ∀ {vs : List Value} {cs : List AV}, constL vs cs = true → RelL w M I n cs vs
  | [], [], _ => ⟨rfl, by simp⟩
  | v :: vs, c :: cs, h => by
    simp only [constL, Bool.and_eq_true] at h
    have := constL_rel h.2
    refine ⟨by simpa using this.1, fun i c' v' hc hv => ?_⟩
    cases i with
    | zero => simp at hc hv; subst hc hv; exact const1_rel h.1
    | succ i => exact this.2 i c' v' (by simpa using hc) (by simpa using hv)
  | [], _ :: _, h => by simp [constL] at h
  | _ :: _, [], h => by simp [constL] at h

theorem const_rel {v : Value} {c : AV} (h : constOK v c = true) : Rel w M I n c v := by
  unfold constOK at h
  split at h
  · rename_i vs cs
    have := constL_rel (w := w) (M := M) (I := I) (n := n) h
    obtain ⟨vs⟩ := vs
    exact .agg cs vs this.1 this.2
  · exact const1_rel h

/-- A frame stands for the temporaries. -/
def FrOK (w : World) (M : AMap) (I : Nat → Prop) (n : Nat) (tm : Array Value) (fr : Fr) : Prop := ∀ t, Rel w M I n (get fr t) (tm.getD t Go.undef)

theorem ev_rel (hS : Sim GT w M I H) {a : Act} {fr : Fr} (hf : FrOK w M I H.length a.tmps fr) {x : Operand} {x' : Opd} (h : chkO x x' = true) : Rel w M I H.length (ev GT fr x') (a.eval x) := by
  unfold chkO at h
  split at h
  · simp at h; subst h; exact hf _
  · exact const_rel h
  · simp at h; subst h
    simp only [ev, Act.eval]
    split
    · exact (hS.glob _ _ ‹_›).free (by simp [AV.noRef, AV.bel])
    · exact .undef _
  · simp at h; subst h
    exact .fn _ [] [] [] [] rfl rfl (by simp) (by simp)
  · cases h

theorem evs_rel (hS : Sim GT w M I H) {a : Act} {fr : Fr} (hf : FrOK w M I H.length a.tmps fr) : ∀ {xs : List Operand} {xs' : List Opd}, chkOs xs xs' = true → RelL w M I H.length (xs'.map (ev GT fr)) (xs.map a.eval)
  | [], [], _ => ⟨rfl, by simp⟩
  | x :: xs, y :: ys, h => by
    simp only [chkOs, Bool.and_eq_true] at h
    have := evs_rel hS hf h.2
    refine ⟨by simpa using this.1, fun i c v hc hv => ?_⟩
    cases i with
    | zero => simp at hc hv; subst hc hv; exact ev_rel hS hf h.1
    | succ i => exact this.2 i c v (by simpa using hc) (by simpa using hv)
  | [], _ :: _, h => by simp [chkOs] at h
  | _ :: _, [], h => by simp [chkOs] at h

/-! ### Runs -/

/-- The model's step ends as the abstract one says. -/
def RunsTo (P : Program) (GT : Nat → Option AV) (w : World) (M : AMap) (I : Nat → Prop) (H : Heap) (s : Sem Value) (v : AV) (H' : Heap) : Prop :=
  ∃ v' w' M' I', s.run P w = .ok v' w' ∧ Grow w M I H w' M' I' H' ∧ Sim GT w' M' I' H' ∧ Rel w' M' I' H'.length v v'

theorem RunsTo.pure (hS : Sim GT w M I H) {s : Sem Value} {v : AV} {v' : Value} (h : s.run P w = .ok v' w) (hr : Rel w M I H.length v v') : RunsTo P GT w M I H s v H :=
  ⟨v', w, M, I, h, Grow.refl .., hS, hr⟩

theorem isAgg_run {t : TypeId} {b : Bool} (h : aggB P t = some b) : (isAgg t).run P w = .ok b w := by
  unfold aggB at h
  unfold isAgg
  split at h <;> simp_all [run_underlying]

theorem sizeOf_run {t : TypeId} {s : Nat} (h : sizeB P t = some s) : (sizeOf t).run P w = .ok s w := by
  unfold sizeB at h
  obtain ⟨i, hi, rfl⟩ := Option.map_eq_some_iff.1 h
  simp [sizeOf, typeInfo, hi]

theorem get_rel_list {cs : List AV} {vs : List Value} (h : RelL w M I n cs vs) {j : Nat} {c : AV} (hj : cs[j]? = some c) : ∃ v, vs[j]? = some v ∧ Rel w M I n c v := by
  have hlt := (List.getElem?_eq_some_iff.1 hj).1
  have hl := h.1
  exact ⟨vs[j]'(by omega), List.getElem?_eq_getElem _, h.2 j c _ hj (List.getElem?_eq_getElem _)⟩

/-- A part of an aggregate. -/
theorem part_sound {cs : List AV} {vs : List Value} (hr : RelL w M I n cs vs) {t : TypeId} {o s : Nat} {ag : Bool} {v : AV} (hs : sizeB P t = some s) (ha : aggB P t = some ag) (h : part cs o s ag = some v) :
    ∃ v', (Go.part t vs.toArray o).run P w = .ok v' w ∧ Rel w M I n v v' := by
  unfold part at h
  unfold Go.part
  cases ag with
  | true =>
    simp only [if_true] at h
    split at h
    · rename_i hle
      simp only [Option.some.injEq] at h; subst h
      refine ⟨.agg ((vs.drop o).take s).toArray, ?_, .agg _ _ ?_ ?_⟩
      · simp only [Sem.run_bind, isAgg_run ha, Result.andThen_ok, if_true, sizeOf_run hs, Sem.run_pure]
        congr 2
        simp [List.extract_toArray, List.extract_eq_take_drop]
      · have := hr.1; simp; omega
      · intro i c v hc hv
        rw [List.getElem?_take] at hc hv
        split at hc
        · rw [if_pos ‹_›] at hv
          rw [List.getElem?_drop] at hc hv
          exact hr.2 _ c v hc hv
        · cases hc
    · cases h
  | false =>
    simp only [Bool.false_eq_true, if_false] at h
    obtain ⟨u, hu, hru⟩ := get_rel_list hr h
    refine ⟨u, ?_, hru⟩
    simp only [Sem.run_bind, isAgg_run ha, Result.andThen_ok, Bool.false_eq_true, if_false]
    simp [hu]

/-- What a pointer leads to. -/
theorem ptr_sound (hS : Sim GT w M I H) {p : AV} {v : Value} (hp : Rel w M I H.length p v) {cs : List AV} {o : Nat} (h : ptrCells H p = some (cs, o)) :
    ∃ g a, v = .pointer (some ⟨g, a, none⟩) ∧ ∀ j c, cs[o + j]? = some c → ∃ u, w.cell? ⟨g, a + j, none⟩ = some u ∧ Rel w M I H.length c u := by
  cases hp with
  | lref x oo g o' V hI hx hv hr =>
    simp only [ptrCells, Option.some.injEq, Prod.mk.injEq] at h; obtain ⟨rfl, rfl⟩ := h
    exact ⟨g, o', rfl, fun j c hj => ⟨_, hv j c hj, hr j c hj⟩⟩
  | ref b k i oo g o' hb hM =>
    simp only [ptrCells] at h
    refine ⟨g, o' + i * k + oo, rfl, ?_⟩
    split at h
    · rename_i cs' hx
      split at h
      · rename_i hi
        subst hi
        simp only [Option.some.injEq, Prod.mk.injEq] at h; obtain ⟨rfl, rfl⟩ := h
        obtain ⟨g', o'', cur, h1, h2, h3, h4, h5⟩ := hS.blk b _ hx
        rw [hM] at h1; simp only [Option.some.injEq, Prod.mk.injEq] at h1; obtain ⟨rfl, rfl⟩ := h1
        intro j c hj
        obtain ⟨u, a, r⟩ := h5 _ c hj
        exact ⟨u, by rw [h2.cell?, ← a]; congr 1; omega, r⟩
      · cases h
    · rename_i k' xs hx
      split at h
      · rename_i hk; subst hk
        obtain ⟨x, hx', he⟩ := Option.map_eq_some_iff.1 h
        simp only [Prod.mk.injEq] at he; obtain ⟨rfl, rfl⟩ := he
        obtain ⟨he, ⟨_, rfl⟩ | ⟨g', o'', cur, h1, h2, h3, h4, h5⟩⟩ := hS.blk b _ hx
        · simp at hx'
        · rw [hM] at h1; simp only [Option.some.injEq, Prod.mk.injEq] at h1; obtain ⟨rfl, rfl⟩ := h1
          intro j c hj
          obtain ⟨u, a, r⟩ := h5 i _ x c hx' hj
          exact ⟨u, by rw [h2.cell?, ← a]; congr 1; omega, r⟩
      · cases h
    · rename_i k' xs hx
      split at h
      · rename_i hk; subst hk
        obtain ⟨x, hx', he⟩ := Option.map_eq_some_iff.1 h
        simp only [Prod.mk.injEq] at he; obtain ⟨rfl, rfl⟩ := he
        obtain ⟨he, ⟨_, rfl⟩ | ⟨g', o'', h1, h3, h5⟩⟩ := hS.blk b _ hx
        · simp at hx'
        · rw [hM] at h1; simp only [Option.some.injEq, Prod.mk.injEq] at h1; obtain ⟨rfl, rfl⟩ := h1
          intro j c hj
          obtain ⟨u, a, r⟩ := h5 i _ x c hx' hj
          exact ⟨u, by rw [← a]; congr 2; omega, r⟩
      · cases h
    · cases h
  | _ => simp [ptrCells] at h

/-- A variable's value, out of its cells. -/
theorem loadVar_sound {t : TypeId} {s : Nat} {ag : Bool} (hs : sizeB P t = some s) (ha : aggB P t = some ag) {cs : List AV} {o g a : Nat} {v : AV} (h : part cs o s ag = some v)
    (hc : ∀ j c, cs[o + j]? = some c → ∃ u, w.cell? ⟨g, a + j, none⟩ = some u ∧ Rel w M I n c u) : ∃ v', (loadVar t ⟨g, a, none⟩).run P w = .ok v' w ∧ Rel w M I n v v' := by
  unfold part at h
  unfold loadVar
  cases ag with
  | true =>
    simp only [if_true] at h
    split at h
    · rename_i hle
      simp only [Option.some.injEq] at h; subst h
      let vs : List Value := (List.range s).map fun j => (w.cell? ⟨g, a + j, none⟩).getD Go.undef
      have hvl : vs.length = s := by simp [vs]
      have hvs : ∀ j v, vs[j]? = some v → w.cell? ((⟨g, a, none⟩ : Addr).add j) = some v := fun j v hv => by
        have hj : j < s := by have := (List.getElem?_eq_some_iff.1 hv).1; omega
        obtain ⟨u, hu, _⟩ := hc j _ (List.getElem?_eq_getElem (by omega))
        rw [Addr.add_lit]
        simp [vs, hj, hu] at hv
        rw [hu, hv]
      have hl := run_loadCells_list (P := P) w ⟨g, a, none⟩ vs hvs
      rw [hvl] at hl
      refine ⟨.agg vs.toArray, ?_, .agg _ _ (by simp; omega) fun i c v hci hvi => ?_⟩
      · simp only [Sem.run_bind, isAgg_run ha, Result.andThen_ok, if_true, sizeOf_run hs, hl, Sem.run_pure]
      · rw [List.getElem?_take] at hci
        split at hci
        · rw [List.getElem?_drop] at hci
          obtain ⟨u, hu, hr⟩ := hc i c hci
          have := hvs i v hvi
          rw [Addr.add_lit, hu] at this
          rw [← Option.some.inj this]; exact hr
        · cases hci
    · cases h
  | false =>
    simp only [Bool.false_eq_true, if_false] at h
    obtain ⟨u, hu, hr⟩ := hc 0 v (by simpa using h)
    refine ⟨u, ?_, hr⟩
    simp only [Sem.run_bind, isAgg_run ha, Result.andThen_ok, Bool.false_eq_true, if_false]
    simp [show w.cell? ⟨g, a, none⟩ = some u by simpa using hu]

end
end Go.AM
