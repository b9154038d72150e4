/- The abstract machine, part 2: cleaned code, its abstract steps, and what they ask ('AW'). Own work. -/
import Derived.Test.YtibdekobocpfdaaDoorAm1
set_option linter.all false
namespace Go.AM

abbrev Fr := List (Nat × AV)

def get : Fr → Nat → AV
  | [], _ => .undef
  | (j, v) :: r, i => if j = i then v else get r i
def restrict (fr : Fr) (L : List Nat) : Fr := L.map fun i => (i, get fr i)

inductive Opd where
  | tmp (t : Nat)
  | const (v : AV)
  | glob (g : Nat)
  | fn (f : FuncId)
  deriving Inhabited

def ev (GT : Nat → Option AV) (fr : Fr) : Opd → AV
  | .tmp t => get fr t
  | .const v => v
  | .glob g => match GT g with
    | some x => .lref x 0
    | none => .undef
  | .fn f => .fn f [] []

/-- The kinds of cells that '==' takes. -/
inductive Sc where
  | int (k : IntKind)
  | bool
  | str
  deriving DecidableEq, Inhabited

/-- What kind of thing is held against nil. -/
inductive EK where
  | iface
  | ptr
  | sl
  | fn
  deriving DecidableEq, Inhabited

inductive AK where
  | mv
  | pick
  | bin (op : BinOp)
  | eqs (neg : Bool) (sh : List Sc)
  | eqb (neg : Bool)
  | eqn (e : EK) (neg lit : Bool)
  | un (op : UnOp)
  | convInt (k : IntKind)
  | convRune
  | convId
  | bytesToStr
  | strToBytes
  | mkIface (t : TypeId)
  | mkFn (f : FuncId) (m : Nat)
  | len (s : Bool)
  | slc (k : Option Nat) (lo hi : Bool)
  | fieldAddr (o : Nat)
  | field (o s : Nat) (ag : Bool)
  | idxAddr (k : Nat)
  | idxArr (k n : Nat)
  | idxStr
  | idxAgg (k n : Nat) (ag : Bool)
  | nilchk
  | extract (i : Nat)
  | load (s : Nat) (ag : Bool)
  | store (s : Nat)
  | alloc (z : List AV)
  | box
  | build (z : List AV) (pl : List (Nat × Nat))
  | bslice (k : Nat)
  | make (k bytes : Nat) (z : AV)
  | append (k bytes : Nat)
  | copy (k : Nat)
  | min
  | max
  | call (f : FuncId) (rd : Bool)
  | callv (rd : Bool)
  | appendS
  | stuck
  | callp (f : FuncId)
  | callvp
  | panic
  deriving Inhabited

structure AI where
  dst : Option Nat
  g : Option (Nat × Bool)
  k : AK
  xs : List Opd
  deriving Inhabited

/-- In which order a region's operations are looked at; where their order matters, each way that it may go. -/
inductive OT where
  | done
  | step (j : Nat) (t : OT)
  | alt (a b : OT)
  deriving Inhabited

inductive AC where
  | skip
  | reg (L : List Nat) (draw : Bool) (ops : List AI)
  | seq (a b : AC)
  | cond (c : Opd) (a b : AC)
  | block (id : Nat) (L : List Nat) (c : AC)
  | loop (L : List Nat) (c : AC)
  | exit (id : Nat)
  | ret
  | stuck
  | regt (L : List Nat) (draw : Bool) (ops : List AI) (t : OT)
  | label
  | goto (l : Nat)
  | scope (L : List Nat) (l : Nat) (c r : AC)
  deriving Inhabited

/-! ### Abstract steps -/

def intBin (op : BinOp) (k : IntKind) (a b : Int) : Option AV :=
  match op with
  | .add => some (.int k (k.wrap (a + b)))
  | .sub => some (.int k (k.wrap (a - b)))
  | .mul => some (.int k (k.wrap (a * b)))
  | .quo => if b = 0 then none else some (.int k (k.wrap (a.tdiv b)))
  | .rem => if b = 0 then none else some (.int k (a.tmod b))
  | .and => some (.int k (k.wrap (BitVec.ofInt k.bits a &&& BitVec.ofInt k.bits b).toNat))
  | .or => some (.int k (k.wrap (BitVec.ofInt k.bits a ||| BitVec.ofInt k.bits b).toNat))
  | .xor => some (.int k (k.wrap (BitVec.ofInt k.bits a ^^^ BitVec.ofInt k.bits b).toNat))
  | .andNot => some (.int k (k.wrap (BitVec.ofInt k.bits a &&& ~~~BitVec.ofInt k.bits b).toNat))
  | .eql => some (.bool (a == b))
  | .neq => some (.bool (a != b))
  | .lss => some (.bool (decide (a < b)))
  | .leq => some (.bool (decide (a ≤ b)))
  | .gtr => some (.bool (decide (a > b)))
  | .geq => some (.bool (decide (a ≥ b)))
  | _ => none

def shiftBin (op : BinOp) (k : IntKind) (a b : Int) : Option AV :=
  if b < 0 then none else
  match op with
  | .shl => some (.int k (k.wrap (a * 2 ^ Nat.min b.toNat k.bits)))
  | .shr => some (.int k (a.fdiv (2 ^ Nat.min b.toNat k.bits)))
  | _ => none

def strBin (op : BinOp) (a b : List UInt8) : Option AV :=
  match op with
  | .add => if a.length + b.length ≤ 9223372036854775807 then some (.str (a ++ b)) else none
  | .eql => some (.bool (a == b))
  | .neq => some (.bool (!(a == b)))
  | .lss => some (.bool (Op.bytesLess a b))
  | .leq => some (.bool (Op.bytesLess a b || a == b))
  | .gtr => some (.bool (!(Op.bytesLess a b || a == b)))
  | .geq => some (.bool (!Op.bytesLess a b))
  | _ => none

def aBin (op : BinOp) : AV → AV → Option AV
  | .int k a, .int k' b =>
    if op = .shl ∨ op = .shr then shiftBin op k a b
    else if k = k' then intBin op k a b else none
  | .str a, .str b => strBin op a b
  | _, _ => none

/-- Two cells, held against each other by '=='. -/
def cellEq : Sc → AV → AV → Option Bool
  | .int k, .int k1 a, .int k2 b => if k1 = k ∧ k2 = k then some (a == b) else none
  | .bool, .bool a, .bool b => some (a == b)
  | .str, .str a, .str b => some (a == b)
  | _, _, _ => none
def cellsEq : List Sc → List AV → List AV → Option Bool
  | [], [], [] => some true
  | s :: r, a :: x, b :: y => match cellEq s a b, cellsEq r x y with
    | some p, some q => some (p && q)
    | _, _ => none
  | _, _, _ => none

/-- Is a slice nil? -/
def nilness : AV → Option Bool
  | .lst q _ _ => q
  | .sl (some false) _ _ _ _ => some false
  | .sl (some true) _ _ _ len => some (decide (len = 0))
  | _ => none
/-- '==' where one side is nil. -/
def eqNil : EK → Bool → AV → AV → Option Bool
  | .iface, lit, .nili, .nili => if lit then some true else none
  | .iface, _, .nili, .iface _ _ => some false
  | .iface, _, .iface _ _, .nili => some false
  | .ptr, _, .nilp, .nilp => some true
  | .ptr, _, .nilp, .ref .. => some false
  | .ptr, _, .nilp, .lref .. => some false
  | .ptr, _, .ref .., .nilp => some false
  | .ptr, _, .lref .., .nilp => some false
  | .fn, _, .nilf, .nilf => some true
  | .fn, _, .nilf, .fn .. => some false
  | .fn, _, .fn .., .nilf => some false
  | .sl, _, .lst (some true) _ _, x => nilness x
  | .sl, _, x, .lst (some true) _ _ => nilness x
  | _, _, _, _ => none

def aUn (op : UnOp) : AV → Option AV
  | .int k a => match op with
    | .neg => some (.int k (k.wrap (0 - a)))
    | .xor => some (.int k (k.wrap (BitVec.ofInt k.bits (if k.signed then -1 else k.max) ^^^ BitVec.ofInt k.bits a).toNat))
    | _ => none
  | .bool b => match op with
    | .not => some (.bool (!b))
    | _ => none
  | _ => none

def byteAV (c : UInt8) : AV := .int .u8 c.toNat
def bytesOf : List AV → Option (List UInt8)
  | [] => some []
  | .int .u8 n :: r => (bytesOf r).map (UInt8.ofNat n.toNat :: ·)
  | _ => none

/-- The elements of a slice, each w cells wide. -/
def view (H : Heap) (w : Nat) : AV → Option (List AV)
  | .lst _ k xs => if k = w then some xs else if xs.isEmpty then some [] else none
  | .sl _ b k off len => if k = w then (match H[b]? with
    | some (.row k' xs) => if k' = k ∧ off + len ≤ xs.length then some ((xs.drop off).take len) else none
    | some (.frz k' xs) => if k' = k ∧ off + len ≤ xs.length then some ((xs.drop off).take len) else none
    | _ => none) else none
  | _ => none

def aLen : Bool → AV → Option Nat
  | false, .lst _ _ xs => some xs.length
  | false, .sl _ _ _ _ len => some len
  | true, .str s => some s.length
  | _, _ => none

def aHi (l : Nat) : Option AV → Option Nat
  | none => some l
  | some (.int _ n) => if 0 ≤ n ∧ n ≤ (l : Int) then some n.toNat else none
  | _ => none
def aLo (h : Nat) : Option AV → Option Nat
  | none => some 0
  | some (.int _ n) => if 0 ≤ n ∧ n ≤ (h : Int) then some n.toNat else none
  | _ => none
def aBounds (l : Nat) (lo hi : Option AV) : Option (Nat × Nat) :=
  match aHi l hi with
  | none => none
  | some h => match aLo h lo with
    | none => none
    | some a => some (a, h)

/-- What a cut of a slice knows of its being nil. -/
def cutQ (q : Option Bool) (l h : Nat) : Option Bool :=
  match q with
  | some false => some false
  | some true => if l < h then some true else none
  | none => none
def cutQL (q : Option Bool) (l h : Nat) : Option Bool :=
  match q with
  | some true => if l < h then some false else some true
  | q => q

def aSlice (k : Option Nat) (x : AV) (lo hi : Option AV) : Option AV :=
  match k, x with
  | none, .str s => (aBounds s.length lo hi).map fun (l, h) => .str ((s.take h).drop l)
  | some k, .lst q k' xs => if k' = k ∨ xs.isEmpty = true then (aBounds xs.length lo hi).map fun (l, h) => .lst (cutQL q l h) k' ((xs.take h).drop l) else none
  | some k, .sl q b k' off len => if k' = k then (aBounds len lo hi).map fun (l, h) => .sl (cutQ q l h) b k (off + l) (h - l) else none
  | _, _ => none

def part (cs : List AV) (o s : Nat) (ag : Bool) : Option AV :=
  if ag then (if o + s ≤ cs.length then some (.agg ((cs.drop o).take s)) else none) else cs[o]?

/-- Where a pointer leads: the cells, and the place among them. -/
def ptrCells (H : Heap) : AV → Option (List AV × Nat)
  | .lref x o => some (x.cells, o)
  | .ref b k i o => match H[b]? with
    | some (.box cs) => if i = 0 then some (cs, o) else none
    | some (.row k' xs) => if k' = k then (xs[i]?).map fun x => (x.cells, o) else none
    | some (.frz k' xs) => if k' = k then (xs[i]?).map fun x => (x.cells, o) else none
    | _ => none
  | _ => none

def splice (cs : List AV) (o : Nat) (vs : List AV) : List AV := cs.take o ++ vs ++ cs.drop (o + vs.length)
def updElem (x : AV) (o : Nat) (v : AV) : AV :=
  match x with
  | .agg cs => .agg (splice cs o v.cells)
  | _ => v

def frzQ (q : Option Bool) (ys : List AV) : Option Bool :=
  match q with
  | some false => some false
  | some true => some ys.isEmpty
  | none => none

mutual
/-- Rows that a value leads to are shut: nobody writes them any more; the value becomes a list. Blocks below n0 are left alone. -/
def frzV (n0 : Nat) : AV → Heap → Option (AV × Heap)
  | .sl q b k off len, H =>
    if b < n0 then some (.sl q b k off len, H) else
    match H[b]? with
    | some (.row k' xs) => if k' = k ∧ off + len ≤ xs.length then some (.lst (frzQ q ((xs.drop off).take len)) k ((xs.drop off).take len), H.set b (.frz k' xs)) else none
    | some (.frz k' xs) => if k' = k ∧ off + len ≤ xs.length then some (.lst (frzQ q ((xs.drop off).take len)) k ((xs.drop off).take len), H) else none
    | _ => none
  | .agg cs, H => match frzL n0 cs H with
    | some (cs', H') => some (.agg cs', H')
    | none => none
  | .tup cs, H => match frzL n0 cs H with
    | some (cs', H') => some (.tup cs', H')
    | none => none
  | .iface t v, H => match frzV n0 v H with
    | some (v', H') => some (.iface t v', H')
    | none => none
  | v, H => some (v, H)
def frzL (n0 : Nat) : List AV → Heap → Option (List AV × Heap)
  | [], H => some ([], H)
  | x :: r, H => match frzV n0 x H with
    | some (x', H') => match frzL n0 r H' with
      | some (r', H'') => some (x' :: r', H'')
      | none => none
    | none => none
end

def fillAll (cs : List AV) : List (Nat × Nat) → List AV → Option (List AV)
  | [], [] => some cs
  | (o, s) :: pl, v :: vs => if v.cells.length = s ∧ o + s ≤ cs.length ∧ v.cells.all AV.one = true then fillAll (splice cs o v.cells) pl vs else none
  | _, _ => none

/-- One operation that is no call: the values of its operands; the heap. -/
def astep : AK → List AV → Heap → Option (AV × Heap)
  | .mv, [x], H => some (x, H)
  | .pick, [.bool c, x, y], H => some (if c then x else y, H)
  | .bin op, [x, y], H => (aBin op x y).map (·, H)
  | .eqs neg sh, [.agg x, .agg y], H => (cellsEq sh x y).map fun b => (.bool (if neg then !b else b), H)
  | .eqb neg, [.bool a, .bool b], H => some (.bool (if neg then !(a == b) else a == b), H)
  | .eqn e neg lit, [x, y], H => (eqNil e lit x y).map fun b => (.bool (if neg then !b else b), H)
  | .un op, [x], H => (aUn op x).map (·, H)
  | .convInt k, [.int _ n], H => some (.int k (k.wrap n), H)
  | .convRune, [.int _ n], H => some (.str (Utf8.encode n).data.toList, H)
  | .convId, [.str s], H => some (.str s, H)
  | .bytesToStr, [x], H => match view H 1 x with
    | some xs => (bytesOf xs).map fun s => (.str s, H)
    | none => none
  | .strToBytes, [.str s], H => if s.length ≤ 140737488355328 then some (.sl (some false) H.length 1 0 s.length, H ++ [.row 1 (s.map byteAV)]) else none
  | .mkIface t, [x], H => some (.iface t x, H)
  | .mkFn f m, xs, H => some (.fn f (xs.take m) (xs.drop m), H)
  | .len s, [x], H => (aLen s x).map fun (n : Nat) => (AV.int .i64 (n : Int), H)
  | .slc k lo hi, x :: ys, H => match lo, hi, ys with
    | true, true, [l, h] => (aSlice k x (some l) (some h)).map (·, H)
    | true, false, [l] => (aSlice k x (some l) none).map (·, H)
    | false, true, [h] => (aSlice k x none (some h)).map (·, H)
    | false, false, [] => (aSlice k x none none).map (·, H)
    | _, _, _ => none
  | .fieldAddr o, [x], H => match x with
    | .ref b k i oo => some (.ref b k i (oo + o), H)
    | .lref x oo => some (.lref x (oo + o), H)
    | _ => none
  | .field o s ag, [.agg cs], H => (part cs o s ag).map (·, H)
  | .idxAddr k, [x, .int _ n], H => if n < 0 then none else match x with
    | .lst _ k' xs => match xs[n.toNat]? with
      | some x => if k' = k then some (.lref x 0, H) else none
      | none => none
    | .sl _ b k' off len => if n < (len : Int) ∧ k' = k then some (.ref b k (off + n.toNat) 0, H) else none
    | _ => none
  | .idxArr k m, [x, .int _ n], H => if 0 ≤ n ∧ n < (m : Int) then (match x with
    | .ref b k' i oo => some (.ref b k' i (oo + n.toNat * k), H)
    | .lref x oo => some (.lref x (oo + n.toNat * k), H)
    | _ => none) else none
  | .idxStr, [.str s, .int _ n], H => if n < 0 then none else match s[n.toNat]? with
    | some c => some (byteAV c, H)
    | none => none
  | .idxAgg k m ag, [.agg cs, .int _ n], H => if 0 ≤ n ∧ n < (m : Int) then (part cs (n.toNat * k) k ag).map (·, H) else none
  | .nilchk, [x], H => match x with
    | .ref .. | .lref .. | .fn .. => some (x, H)
    | _ => none
  | .extract i, [.tup vs], H => (vs[i]?).map (·, H)
  | .load s ag, [p], H => match ptrCells H p with
    | some (cs, o) => (part cs o s ag).map (·, H)
    | none => none
  | .store s, [p, v], H => match p with
    | .ref b k i o =>
      if v.cells.length = s ∧ v.cells.all AV.one = true then
        match H[b]? with
        | some (.box cs) => if i = 0 ∧ o + s ≤ cs.length then some (.undef, H.set b (.box (splice cs o v.cells))) else none
        | some (.row _ _) => match frzV 0 v H with
          | some (v', H') => match H'[b]? with
            | some (.row k' xs) => match xs[i]? with
              | some x => if k' = k ∧ o + s ≤ k ∧ 0 < s ∧ v'.elem s = true then some (.undef, H'.set b (.row k' (xs.set i (updElem x o v')))) else none
              | none => none
            | _ => none
          | none => none
        | _ => none
      else none
    | _ => none
  | .alloc z, [], H => some (.ref H.length 0 0 0, H ++ [.box z])
  | .box, [x], H => if x.cells.all AV.one = true then some (.ref H.length 0 0 0, H ++ [.box x.cells]) else none
  | .build z pl, vs, H => (fillAll z pl vs).map fun cs => (.agg cs, H)
  | .bslice k, vs, H => match frzL 0 vs H with
    | some (vs', H') => if vs'.all (fun v => v.elem k) = true then some (.sl (some false) H'.length k 0 vs'.length, H' ++ [.row k vs']) else none
    | none => none
  | .make k bytes z, [.int _ l, .int _ c], H =>
    if 0 ≤ l ∧ l ≤ c ∧ (bytes : Int) * c ≤ 281474976710656 ∧ c ≤ 9223372036854775807 ∧ z.elem k = true then
      some (.sl (some false) H.length k 0 l.toNat, H ++ [.row k (List.replicate l.toNat z)]) else none
  | .append k bytes, [x, y], H => match view H k y with
    | some ys => match x with
      | .lst (some true) _ _ =>
        if ys.length ≤ 9223372036854775807 ∧ ys.length * bytes ≤ 140737488355328 then some (.sl (some true) H.length k 0 ys.length, H ++ [.row k ys]) else none
      | .sl q b k' off len => match H[b]? with
        | some (.row k'' xs) => if k' = k ∧ k'' = k ∧ off + len ≤ xs.length ∧ len + ys.length ≤ 9223372036854775807 ∧ (len + ys.length) * bytes ≤ 140737488355328 then
            some (.sl q H.length k 0 (len + ys.length), H.set b .dead ++ [.row k ((xs.drop off).take len ++ ys)]) else none
        | _ => none
      | _ => none
    | none => none
  | .appendS, [x, .str s], H => match x with
    | .lst (some true) _ _ => if s.isEmpty = true then some (x, H) else if s.length ≤ 140737488355328 then some (.sl (some true) H.length 1 0 s.length, H ++ [.row 1 (s.map byteAV)]) else none
    | .sl q b k' off len => if s.isEmpty = true then some (x, H) else match H[b]? with
      | some (.row k'' xs) => if k' = 1 ∧ k'' = 1 ∧ off + len ≤ xs.length ∧ len + s.length ≤ 140737488355328 then
          some (.sl q H.length 1 0 (len + s.length), H.set b .dead ++ [.row 1 ((xs.drop off).take len ++ s.map byteAV)]) else none
      | _ => none
    | _ => none
  | .min, [.int k a, .int k' b], H => if k = k' then some (.int k (if b < a then b else a), H) else none
  | .max, [.int k a, .int k' b], H => if k = k' then some (.int k (if b > a then b else a), H) else none
  | _, _, _ => none

/-- What is known of calls: function, arguments, heap; result, heap. -/
abbrev CSpec := FuncId → List AV → Heap → AV → Heap → Prop

/-- One operation. -/
def stepK (C : CSpec) (k : AK) (vs : List AV) (H : Heap) (K : AV → Heap → Prop) : Prop :=
  match k with
  | .call f rd => ∃ v H', C f vs H v H' ∧ (rd = true → H' = H) ∧ K v H'
  | .callv rd => match vs with
    | .fn f first caps :: args => ∃ v H', C f (first ++ args ++ caps) H v H' ∧ (rd = true → H' = H) ∧ K v H'
    | _ => False
  | k => match astep k vs H with
    | some (v, H') => K v H'
    | none => False

def put (fr : Fr) : Option Nat → AV → Fr
  | some d, v => (d, v) :: fr
  | none, _ => fr

/-- Does an operation run under a guard? 'want': what is wanted; then what lies in the slot (nothing, if that operation did not run itself). -/
def gd (want : Bool) : AV → Option Bool
  | .bool b => some (b == want)
  | .tup [] => some false
  | _ => none

def AWops (C : CSpec) (GT : Nat → Option AV) : List AI → Fr → Heap → (Fr → Heap → Prop) → Prop
  | [], fr, H, K => K fr H
  | i :: is, fr, H, K => match i.g with
    | none => stepK C i.k (i.xs.map (ev GT fr)) H fun v H' => AWops C GT is (put fr i.dst v) H' K
    | some (s, want) => match gd want (get fr s) with
      | some b => if b = true then stepK C i.k (i.xs.map (ev GT fr)) H fun v H' => AWops C GT is (put fr i.dst v) H' K
          else AWops C GT is (put fr i.dst (.tup [])) H K
      | none => False

/-- As 'stepK', where a call may end in a panic, too ('KP': with what value). That 'f args' panics with x is known as 'C f (.pan .undef :: args) H x H''. -/
def stepKP (C : CSpec) (k : AK) (vs : List AV) (H : Heap) (K KP : AV → Heap → Prop) : Prop :=
  match k with
  | .callp f => (∃ v H', C f vs H v H' ∧ K v H') ∨ (∃ x H', C f (.pan .undef :: vs) H x H' ∧ KP x H')
  | .callvp => match vs with
    | .fn f first caps :: args => (∃ v H', C f (first ++ args ++ caps) H v H' ∧ K v H') ∨ (∃ x H', C f (.pan .undef :: (first ++ args ++ caps)) H x H' ∧ KP x H')
    | _ => False
  | .panic => match vs with
    | [.iface t y] => KP (.iface t y) H
    | _ => False
  | k => stepK C k vs H K

/-- Operations in the order of a tree. -/
def AWT (C : CSpec) (GT : Nat → Option AV) (is : List AI) : OT → Fr → Heap → (Fr → Heap → Prop) → (AV → Heap → Prop) → Prop
  | .done, fr, H, K, _ => K fr H
  | .step j t, fr, H, K, KP => match is[j]? with
    | none => False
    | some i => match i.g with
      | none => stepKP C i.k (i.xs.map (ev GT fr)) H (fun v H' => AWT C GT is t (put fr i.dst v) H' K KP) KP
      | some (s, want) => match gd want (get fr s) with
        | some b => if b = true then stepKP C i.k (i.xs.map (ev GT fr)) H (fun v H' => AWT C GT is t (put fr i.dst v) H' K KP) KP
            else AWT C GT is t (put fr i.dst (.tup [])) H K KP
        | none => False
  | .alt a b, fr, H, K, KP => AWT C GT is a fr H K KP ∧ AWT C GT is b fr H K KP

inductive AE where
  | normal
  | exit (id : Nat)
  | ret
  | goto (l : Nat)
  | pan (x : AV)
  deriving Inhabited

abbrev Post := AE → Fr → Heap → Prop

def loopW (F : Post → Fr → Heap → Prop) (L : List Nat) (K : Post) : Nat → Fr → Heap → Prop
  | 0, _, _ => False
  | m + 1, fr, H => F (fun e fr' H' => match e with
    | .normal => loopW F L K m (restrict fr' L) H'
    | e => K e fr' H') fr H

def seqK (F : Fr → Heap → Prop) (K : Post) : Post := fun e fr H => match e with
  | .normal => F fr H
  | e => K e fr H
def blockK (id : Nat) (L : List Nat) (K : Post) : Post := fun e fr H => match e with
  | .normal => K .normal (restrict fr L) H
  | .exit j => if j = id then K .normal (restrict fr L) H else K (.exit j) fr H
  | .ret => K .ret fr H
  | .goto l => K (.goto l) fr H
  | .pan x => K (.pan x) fr H
/-- A jump to the label. -/
def jumpK (l : Nat) (G : Fr → Heap → Prop) (K : Post) : Post := fun e fr H => match e with
  | .normal => K .normal fr H
  | .exit j => K (.exit j) fr H
  | .ret => K .ret fr H
  | .goto l' => l' = l ∧ G fr H
  | .pan x => K (.pan x) fr H
/-- From the label on, again and again. -/
def gotoW (F : Post → Fr → Heap → Prop) (L : List Nat) (l : Nat) (K : Post) : Nat → Fr → Heap → Prop
  | 0, _, _ => False
  | m + 1, fr, H => F (jumpK l (fun fr' H' => gotoW F L l K m (restrict fr' L) H') K) fr H

/-- What a test has told. -/
def learn (fr : Fr) (c : Opd) (b : Bool) : Fr :=
  match c with
  | .tmp t => (t, .bool b) :: fr
  | _ => fr

def AW (C : CSpec) (GT : Nat → Option AV) : AC → Post → Fr → Heap → Prop
  | .skip, K, fr, H => K .normal fr H
  | .reg L _ ops, K, fr, H => AWops C GT ops (restrict fr L) H fun fr' H' => K .normal fr' H'
  | .seq a b, K, fr, H => AW C GT a (seqK (AW C GT b K) K) fr H
  | .cond c a b, K, fr, H => match ev GT fr c with
    | .bool t => if t = true then AW C GT a K (learn fr c true) H else AW C GT b K (learn fr c false) H
    | _ => False
  | .block id L c, K, fr, H => AW C GT c (blockK id L K) fr H
  | .loop L c, K, fr, H => ∃ m, loopW (AW C GT c) L K m (restrict fr L) H
  | .exit id, K, fr, H => K (.exit id) fr H
  | .ret, K, fr, H => K .ret fr H
  | .stuck, _, _, _ => False
  | .regt L _ ops t, K, fr, H => AWT C GT ops t (restrict fr L) H (fun fr' H' => K .normal fr' H') (fun x H' => K (.pan x) [] H')
  | .label, K, fr, H => K .normal fr H
  | .goto l, K, fr, H => K (.goto l) fr H
  | .scope L l c r, K, fr, H => AW C GT c (jumpK l (fun fr' H' => ∃ m, gotoW (AW C GT r) L l K m (restrict fr' L) H') K) fr H

/-! ### Functions -/

inductive ARes where
  | tmp (t : Nat)
  | cell (a s : Nat) (ag : Bool)
  deriving Inhabited

structure AF where
  keep : Bool := false
  results : List ARes
  body : AC
  deriving Inhabited

def resOf (fr : Fr) (H : Heap) : ARes → Option AV
  | .tmp t => some (get fr t)
  | .cell a s ag => match ptrCells H (get fr a) with
    | some (cs, o) => part cs o s ag
    | none => none
def resAll (fr : Fr) (H : Heap) : List ARes → Option (List AV)
  | [] => some []
  | r :: rs => match resOf fr H r, resAll fr H rs with
    | some v, some vs => some (v :: vs)
    | _, _ => none

def tupled : List AV → AV
  | [v] => v
  | vs => .tup vs

/-- Nothing that is kept came to name what goes. -/
def blkBel (n : Nat) : ABlk → Bool
  | .box cs => AV.belL n cs
  | _ => true
def OldOK (H H1 : Heap) : Prop := ∀ b, b < H.length → H1[b]? = H[b]? ∨ ∃ x, H1[b]? = some x ∧ blkBel H.length x = true

def retF (F : AF) (H : Heap) (fr : Fr) (H1 : Heap) (v : AV) (H' : Heap) : Prop :=
  match resAll fr H1 F.results with
  | none => False
  | some vs =>
    if F.keep then v = tupled vs ∧ H' = H1
    else match frzV H.length (tupled vs) H1 with
      | some (v', H2) => v'.bel H.length = true ∧ OldOK H H2 ∧ v = v' ∧ H' = H2.take H.length
      | none => False

def argFr : Nat → List AV → Fr
  | _, [] => []
  | i, v :: vs => (i, v) :: argFr (i + 1) vs

def AFun (C : CSpec) (GT : Nat → Option AV) (F : AF) (args : List AV) (H : Heap) (v : AV) (H' : Heap) : Prop :=
  AW C GT F.body (fun e fr H1 => match e with
    | .normal => retF F H fr H1 v H'
    | .ret => retF F H fr H1 v H'
    | _ => False) (argFr 0 args) H

/-- What a caller sees of a panic. -/
def panF (F : AF) (H : Heap) (x0 : AV) (H1 : Heap) (x : AV) (H' : Heap) : Prop :=
  if F.keep then x = x0 ∧ H' = H1
  else match frzV H.length x0 H1 with
    | some (x', H2) => x'.bel H.length = true ∧ OldOK H H2 ∧ x = x' ∧ H' = H2.take H.length
    | none => False

/-- The call ends in a panic. -/
def AFunP (C : CSpec) (GT : Nat → Option AV) (F : AF) (args : List AV) (H : Heap) (x : AV) (H' : Heap) : Prop :=
  AW C GT F.body (fun e _ H1 => match e with
    | .pan x0 => panF F H x0 H1 x H'
    | _ => False) (argFr 0 args) H

end Go.AM
