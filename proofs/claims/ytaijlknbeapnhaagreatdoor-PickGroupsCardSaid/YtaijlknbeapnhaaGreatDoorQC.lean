/- Several texts of mine in one (Am20, Am21, Am22, Am23, Am24, Am25, Am27, Am29). Own work. -/
import Derived.Test.YtaijlknbeapnhaaGreatDoorQB
import Derived.IntWalk
import Derived.Below
import Derived.WideShapes

/- The abstract machine, part 20: what abstract code asks, event by event ('EW'). A weakest precondition whose heads are few shut words; all else goes away by unfolding. Own work. -/
set_option linter.all false
namespace Go.AM

/-! ### Events -/

def condPW (b : Bool) (A B : Prop) : Prop := match b with | true => A | false => B
structure condP (b : Bool) (A B : Prop) : Prop where
  h : condPW b A B
theorem condP_def (b : Bool) (A B : Prop) : condP b A B = condPW b A B := propext ⟨fun x => x.h, fun x => ⟨x⟩⟩
def optPW {α : Type} (o : Option α) (K : α → Prop) : Prop := ∃ v, o = some v ∧ K v
structure optP {α : Type} (o : Option α) (K : α → Prop) : Prop where
  h : optPW o K
theorem optP_def {α : Type} (o : Option α) (K : α → Prop) : optP o K = optPW o K := propext ⟨fun x => x.h, fun x => ⟨x⟩⟩
def needPW (p K : Prop) : Prop := p ∧ K
structure needP (p K : Prop) : Prop where
  h : needPW p K
theorem needP_def (p K : Prop) : needP p K = needPW p K := propext ⟨fun x => x.h, fun x => ⟨x⟩⟩
def valPW (x : Int) (K : Int → Prop) : Prop := K x
structure valP (x : Int) (K : Int → Prop) : Prop where
  h : valPW x K
theorem valP_def (x : Int) (K : Int → Prop) : valP x K = valPW x K := propext ⟨fun x => x.h, fun x => ⟨x⟩⟩
def actPW (k : AK) (vs : List AV) (H : Heap) (K : AV → Heap → Prop) : Prop := ∃ v H', astep k vs H = some (v, H') ∧ K v H'
structure actP (k : AK) (vs : List AV) (H : Heap) (K : AV → Heap → Prop) : Prop where
  h : actPW k vs H K
theorem actP_def (k : AK) (vs : List AV) (H : Heap) (K : AV → Heap → Prop) : actP k vs H K = actPW k vs H K := propext ⟨fun x => x.h, fun x => ⟨x⟩⟩
def callPW (C : CSpec) (f : FuncId) (vs : List AV) (rd : Bool) (H : Heap) (K : AV → Heap → Prop) : Prop := ∃ v H', C f vs H v H' ∧ (rd = true → H' = H) ∧ K v H'
structure callP (C : CSpec) (f : FuncId) (vs : List AV) (rd : Bool) (H : Heap) (K : AV → Heap → Prop) : Prop where
  h : callPW C f vs rd H K
theorem callP_def (C : CSpec) (f : FuncId) (vs : List AV) (rd : Bool) (H : Heap) (K : AV → Heap → Prop) : callP C f vs rd H K = callPW C f vs rd H K := propext ⟨fun x => x.h, fun x => ⟨x⟩⟩
def idxPW (xs : List AV) (n : Int) (K : AV → Prop) : Prop := ∃ x, 0 ≤ n ∧ xs[n.toNat]? = some x ∧ K x
structure idxP (xs : List AV) (n : Int) (K : AV → Prop) : Prop where
  h : idxPW xs n K
theorem idxP_def (xs : List AV) (n : Int) (K : AV → Prop) : idxP xs n K = idxPW xs n K := propext ⟨fun x => x.h, fun x => ⟨x⟩⟩
def chrPW (s : List UInt8) (n : Int) (K : UInt8 → Prop) : Prop := ∃ c, 0 ≤ n ∧ s[n.toNat]? = some c ∧ K c
structure chrP (s : List UInt8) (n : Int) (K : UInt8 → Prop) : Prop where
  h : chrPW s n K
theorem chrP_def (s : List UInt8) (n : Int) (K : UInt8 → Prop) : chrP s n K = chrPW s n K := propext ⟨fun x => x.h, fun x => ⟨x⟩⟩
def retPW (F : AF) (H : Heap) (fr : Fr) (H1 : Heap) (v : AV) (H' : Heap) : Prop := retF F H fr H1 v H'
structure retP (F : AF) (H : Heap) (fr : Fr) (H1 : Heap) (v : AV) (H' : Heap) : Prop where
  h : retPW F H fr H1 v H'
theorem retP_def (F : AF) (H : Heap) (fr : Fr) (H1 : Heap) (v : AV) (H' : Heap) : retP F H fr H1 v H' = retPW F H fr H1 v H' := propext ⟨fun x => x.h, fun x => ⟨x⟩⟩

theorem sCondT {A B : Prop} (h : A) : condP true A B := by rw [condP_def]; unfold condPW; exact h
theorem sCondF {A B : Prop} (h : B) : condP false A B := by rw [condP_def]; unfold condPW; exact h
theorem sCond {b : Bool} {A B : Prop} (ht : b = true → A) (hf : b = false → B) : condP b A B := by
  rw [condP_def]; unfold condPW; cases b
  · exact hf rfl
  · exact ht rfl
theorem sOpt {α : Type} {o : Option α} {K : α → Prop} {v : α} (h : o = some v) (k : K v) : optP o K := by rw [optP_def]; unfold optPW; exact ⟨v, h, k⟩
theorem sNeed {p K : Prop} (h : p) (k : K) : needP p K := by rw [needP_def]; unfold needPW; exact ⟨h, k⟩
theorem sVal {x r : Int} {K : Int → Prop} (h : x = r) (k : K r) : valP x K := by rw [valP_def]; unfold valPW; subst h; exact k
theorem sAct {k : AK} {vs : List AV} {H H' : Heap} {K : AV → Heap → Prop} {v : AV} (h : astep k vs H = some (v, H')) (hk : K v H') : actP k vs H K := by rw [actP_def]; unfold actPW; exact ⟨v, H', h, hk⟩
theorem sCall {C : CSpec} {f : FuncId} {vs : List AV} {rd : Bool} {H H' : Heap} {K : AV → Heap → Prop} {v : AV} (h : C f vs H v H') (hr : rd = true → H' = H) (k : K v H') : callP C f vs rd H K := by rw [callP_def]; unfold callPW; exact ⟨v, H', h, hr, k⟩
theorem sCall0 {C : CSpec} {f : FuncId} {vs : List AV} {rd : Bool} {H : Heap} {K : AV → Heap → Prop} {v : AV} (h : C f vs H v H) (k : K v H) : callP C f vs rd H K := by rw [callP_def]; unfold callPW; exact ⟨v, H, h, fun _ => rfl, k⟩
theorem sIdxP {xs : List AV} {n : Int} {i : Nat} {x : AV} {K : AV → Prop} (hn : n = (i : Int)) (h : xs[i]? = some x) (k : K x) : idxP xs n K := by rw [idxP_def]; unfold idxPW; subst hn; exact ⟨x, Int.natCast_nonneg i, by simpa using h, k⟩
theorem sChr {s : List UInt8} {n : Int} {i : Nat} {c : UInt8} {K : UInt8 → Prop} (hn : n = (i : Int)) (h : s[i]? = some c) (k : K c) : chrP s n K := by rw [chrP_def]; unfold chrPW; subst hn; exact ⟨c, Int.natCast_nonneg i, by simpa using h, k⟩
theorem sRet {F : AF} {H H1 H' : Heap} {fr : Fr} {v : AV} (h : retF F H fr H1 v H') : retP F H fr H1 v H' := by rw [retP_def]; unfold retPW; exact h

/-! ### One operation -/

def intN (op : BinOp) (k : IntKind) (a b : Int) (K : AV → Prop) : Prop :=
  match op with
  | .add => valP (k.wrap (a + b)) fun r => K (.int k r)
  | .sub => valP (k.wrap (a - b)) fun r => K (.int k r)
  | .mul => valP (k.wrap (a * b)) fun r => K (.int k r)
  | .quo => needP (b ≠ 0) (valP (k.wrap (a.tdiv b)) fun r => K (.int k r))
  | .rem => needP (b ≠ 0) (valP (a.tmod b) fun r => K (.int k r))
  | .eql => K (.bool (a == b))
  | .neq => K (.bool (a != b))
  | .lss => K (.bool (decide (a < b)))
  | .leq => K (.bool (decide (a ≤ b)))
  | .gtr => K (.bool (decide (a > b)))
  | .geq => K (.bool (decide (a ≥ b)))
  | op => optP (intBin op k a b) K

def isShift : BinOp → Bool
  | .shl => true
  | .shr => true
  | _ => false

def strN (op : BinOp) (a b : List UInt8) (K : AV → Prop) : Prop :=
  match op with
  | .add => needP (a.length + b.length ≤ 9223372036854775807) (K (.str (a ++ b)))
  | .eql => K (.bool (a == b))
  | .neq => K (.bool (!(a == b)))
  | .lss => K (.bool (Op.bytesLess a b))
  | op => optP (strBin op a b) K

def sameKind (a b : IntKind) : Bool := decide (a = b)

def binN (op : BinOp) (x y : AV) (K : AV → Prop) : Prop :=
  match x with
  | .int k a => (match y with
    | .int k' b => (match isShift op with
      | true => optP (shiftBin op k a b) K
      | false => (match sameKind k k' with
        | true => intN op k a b K
        | false => False))
    | _ => False)
  | .str a => (match y with
    | .str b => strN op a b K
    | _ => False)
  | _ => False

def boolN (x : AV) (K : Bool → Prop) : Prop :=
  match x with
  | .bool b => K b
  | _ => False

def negB (neg : Bool) (b : Bool) : Bool := match neg with | true => !b | false => b

def unN (op : UnOp) (x : AV) (K : AV → Prop) : Prop :=
  match x with
  | .bool b => (match op with
    | .not => K (.bool (!b))
    | _ => False)
  | x => optP (aUn op x) K

def lenPW (x : AV) (K : Int → Prop) : Prop :=
  match x with
  | .lst _ _ xs => K (xs.length : Int)
  | .sl _ _ _ _ n => K (n : Int)
  | _ => False
structure lenP (x : AV) (K : Int → Prop) : Prop where
  h : lenPW x K
theorem lenP_def (x : AV) (K : Int → Prop) : lenP x K = lenPW x K := propext ⟨fun x => x.h, fun x => ⟨x⟩⟩

def lenN (s : Bool) (x : AV) (K : Int → Prop) : Prop :=
  match s with
  | true => (match x with
    | .str t => K (t.length : Int)
    | _ => False)
  | false => lenP x K

def toInt (x : AV) (K : Int → Prop) : Prop :=
  match x with
  | .int _ n => K n
  | _ => False

def idxNW (k : Nat) (x : AV) (n : Int) (K : AV → Prop) : Prop :=
  match x with
  | .lst _ k' xs => needP (k' = k) (idxP xs n fun x => K (.lref x 0))
  | .sl _ b k' off len => needP (k' = k ∧ 0 ≤ n ∧ n < (len : Int)) (K (.ref b k (off + n.toNat) 0))
  | _ => False
structure idxN (k : Nat) (x : AV) (n : Int) (K : AV → Prop) : Prop where
  h : idxNW k x n K
theorem idxN_def (k : Nat) (x : AV) (n : Int) (K : AV → Prop) : idxN k x n K = idxNW k x n K := propext ⟨fun x => x.h, fun x => ⟨x⟩⟩

def loadNW (s : Nat) (ag : Bool) (p : AV) (H : Heap) (K : AV → Prop) : Prop :=
  match p with
  | .lref x o => optP (part x.cells o s ag) K
  | p => optP (ptrCells H p) fun co => optP (part co.1 co.2 s ag) K
structure loadN (s : Nat) (ag : Bool) (p : AV) (H : Heap) (K : AV → Prop) : Prop where
  h : loadNW s ag p H K
theorem loadN_def (s : Nat) (ag : Bool) (p : AV) (H : Heap) (K : AV → Prop) : loadN s ag p H K = loadNW s ag p H K := propext ⟨fun x => x.h, fun x => ⟨x⟩⟩

def slcN (k : Option Nat) (lo hi : Bool) (vs : List AV) (K : AV → Prop) : Prop :=
  match vs with
  | [] => False
  | x :: ys => (match lo with
    | true => (match hi with
      | true => (match ys with
        | [l, h] => optP (aSlice k x (some l) (some h)) K
        | _ => False)
      | false => (match ys with
        | [l] => optP (aSlice k x (some l) none) K
        | _ => False))
    | false => (match hi with
      | true => (match ys with
        | [h] => optP (aSlice k x none (some h)) K
        | _ => False)
      | false => (match ys with
        | [] => optP (aSlice k x none none) K
        | _ => False)))

def offN (o : Nat) (x : AV) (K : AV → Prop) : Prop :=
  match x with
  | .ref b k i oo => K (.ref b k i (oo + o))
  | .lref x oo => K (.lref x (oo + o))
  | _ => False

def fieldN (o s : Nat) (ag : Bool) (x : AV) (K : AV → Prop) : Prop :=
  match x with
  | .agg cs => optP (part cs o s ag) K
  | _ => False

def extN (i : Nat) (x : AV) (K : AV → Prop) : Prop :=
  match x with
  | .tup vs => optP (vs[i]?) K
  | _ => False

def eqsN (neg : Bool) (sh : List Sc) (x y : AV) (K : AV → Prop) : Prop :=
  match x with
  | .agg x => (match y with
    | .agg y => optP (cellsEq sh x y) fun b => K (.bool (negB neg b))
    | _ => False)
  | _ => False

def chkN (x : AV) (K : AV → Prop) : Prop :=
  match x with
  | .ref b k i o => K (.ref b k i o)
  | .lref y o => K (.lref y o)
  | .fn f a b => K (.fn f a b)
  | _ => False

def strOf (x : AV) (K : List UInt8 → Prop) : Prop :=
  match x with
  | .str s => K s
  | _ => False

def aggN (x : AV) (K : List AV → Prop) : Prop :=
  match x with
  | .agg cs => K cs
  | _ => False

def mmN (mx : Bool) (x y : AV) (K : AV → Prop) : Prop :=
  match x with
  | .int k a => (match y with
    | .int k' b => (match sameKind k k' with
      | true => (match mx with
        | true => valP (if b > a then b else a) fun r => K (.int k r)
        | false => valP (if b < a then b else a) fun r => K (.int k r))
      | false => False)
    | _ => False)
  | _ => False

def stepN (C : CSpec) (k : AK) (vs : List AV) (H : Heap) (K : AV → Heap → Prop) : Prop :=
  match k with
  | .mv => (match vs with
    | [x] => K x H
    | _ => False)
  | .pick => (match vs with
    | [c, x, y] => boolN c fun c => condP c (K x H) (K y H)
    | _ => False)
  | .bin op => (match vs with
    | [x, y] => binN op x y fun v => K v H
    | _ => False)
  | .eqs neg sh => (match vs with
    | [x, y] => eqsN neg sh x y fun v => K v H
    | _ => False)
  | .eqb neg => (match vs with
    | [x, y] => boolN x fun a => boolN y fun b => K (.bool (negB neg (a == b))) H
    | _ => False)
  | .eqn e neg lit => (match vs with
    | [x, y] => optP (eqNil e lit x y) fun b => K (.bool (negB neg b)) H
    | _ => False)
  | .un op => (match vs with
    | [x] => unN op x fun v => K v H
    | _ => False)
  | .convInt k => (match vs with
    | [x] => toInt x fun n => valP (k.wrap n) fun r => K (.int k r) H
    | _ => False)
  | .convRune => (match vs with
    | [x] => toInt x fun n => K (.str (Utf8.encode n).data.toList) H
    | _ => False)
  | .convId => (match vs with
    | [x] => strOf x fun s => K (.str s) H
    | _ => False)
  | .mkIface t => (match vs with
    | [x] => K (.iface t x) H
    | _ => False)
  | .mkFn f m => K (.fn f (vs.take m) (vs.drop m)) H
  | .len s => (match vs with
    | [x] => lenN s x fun n => K (.int .i64 n) H
    | _ => False)
  | .slc k lo hi => slcN k lo hi vs fun v => K v H
  | .fieldAddr o => (match vs with
    | [x] => offN o x fun v => K v H
    | _ => False)
  | .field o s ag => (match vs with
    | [x] => fieldN o s ag x fun v => K v H
    | _ => False)
  | .idxAddr k => (match vs with
    | [x, n] => toInt n fun n => idxN k x n fun v => K v H
    | _ => False)
  | .idxArr k m => (match vs with
    | [x, n] => toInt n fun n => needP (0 ≤ n ∧ n < (m : Int)) (offN (n.toNat * k) x fun v => K v H)
    | _ => False)
  | .idxStr => (match vs with
    | [x, n] => strOf x fun s => toInt n fun n => chrP s n fun c => K (byteAV c) H
    | _ => False)
  | .idxAgg k m ag => (match vs with
    | [x, n] => aggN x fun cs => toInt n fun n => needP (0 ≤ n ∧ n < (m : Int)) (optP (part cs (n.toNat * k) k ag) fun v => K v H)
    | _ => False)
  | .nilchk => (match vs with
    | [x] => chkN x fun v => K v H
    | _ => False)
  | .extract i => (match vs with
    | [x] => extN i x fun v => K v H
    | _ => False)
  | .load s ag => (match vs with
    | [p] => loadN s ag p H fun v => K v H
    | _ => False)
  | .alloc z => (match vs with
    | [] => K (.ref H.length 0 0 0) (H ++ [.box z])
    | _ => False)
  | .build z pl => optP (fillAll z pl vs) fun cs => K (.agg cs) H
  | .min => (match vs with
    | [x, y] => mmN false x y fun v => K v H
    | _ => False)
  | .max => (match vs with
    | [x, y] => mmN true x y fun v => K v H
    | _ => False)
  | .call f rd => callP C f vs rd H K
  | .callv rd => (match vs with
    | [] => False
    | x :: args => (match x with
      | .fn f first caps => callP C f (first ++ args ++ caps) rd H K
      | _ => False))
  | .stuck => False
  | k => actP k vs H K

/-! ### Operations in a row; code -/

/-- What is known of the slots that guards ask. -/
def decOf : List (Nat × Option Bool) → Nat → Option Bool
  | [], _ => none
  | (j, b) :: r, i => match Nat.beq j i with
    | true => b
    | false => decOf r i

/-- What lies in the slot that a guard asks: a truth value, or nothing. -/
def guardN (x : AV) (S : Prop) (K : Bool → Prop) : Prop :=
  match x with
  | .bool b => K b
  | .tup vs => (match vs with
    | [] => S
    | _ => False)
  | _ => False

def undec (dec : List (Nat × Option Bool)) : Option Nat → List (Nat × Option Bool)
  | some d => (d, none) :: dec
  | none => dec

/-- As 'get', 'restrict', 'ev', 'blockK', for the kernel. -/
def getF : Fr → Nat → AV
  | [], _ => .undef
  | p :: r, i => match Nat.beq p.1 i with
    | true => p.2
    | false => getF r i
def restrictF (fr : Fr) : List Nat → Fr
  | [] => []
  | i :: L => (i, getF fr i) :: restrictF fr L
def evF (GT : Nat → Option AV) (fr : Fr) : Opd → AV
  | .tmp t => getF fr t
  | .const v => v
  | .glob g => match GT g with
    | some x => .lref x 0
    | none => .undef
  | .fn f => .fn f [] []
def argsF (GT : Nat → Option AV) (fr : Fr) : List Opd → List AV
  | [] => []
  | x :: xs => evF GT fr x :: argsF GT fr xs
def blockF (id : Nat) (L : List Nat) (K : Post) : Post := fun e fr H => match e with
  | .normal => K .normal (restrictF fr L) H
  | .exit j => match Nat.beq j id with
    | true => K .normal (restrictF fr L) H
    | false => K (.exit j) fr H
  | .ret => K .ret fr H
  | .goto l => K (.goto l) fr H
  | .pan x => K (.pan x) fr H

/-- One operation, guarded or not; 'next': the others. -/
def opStep (C : CSpec) (GT : Nat → Option AV) (i : AI) (next : List (Nat × Option Bool) → Fr → Heap → (Fr → Heap → Prop) → Prop) (dec : List (Nat × Option Bool)) (fr : Fr) (H : Heap) (K : Fr → Heap → Prop) : Prop :=
  match i.g with
  | none => stepN C i.k (argsF GT fr i.xs) H fun v H' => next (undec dec i.dst) (put fr i.dst v) H' K
  | some (s, want) => match decOf dec s with
    | some b => (match b == want with
      | true => stepN C i.k (argsF GT fr i.xs) H fun v H' => next (undec dec i.dst) (put fr i.dst v) H' K
      | false => next (undec dec i.dst) (put fr i.dst (.tup [])) H K)
    | none => guardN (getF fr s) (next (undec dec i.dst) (put fr i.dst (.tup [])) H K) fun b => (match want with
      | true => condP b (stepN C i.k (argsF GT fr i.xs) H fun v H' => next (undec ((s, some true) :: dec) i.dst) (put ((s, .bool true) :: fr) i.dst v) H' K)
          (next (undec ((s, some false) :: dec) i.dst) (put ((s, .bool false) :: fr) i.dst (.tup [])) H K)
      | false => condP b (next (undec ((s, some true) :: dec) i.dst) (put ((s, .bool true) :: fr) i.dst (.tup [])) H K)
          (stepN C i.k (argsF GT fr i.xs) H fun v H' => next (undec ((s, some false) :: dec) i.dst) (put ((s, .bool false) :: fr) i.dst v) H' K))

/-- Operations in a row. (By the recursor itself: the kernel then sees what the elaborator saw.) -/
def EWops (C : CSpec) (GT : Nat → Option AV) (is : List AI) : List (Nat × Option Bool) → Fr → Heap → (Fr → Heap → Prop) → Prop :=
  List.rec (motive := fun _ => List (Nat × Option Bool) → Fr → Heap → (Fr → Heap → Prop) → Prop) (fun _ fr H K => K fr H) (fun i _ ih dec fr H K => opStep C GT i ih dec fr H K) is
theorem EWops_cons {C : CSpec} {GT : Nat → Option AV} {i : AI} {is : List AI} {dec : List (Nat × Option Bool)} {fr : Fr} {H : Heap} {K : Fr → Heap → Prop} : EWops C GT (i :: is) dec fr H K = opStep C GT i (EWops C GT is) dec fr H K := rfl

/-- What holds at a frame that reads as one where K holds. -/
def closeK (K : Post) : Post := fun e f H => ∃ f', get f' = get f ∧ K e f' H

def loopPW (C : CSpec) (GT : Nat → Option AV) (L : List Nat) (c : AC) (K : Post) (fr : Fr) (H : Heap) : Prop := AWL C GT L c (closeK K) fr H
structure loopP (C : CSpec) (GT : Nat → Option AV) (L : List Nat) (c : AC) (K : Post) (fr : Fr) (H : Heap) : Prop where
  h : loopPW C GT L c K fr H
theorem loopP_def (C : CSpec) (GT : Nat → Option AV) (L : List Nat) (c : AC) (K : Post) (fr : Fr) (H : Heap) : loopP C GT L c K fr H = loopPW C GT L c K fr H := propext ⟨fun x => x.h, fun x => ⟨x⟩⟩

/-! ### Calls that may panic; trees of orders; jumps -/

def callPPW (C : CSpec) (f : FuncId) (vs : List AV) (H : Heap) (K KP : AV → Heap → Prop) : Prop := (∃ v H', C f vs H v H' ∧ K v H') ∨ (∃ x H', C f (.pan .undef :: vs) H x H' ∧ KP x H')
structure callPP (C : CSpec) (f : FuncId) (vs : List AV) (H : Heap) (K KP : AV → Heap → Prop) : Prop where
  h : callPPW C f vs H K KP
theorem callPP_def (C : CSpec) (f : FuncId) (vs : List AV) (H : Heap) (K KP : AV → Heap → Prop) : callPP C f vs H K KP = callPPW C f vs H K KP := propext ⟨fun x => x.h, fun x => ⟨x⟩⟩
def altPW (A B : Prop) : Prop := A ∧ B
structure altP (A B : Prop) : Prop where
  h : altPW A B
theorem altP_def (A B : Prop) : altP A B = altPW A B := propext ⟨fun x => x.h, fun x => ⟨x⟩⟩

/-- A call returns. -/
theorem sCallN {C : CSpec} {f : FuncId} {vs : List AV} {H H' : Heap} {K KP : AV → Heap → Prop} {v : AV} (h : C f vs H v H') (k : K v H') : callPP C f vs H K KP := by rw [callPP_def]; unfold callPPW; exact .inl ⟨v, H', h, k⟩
/-- A call panics. -/
theorem sCallX {C : CSpec} {f : FuncId} {vs : List AV} {H H' : Heap} {K KP : AV → Heap → Prop} {x : AV} (h : C f (.pan .undef :: vs) H x H') (k : KP x H') : callPP C f vs H K KP := by rw [callPP_def]; unfold callPPW; exact .inr ⟨x, H', h, k⟩
theorem sAlt {A B : Prop} (a : A) (b : B) : altP A B := by rw [altP_def]; exact ⟨a, b⟩

def stepNP (C : CSpec) (k : AK) (vs : List AV) (H : Heap) (K KP : AV → Heap → Prop) : Prop :=
  match k with
  | .callp f => callPP C f vs H K KP
  | .callvp => (match vs with
    | [] => False
    | x :: args => (match x with
      | .fn f first caps => callPP C f (first ++ args ++ caps) H K KP
      | _ => False))
  | .panic => (match vs with
    | [x] => (match x with
      | .iface t y => KP (.iface t y) H
      | _ => False)
    | _ => False)
  | k => stepN C k vs H K

def opStepT (C : CSpec) (GT : Nat → Option AV) (i : AI) (next : List (Nat × Option Bool) → Fr → Heap → (Fr → Heap → Prop) → (AV → Heap → Prop) → Prop) (dec : List (Nat × Option Bool)) (fr : Fr) (H : Heap) (K : Fr → Heap → Prop) (KP : AV → Heap → Prop) : Prop :=
  match i.g with
  | none => stepNP C i.k (argsF GT fr i.xs) H (fun v H' => next (undec dec i.dst) (put fr i.dst v) H' K KP) KP
  | some (s, want) => match decOf dec s with
    | some b => (match b == want with
      | true => stepNP C i.k (argsF GT fr i.xs) H (fun v H' => next (undec dec i.dst) (put fr i.dst v) H' K KP) KP
      | false => next (undec dec i.dst) (put fr i.dst (.tup [])) H K KP)
    | none => guardN (getF fr s) (next (undec dec i.dst) (put fr i.dst (.tup [])) H K KP) fun b => (match want with
      | true => condP b (stepNP C i.k (argsF GT fr i.xs) H (fun v H' => next (undec ((s, some true) :: dec) i.dst) (put ((s, .bool true) :: fr) i.dst v) H' K KP) KP)
          (next (undec ((s, some false) :: dec) i.dst) (put ((s, .bool false) :: fr) i.dst (.tup [])) H K KP)
      | false => condP b (next (undec ((s, some true) :: dec) i.dst) (put ((s, .bool true) :: fr) i.dst (.tup [])) H K KP)
          (stepNP C i.k (argsF GT fr i.xs) H (fun v H' => next (undec ((s, some false) :: dec) i.dst) (put ((s, .bool false) :: fr) i.dst v) H' K KP) KP))

def nthAI : List AI → Nat → Option AI
  | [], _ => none
  | i :: _, 0 => some i
  | _ :: is, n + 1 => nthAI is n

def EWT (C : CSpec) (GT : Nat → Option AV) (is : List AI) (t : OT) : List (Nat × Option Bool) → Fr → Heap → (Fr → Heap → Prop) → (AV → Heap → Prop) → Prop :=
  OT.rec (motive := fun _ => List (Nat × Option Bool) → Fr → Heap → (Fr → Heap → Prop) → (AV → Heap → Prop) → Prop) (fun _ fr H K _ => K fr H)
    (fun j _ ih dec fr H K KP => match nthAI is j with
      | none => False
      | some i => opStepT C GT i ih dec fr H K KP)
    (fun _ _ iha ihb dec fr H K KP => altP (iha dec fr H K KP) (ihb dec fr H K KP)) t

def gotoPW (C : CSpec) (GT : Nat → Option AV) (L : List Nat) (l : Nat) (r : AC) (K : Post) (fr : Fr) (H : Heap) : Prop := ∃ m, gotoW (AW C GT r) L l (closeK K) m fr H
structure gotoP (C : CSpec) (GT : Nat → Option AV) (L : List Nat) (l : Nat) (r : AC) (K : Post) (fr : Fr) (H : Heap) : Prop where
  h : gotoPW C GT L l r K fr H
theorem gotoP_def (C : CSpec) (GT : Nat → Option AV) (L : List Nat) (l : Nat) (r : AC) (K : Post) (fr : Fr) (H : Heap) : gotoP C GT L l r K fr H = gotoPW C GT L l r K fr H := propext ⟨fun x => x.h, fun x => ⟨x⟩⟩

def EW (C : CSpec) (GT : Nat → Option AV) (c : AC) : Post → Fr → Heap → Prop :=
  AC.rec (motive := fun _ => Post → Fr → Heap → Prop)
    (fun K fr H => K .normal fr H)
    (fun L _ ops K fr H => EWops C GT ops [] (restrictF fr L) H fun fr' H' => K .normal fr' H')
    (fun _ _ iha ihb K fr H => iha (seqK (ihb K) K) fr H)
    (fun c _ _ iha ihb K fr H => boolN (evF GT fr c) fun t => condP t (iha K (learn fr c true) H) (ihb K (learn fr c false) H))
    (fun id L _ ih K fr H => ih (blockF id L K) fr H)
    (fun L c _ K fr H => loopP C GT L c K (restrictF fr L) H)
    (fun id K fr H => K (.exit id) fr H)
    (fun K fr H => K .ret fr H)
    (fun _ _ _ => False)
    (fun L _ ops t K fr H => EWT C GT ops t [] (restrictF fr L) H (fun fr' H' => K .normal fr' H') (fun x H' => K (.pan x) [] H'))
    (fun K fr H => K .normal fr H)
    (fun l K fr H => K (.goto l) fr H)
    (fun L l _ r ihc _ K fr H => ihc (jumpK l (fun fr' H' => gotoP C GT L l r K (restrictF fr' L) H') K) fr H) c

end Go.AM

/- The abstract machine, part 21: the events' precondition is at least as strong as the abstract machine's. Own work. -/
set_option linter.all false
namespace Go.AM

theorem condP_iff {b : Bool} {A B : Prop} : condP b A B ↔ (if b = true then A else B) := by rw [condP_def]; unfold condPW; cases b <;> simp
theorem optP_iff {α : Type} {o : Option α} {K : α → Prop} : optP o K ↔ ∃ v, o = some v ∧ K v := by rw [optP_def]; unfold optPW; exact Iff.rfl
theorem needP_iff {p K : Prop} : needP p K ↔ p ∧ K := by rw [needP_def]; unfold needPW; exact Iff.rfl
theorem valP_iff {x : Int} {K : Int → Prop} : valP x K ↔ K x := by rw [valP_def]; unfold valPW; exact Iff.rfl
theorem actP_iff {k : AK} {vs : List AV} {H : Heap} {K : AV → Heap → Prop} : actP k vs H K ↔ ∃ v H', astep k vs H = some (v, H') ∧ K v H' := by rw [actP_def]; unfold actPW; exact Iff.rfl
theorem callP_iff {C : CSpec} {f : FuncId} {vs : List AV} {rd : Bool} {H : Heap} {K : AV → Heap → Prop} : callP C f vs rd H K ↔ ∃ v H', C f vs H v H' ∧ (rd = true → H' = H) ∧ K v H' := by rw [callP_def]; unfold callPW; exact Iff.rfl
theorem idxP_iff {xs : List AV} {n : Int} {K : AV → Prop} : idxP xs n K ↔ ∃ x, 0 ≤ n ∧ xs[n.toNat]? = some x ∧ K x := by rw [idxP_def]; unfold idxPW; exact Iff.rfl
theorem chrP_iff {s : List UInt8} {n : Int} {K : UInt8 → Prop} : chrP s n K ↔ ∃ c, 0 ≤ n ∧ s[n.toNat]? = some c ∧ K c := by rw [chrP_def]; unfold chrPW; exact Iff.rfl
theorem retP_iff {F : AF} {H H1 H' : Heap} {fr : Fr} {v : AV} : retP F H fr H1 v H' ↔ retF F H fr H1 v H' := by rw [retP_def]; unfold retPW; exact Iff.rfl
theorem loopP_iff {C : CSpec} {GT : Nat → Option AV} {c : AC} {L : List Nat} {K : Post} {fr : Fr} {H : Heap} : loopP C GT L c K fr H ↔ AWL C GT L c (closeK K) fr H := by rw [loopP_def]; unfold loopPW; exact Iff.rfl

theorem boolN_iff {x : AV} {K : Bool → Prop} : boolN x K ↔ ∃ b, x = .bool b ∧ K b := by
  unfold boolN; cases x <;> simp
theorem guardN_iff {x : AV} {S : Prop} {K : Bool → Prop} : guardN x S K ↔ (x = .tup [] ∧ S) ∨ ∃ b, x = .bool b ∧ K b := by
  unfold guardN
  cases x with
  | tup vs => cases vs <;> simp
  | _ => simp
theorem toInt_iff {x : AV} {K : Int → Prop} : toInt x K ↔ ∃ k n, x = .int k n ∧ K n := by
  unfold toInt; cases x <;> simp
  exact ⟨fun h => ⟨_, _, ⟨rfl, rfl⟩, h⟩, fun ⟨_, _, ⟨_, h1⟩, h2⟩ => h1 ▸ h2⟩
theorem strOf_iff {x : AV} {K : List UInt8 → Prop} : strOf x K ↔ ∃ s, x = .str s ∧ K s := by
  unfold strOf; cases x <;> simp
theorem aggN_iff {x : AV} {K : List AV → Prop} : aggN x K ↔ ∃ s, x = .agg s ∧ K s := by
  unfold aggN; cases x <;> simp

theorem act_of {k : AK} {vs : List AV} {H H' : Heap} {K : AV → Heap → Prop} {v : AV} (h : astep k vs H = some (v, H')) (hk : K v H') : actP k vs H K := sAct h hk

theorem intN_sound {op : BinOp} {k : IntKind} {a b : Int} {K : AV → Prop} (h : intN op k a b K) : ∃ v, intBin op k a b = some v ∧ K v := by
  unfold intN at h
  unfold intBin
  cases op <;> simp only [valP_iff, needP_iff, optP_iff] at h ⊢
  all_goals first
    | exact ⟨_, rfl, h⟩
    | (obtain ⟨h1, h2⟩ := h; rw [if_neg h1]; exact ⟨_, rfl, h2⟩)
    | exact h

theorem strN_sound {op : BinOp} {a b : List UInt8} {K : AV → Prop} (h : strN op a b K) : ∃ v, strBin op a b = some v ∧ K v := by
  unfold strN at h
  cases op <;> simp only [needP_iff, optP_iff] at h
  all_goals first
    | exact h
    | exact ⟨_, rfl, h⟩
    | (obtain ⟨h1, h2⟩ := h; exact ⟨_, by simp only [strBin]; rw [if_pos h1], h2⟩)

theorem binN_sound {op : BinOp} {x y : AV} {K : AV → Prop} (h : binN op x y K) : ∃ v, aBin op x y = some v ∧ K v := by
  unfold binN at h
  cases x <;> try exact h.elim
  case int k a =>
    cases y <;> try exact h.elim
    rename_i k' b
    simp only at h
    simp only [aBin]
    have hs : isShift op = true ↔ op = .shl ∨ op = .shr := by cases op <;> simp [isShift]
    cases hsh : isShift op with
    | true =>
      rw [hsh] at h
      rw [if_pos (hs.1 hsh)]
      exact optP_iff.1 h
    | false =>
      rw [hsh] at h
      rw [if_neg (fun e => by rw [hs.2 e] at hsh; cases hsh)]
      simp only [sameKind] at h
      by_cases hk : k = k'
      · rw [if_pos hk]
        simp only [hk, decide_true] at h
        rw [hk]
        exact intN_sound h
      · simp [hk] at h
  case str a =>
    cases y <;> try exact h.elim
    exact strN_sound h

theorem neg_eq (neg b : Bool) : negB neg b = if neg then !b else b := by cases neg <;> rfl

theorem lenN_sound {s : Bool} {x : AV} {K : Int → Prop} (h : lenN s x K) : ∃ n : Nat, aLen s x = some n ∧ K (n : Int) := by
  unfold lenN at h
  cases s
  · simp only at h
    rw [lenP_def] at h; unfold lenPW at h
    cases x <;> first | exact h.elim | exact ⟨_, rfl, h⟩
  · cases x <;> first | exact h.elim | exact ⟨_, rfl, h⟩

theorem slcN_sound {k : Option Nat} {lo hi : Bool} {vs : List AV} {H : Heap} {K : AV → Heap → Prop} (h : slcN k lo hi vs fun v => K v H) : actP (.slc k lo hi) vs H K := by
  unfold slcN at h
  cases vs with
  | nil => exact h.elim
  | cons x ys =>
    cases lo <;> cases hi <;> simp only at h <;> split at h
    all_goals first
      | exact h.elim
      | (obtain ⟨v, h1, h2⟩ := optP_iff.1 h; exact act_of (by simp only [astep, h1, Option.map_some]) h2)

theorem offN_sound {o : Nat} {x : AV} {K : AV → Prop} (h : offN o x K) : (∃ b k i oo, x = .ref b k i oo ∧ K (.ref b k i (oo + o))) ∨ ∃ y oo, x = .lref y oo ∧ K (.lref y (oo + o)) := by
  unfold offN at h
  cases x <;> first | exact h.elim | exact .inl ⟨_, _, _, _, rfl, h⟩ | exact .inr ⟨_, _, rfl, h⟩

theorem idxN_sound {k : Nat} {x : AV} {n : Int} {kk : IntKind} {H : Heap} {K : AV → Heap → Prop} (h : idxN k x n fun v => K v H) : actP (.idxAddr k) [x, .int kk n] H K := by
  rw [idxN_def] at h; unfold idxNW at h
  cases x <;> try exact h.elim
  case lst q k' xs =>
    simp only [needP_iff, idxP_iff] at h
    obtain ⟨hk, x, h0, h1, h2⟩ := h
    exact act_of (by simp only [astep]; rw [if_neg (by omega), h1]; simp only; rw [if_pos hk]) h2
  case sl q b k' off len =>
    simp only [needP_iff] at h
    obtain ⟨⟨hk, h0, h1⟩, h2⟩ := h
    exact act_of (by simp only [astep]; rw [if_neg (by omega), if_pos ⟨h1, hk⟩]) h2

theorem stepN_sound {C : CSpec} {k : AK} {vs : List AV} {H : Heap} {K : AV → Heap → Prop} (h : stepN C k vs H K) : stepK C k vs H K := by
  have fin : ∀ {k}, (∀ f rd, k ≠ .call f rd) → (∀ rd, k ≠ .callv rd) → actP k vs H K → stepK C k vs H K := by
    intro k h1 h2 ha
    obtain ⟨v, H', hs, hk⟩ := actP_iff.1 ha
    refine stepK_iff.2 ⟨v, H', ?_, hk⟩
    cases k <;> first | exact hs | exact absurd rfl (h1 _ _) | exact absurd rfl (h2 _)
  unfold stepN at h
  cases k
  case call f rd => exact callP_iff.1 h
  case callv rd =>
    simp only at h
    split at h
    · exact h.elim
    · split at h
      · exact callP_iff.1 h
      · exact h.elim
  case append => exact fin (by simp) (by simp) h
  case appendS => exact fin (by simp) (by simp) h
  case stuck => exact False.elim h
  case callp => exact fin (by simp) (by simp) h
  case callvp => exact fin (by simp) (by simp) h
  case panic => exact fin (by simp) (by simp) h
  case bytesToStr => exact fin (by simp) (by simp) h
  case strToBytes => exact fin (by simp) (by simp) h
  case store => exact fin (by simp) (by simp) h
  case box => exact fin (by simp) (by simp) h
  case bslice => exact fin (by simp) (by simp) h
  case make => exact fin (by simp) (by simp) h
  case copy => exact fin (by simp) (by simp) h
  case slc => exact fin (by simp) (by simp) (slcN_sound h)
  case mkFn => exact fin (by simp) (by simp) (act_of rfl h)
  case build =>
    obtain ⟨v, h1, h2⟩ := optP_iff.1 h
    exact fin (by simp) (by simp) (act_of (by simp only [astep, h1, Option.map_some]) h2)
  all_goals
    refine fin (by simp) (by simp) ?_
    clear fin
    simp only at h
    (rcases vs with _ | ⟨v1, _ | ⟨v2, _ | ⟨v3, _ | ⟨v4, vs⟩⟩⟩⟩ <;> try exact h.elim)
    try simp only at h
  case mv => exact act_of rfl h
  case pick =>
    replace h := boolN_iff.1 h; obtain ⟨c, rfl, h⟩ := h
    rw [condP_iff] at h
    cases c
    · exact act_of rfl h
    · exact act_of rfl h
  case bin =>
    obtain ⟨v, h1, h2⟩ := binN_sound h
    exact act_of (by simp only [astep, h1, Option.map_some]) h2
  case eqs =>
    unfold eqsN at h
    cases v1 <;> try exact h.elim
    cases v2 <;> try exact h.elim
    obtain ⟨v, h1, h2⟩ := optP_iff.1 h
    exact act_of (by simp only [astep, h1, Option.map_some, ← neg_eq]) h2
  case eqb =>
    replace h := boolN_iff.1 h; obtain ⟨a, rfl, h⟩ := h
    replace h := boolN_iff.1 h; obtain ⟨b, rfl, h⟩ := h
    exact act_of (by simp only [astep, ← neg_eq]) h
  case eqn =>
    obtain ⟨v, h1, h2⟩ := optP_iff.1 h
    exact act_of (by simp only [astep, h1, Option.map_some, ← neg_eq]) h2
  case un =>
    unfold unN at h
    split at h
    · split at h
      · exact act_of rfl h
      · exact h.elim
    · obtain ⟨v, h1, h2⟩ := optP_iff.1 h
      exact act_of (by simp only [astep, h1, Option.map_some]) h2
  case convInt =>
    replace h := toInt_iff.1 h; obtain ⟨k, n, rfl, h⟩ := h
    exact act_of rfl (valP_iff.1 h)
  case convRune =>
    replace h := toInt_iff.1 h; obtain ⟨k, n, rfl, h⟩ := h
    exact act_of rfl h
  case convId =>
    replace h := strOf_iff.1 h; obtain ⟨s, rfl, h⟩ := h
    exact act_of rfl h
  case mkIface => exact act_of rfl h
  case len =>
    obtain ⟨n, h1, h2⟩ := lenN_sound h
    exact act_of (by simp only [astep, h1, Option.map_some]) h2
  case fieldAddr =>
    rcases offN_sound h with ⟨b, k, i, oo, rfl, h⟩ | ⟨y, oo, rfl, h⟩ <;> exact act_of rfl h
  case field =>
    unfold fieldN at h
    split at h
    · obtain ⟨v, h1, h2⟩ := optP_iff.1 h
      exact act_of (by simp only [astep, h1, Option.map_some]) h2
    · exact h.elim
  case idxAddr =>
    replace h := toInt_iff.1 h; obtain ⟨kk, n, rfl, h⟩ := h
    exact idxN_sound h
  case idxArr =>
    replace h := toInt_iff.1 h; obtain ⟨kk, n, rfl, h⟩ := h
    obtain ⟨hn, h⟩ := needP_iff.1 h
    rcases offN_sound h with ⟨b, k, i, oo, rfl, h⟩ | ⟨y, oo, rfl, h⟩ <;> exact act_of (by simp only [astep]; rw [if_pos hn]) h
  case idxStr =>
    replace h := strOf_iff.1 h; obtain ⟨s, rfl, h⟩ := h
    replace h := toInt_iff.1 h; obtain ⟨kk, n, rfl, h⟩ := h
    obtain ⟨c, h0, h1, h2⟩ := chrP_iff.1 h
    exact act_of (by simp only [astep]; rw [if_neg (by omega), h1]) h2
  case idxAgg =>
    replace h := aggN_iff.1 h; obtain ⟨cs, rfl, h⟩ := h
    replace h := toInt_iff.1 h; obtain ⟨kk, n, rfl, h⟩ := h
    obtain ⟨hn, h⟩ := needP_iff.1 h
    obtain ⟨v, h1, h2⟩ := optP_iff.1 h
    exact act_of (by simp only [astep]; rw [if_pos hn, h1]; rfl) h2
  case nilchk =>
    unfold chkN at h
    split at h <;> first | exact h.elim | exact act_of rfl h
  case extract =>
    unfold extN at h
    split at h
    · obtain ⟨v, h1, h2⟩ := optP_iff.1 h
      exact act_of (by simp only [astep, h1, Option.map_some]) h2
    · exact h.elim
  case load =>
    rw [loadN_def] at h; unfold loadNW at h
    split at h
    · obtain ⟨v, h1, h2⟩ := optP_iff.1 h
      exact act_of (by simp only [astep, ptrCells, h1, Option.map_some]) h2
    · obtain ⟨⟨cs, o⟩, h0, h⟩ := optP_iff.1 h
      obtain ⟨v, h1, h2⟩ := optP_iff.1 h
      exact act_of (by simp only [astep, h0]; simp only at h1; simp only [h1, Option.map_some]) h2
  case alloc => exact act_of rfl h
  case min =>
    unfold mmN at h
    split at h
    · split at h
      · simp only [sameKind] at h
        split at h
        · rename_i hk
          simp only [decide_eq_true_eq] at hk
          subst hk
          exact act_of (by simp only [astep, if_true]) (valP_iff.1 h)
        · exact h.elim
      · exact h.elim
    · exact h.elim
  case max =>
    unfold mmN at h
    split at h
    · split at h
      · simp only [sameKind] at h
        split at h
        · rename_i hk
          simp only [decide_eq_true_eq] at hk
          subst hk
          exact act_of (by simp only [astep, if_true]) (valP_iff.1 h)
        · exact h.elim
      · exact h.elim
    · exact h.elim

theorem stepK_mono {C : CSpec} {k : AK} {vs : List AV} {H : Heap} {K K' : AV → Heap → Prop} (h : stepK C k vs H K) (hk : ∀ v H, K v H → K' v H) : stepK C k vs H K' := by
  obtain ⟨v, H', h1, h2⟩ := stepK_iff.1 h
  exact stepK_iff.2 ⟨v, H', h1, hk _ _ h2⟩

section
variable {C : CSpec} {GT : Nat → Option AV}

theorem get_put_congr {fr fr' : Fr} (h : get fr = get fr') (d : Option Nat) (v : AV) : get (put fr d v) = get (put fr' d v) := by
  rw [get_put, get_put, h]

theorem get_same {fr : Fr} {s : Nat} {b : Bool} (h : get fr s = .bool b) : get ((s, .bool b) :: fr) = get fr := by
  funext t
  simp only [get]
  split
  · rename_i e; subst e; exact h.symm
  · rfl

theorem decOf_undec {dec : List (Nat × Option Bool)} {d : Option Nat} {s : Nat} {b : Bool} (h : decOf (undec dec d) s = some b) : decOf dec s = some b ∧ d ≠ some s := by
  cases d with
  | none => exact ⟨h, by simp⟩
  | some d =>
    simp only [undec, decOf] at h
    split at h
    · cases h
    · rename_i e
      refine ⟨h, fun e' => ?_⟩
      cases e'
      simp at e

theorem dec_put {dec : List (Nat × Option Bool)} {fr : Fr} (h : ∀ s b, decOf dec s = some b → get fr s = .bool b) (d : Option Nat) (v : AV) : ∀ s b, decOf (undec dec d) s = some b → get (put fr d v) s = .bool b := by
  intro s b hs
  obtain ⟨h1, h2⟩ := decOf_undec hs
  cases d with
  | none => exact h s b h1
  | some d =>
    simp only [put, get]
    rw [if_neg (fun e => h2 (by rw [e]))]
    exact h s b h1

theorem dec_cons {dec : List (Nat × Option Bool)} {fr : Fr} (h : ∀ s b, decOf dec s = some b → get fr s = .bool b) {s : Nat} {b : Bool} (hs : get fr s = .bool b) : ∀ t c, decOf ((s, some b) :: dec) t = some c → get fr t = .bool c := by
  intro t c ht
  simp only [decOf] at ht
  split at ht
  · rename_i e
    have : s = t := Nat.eq_of_beq_eq_true e
    subst this
    cases ht; exact hs
  · exact h t c ht

theorem getF_eq : ∀ fr, getF fr = get fr
  | [] => rfl
  | p :: r => by
    funext i
    simp only [getF, get, getF_eq r]
    cases h : Nat.beq p.1 i with
    | true => simp only; rw [if_pos (Nat.eq_of_beq_eq_true h)]
    | false => simp only; rw [if_neg (fun e => by rw [e] at h; simp at h)]
theorem restrictF_eq (fr : Fr) : ∀ L, restrictF fr L = restrict fr L
  | [] => rfl
  | i :: L => by
    simp only [restrictF, restrictF_eq fr L, getF_eq]; rfl
theorem evF_eq (GT : Nat → Option AV) (fr : Fr) : evF GT fr = ev GT fr := by
  funext x
  cases x with
  | tmp t => simp only [evF, ev, getF_eq]
  | const v => rfl
  | glob g => simp only [evF, ev]; cases GT g <;> rfl
  | fn f => rfl
theorem argsF_eq (GT : Nat → Option AV) (fr : Fr) : ∀ xs, argsF GT fr xs = xs.map (ev GT fr)
  | [] => rfl
  | x :: xs => by simp only [argsF, argsF_eq GT fr xs, evF_eq, List.map_cons]
theorem blockF_eq (id : Nat) (L : List Nat) (K : Post) : blockF id L K = blockK id L K := by
  funext e fr H
  cases e with
  | exit j =>
    simp only [blockF, blockK, restrictF_eq]
    cases h : Nat.beq j id with
    | true => simp only; rw [if_pos (Nat.eq_of_beq_eq_true h)]
    | false => simp only; rw [if_neg (fun e => by rw [e] at h; simp at h)]
  | _ => simp only [blockF, blockK, restrictF_eq]

theorem ops_ew : ∀ (is : List AI) (dec : List (Nat × Option Bool)) (fr fr' : Fr) (H : Heap) (K K' : Fr → Heap → Prop), get fr = get fr' → (∀ s b, decOf dec s = some b → get fr s = .bool b) →
    (∀ f f' H, get f = get f' → K f H → K' f' H) → EWops C GT is dec fr H K → AWops C GT is fr' H K'
  | [], _, fr, fr', H, K, K', hf, _, hk, h => hk _ _ _ hf h
  | i :: is, dec, fr, fr', H, K, K', hf, hd, hk, h => by
    have hev : ev GT fr = ev GT fr' := by rw [ev_eq, ev_eq, hf]
    have go : ∀ (dec : List (Nat × Option Bool)) (fr : Fr), get fr = get fr' → (∀ s b, decOf dec s = some b → get fr s = .bool b) → ev GT fr = ev GT fr' →
        stepN C i.k (i.xs.map (ev GT fr')) H (fun v H' => EWops C GT is (undec dec i.dst) (put fr i.dst v) H' K) → stepK C i.k (i.xs.map (ev GT fr')) H fun v H' => AWops C GT is (put fr' i.dst v) H' K' := by
      intro dec fr hf hd hev h
      exact stepK_mono (stepN_sound h) fun v H' h => ops_ew is _ _ _ H' K K' (get_put_congr hf _ _) (dec_put hd _ _) hk h
    have no : ∀ (dec : List (Nat × Option Bool)) (fr : Fr), get fr = get fr' → (∀ s b, decOf dec s = some b → get fr s = .bool b) → EWops C GT is (undec dec i.dst) (put fr i.dst (.tup [])) H K → AWops C GT is (put fr' i.dst (.tup [])) H K' :=
      fun dec fr hf hd h => ops_ew is _ _ _ H K K' (get_put_congr hf _ _) (dec_put hd _ _) hk h
    rw [EWops_cons] at h
    unfold opStep at h
    simp only [argsF_eq, getF_eq] at h
    unfold AWops
    split at h
    · rename_i hg
      rw [hg]
      rw [hev] at h
      exact go dec fr hf hd hev h
    · rename_i s want hg
      rw [hg]
      simp only
      split at h
      · rename_i b hb
        have hs : get fr' s = .bool b := by rw [← hf]; exact hd s b hb
        rw [hs]
        simp only [gd]
        split at h
        · rename_i e
          rw [if_pos e]
          rw [hev] at h
          exact go dec fr hf hd hev h
        · rename_i e
          rw [if_neg (by simp [e])]
          exact no dec fr hf hd h
      · rcases guardN_iff.1 h with ⟨hb, h⟩ | ⟨b, hb, h⟩
        · have hs : get fr' s = .tup [] := by rw [← hf]; exact hb
          rw [hs]
          simp only [gd]
          rw [if_neg (by simp)]
          exact no dec fr hf hd h
        have hs : get fr' s = .bool b := by rw [← hf]; exact hb
        rw [hs]
        simp only [gd]
        have hf2 : get ((s, AV.bool b) :: fr) = get fr' := by rw [get_same hb, hf]
        have hev2 : ev GT ((s, AV.bool b) :: fr) = ev GT fr' := by rw [ev_eq, ev_eq, hf2]
        have hd2 : ∀ t c, decOf ((s, some b) :: dec) t = some c → get ((s, AV.bool b) :: fr) t = .bool c := by
          rw [get_same hb]; exact dec_cons hd hb
        cases want <;> cases b <;> simp only [condP_iff, if_true, Bool.false_eq_true, if_false] at h
        · rw [if_pos (by rfl)]
          rw [hev] at h
          exact go _ _ hf2 hd2 hev2 h
        · rw [if_neg (by simp)]
          exact no _ _ hf2 hd2 h
        · rw [if_neg (by simp)]
          exact no _ _ hf2 hd2 h
        · rw [if_pos (by rfl)]
          rw [hev] at h
          exact go _ _ hf2 hd2 hev2 h

theorem callPP_iff {C : CSpec} {f : FuncId} {vs : List AV} {H : Heap} {K KP : AV → Heap → Prop} : callPP C f vs H K KP ↔ ((∃ v H', C f vs H v H' ∧ K v H') ∨ (∃ x H', C f (.pan .undef :: vs) H x H' ∧ KP x H')) := by rw [callPP_def]; exact Iff.rfl
theorem altP_iff {A B : Prop} : altP A B ↔ A ∧ B := by rw [altP_def]; exact Iff.rfl

theorem stepNP_sound {k : AK} {vs : List AV} {H : Heap} {K KP : AV → Heap → Prop} (h : stepNP C k vs H K KP) : stepKP C k vs H K KP := by
  cases k
  case callp f => exact callPP_iff.1 h
  case callvp =>
    simp only [stepNP] at h
    simp only [stepKP]
    split at h
    · exact h.elim
    · split at h
      · exact callPP_iff.1 h
      · exact h.elim
  case panic =>
    simp only [stepNP] at h
    simp only [stepKP]
    split at h
    · split at h
      · exact h
      · exact h.elim
    · exact h.elim
  all_goals
    simp only [stepNP] at h
    exact stepN_sound h

theorem stepKP_mono {k : AK} {vs : List AV} {H : Heap} {K K' KP KP' : AV → Heap → Prop} (h : stepKP C k vs H K KP) (hk : ∀ v H, K v H → K' v H) (hp : ∀ x H, KP x H → KP' x H) : stepKP C k vs H K' KP' := by
  rcases stepKP_iff.1 h with ⟨v, H', h1, h2⟩ | ⟨x, H', h1, h2⟩
  · exact stepKP_iff.2 (.inl ⟨v, H', h1, hk _ _ h2⟩)
  · exact stepKP_iff.2 (.inr ⟨x, H', h1, hp _ _ h2⟩)

theorem nthAI_eq : ∀ (is : List AI) (j : Nat), nthAI is j = is[j]?
  | [], j => by simp [nthAI]
  | i :: is, 0 => by simp [nthAI]
  | i :: is, j + 1 => by simp [nthAI, nthAI_eq is j]

theorem ewt_sound (is : List AI) : ∀ (t : OT) (dec : List (Nat × Option Bool)) (fr fr' : Fr) (H : Heap) (K K' : Fr → Heap → Prop) (KP KP' : AV → Heap → Prop), get fr = get fr' → (∀ s b, decOf dec s = some b → get fr s = .bool b) →
    (∀ f f' H, get f = get f' → K f H → K' f' H) → (∀ x H, KP x H → KP' x H) → EWT C GT is t dec fr H K KP → AWT C GT is t fr' H K' KP'
  | .done, _, fr, fr', H, K, K', KP, KP', hf, _, hk, hp, h => hk _ _ _ hf h
  | .alt a b, dec, fr, fr', H, K, K', KP, KP', hf, hd, hk, hp, h => by
    replace h : altP (EWT C GT is a dec fr H K KP) (EWT C GT is b dec fr H K KP) := h
    have h := altP_iff.1 h
    exact ⟨ewt_sound is a dec fr fr' H K K' KP KP' hf hd hk hp h.1, ewt_sound is b dec fr fr' H K K' KP KP' hf hd hk hp h.2⟩
  | .step j t, dec, fr, fr', H, K, K', KP, KP', hf, hd, hk, hp, h => by
    replace h : (match nthAI is j with
      | none => False
      | some i => opStepT C GT i (EWT C GT is t) dec fr H K KP) := h
    rw [nthAI_eq] at h
    unfold AWT
    split at h
    · exact h.elim
    rename_i i hi
    simp only [hi]
    have hev : ev GT fr = ev GT fr' := by rw [ev_eq, ev_eq, hf]
    have go : ∀ (dec : List (Nat × Option Bool)) (fr : Fr), get fr = get fr' → (∀ s b, decOf dec s = some b → get fr s = .bool b) → ev GT fr = ev GT fr' →
        stepNP C i.k (i.xs.map (ev GT fr')) H (fun v H' => EWT C GT is t (undec dec i.dst) (put fr i.dst v) H' K KP) KP → stepKP C i.k (i.xs.map (ev GT fr')) H (fun v H' => AWT C GT is t (put fr' i.dst v) H' K' KP') KP' := by
      intro dec fr hf hd hev h
      exact stepKP_mono (stepNP_sound h) (fun v H' h => ewt_sound is t _ _ _ H' K K' KP KP' (get_put_congr hf _ _) (dec_put hd _ _) hk hp h) hp
    have no : ∀ (dec : List (Nat × Option Bool)) (fr : Fr), get fr = get fr' → (∀ s b, decOf dec s = some b → get fr s = .bool b) → EWT C GT is t (undec dec i.dst) (put fr i.dst (.tup [])) H K KP → AWT C GT is t (put fr' i.dst (.tup [])) H K' KP' :=
      fun dec fr hf hd h => ewt_sound is t _ _ _ H K K' KP KP' (get_put_congr hf _ _) (dec_put hd _ _) hk hp h
    unfold opStepT at h
    simp only [argsF_eq, getF_eq] at h
    split at h
    · rename_i hg
      rw [hg]
      rw [hev] at h
      exact go dec fr hf hd hev h
    · rename_i s want hg
      rw [hg]
      simp only
      split at h
      · rename_i b hb
        have hs : get fr' s = .bool b := by rw [← hf]; exact hd s b hb
        rw [hs]
        simp only [gd]
        split at h
        · rename_i e
          rw [if_pos e]
          rw [hev] at h
          exact go dec fr hf hd hev h
        · rename_i e
          rw [if_neg (by simp [e])]
          exact no dec fr hf hd h
      · rcases guardN_iff.1 h with ⟨hb, h⟩ | ⟨b, hb, h⟩
        · have hs : get fr' s = .tup [] := by rw [← hf]; exact hb
          rw [hs]
          simp only [gd]
          rw [if_neg (by simp)]
          exact no dec fr hf hd h
        have hs : get fr' s = .bool b := by rw [← hf]; exact hb
        rw [hs]
        simp only [gd]
        have hf2 : get ((s, AV.bool b) :: fr) = get fr' := by rw [get_same hb, hf]
        have hev2 : ev GT ((s, AV.bool b) :: fr) = ev GT fr' := by rw [ev_eq, ev_eq, hf2]
        have hd2 : ∀ t c, decOf ((s, some b) :: dec) t = some c → get ((s, AV.bool b) :: fr) t = .bool c := by
          rw [get_same hb]; exact dec_cons hd hb
        cases want <;> cases b <;> simp only [condP_iff, if_true, Bool.false_eq_true, if_false] at h
        · rw [if_pos (by rfl)]
          rw [hev] at h
          exact go _ _ hf2 hd2 hev2 h
        · rw [if_neg (by simp)]
          exact no _ _ hf2 hd2 h
        · rw [if_neg (by simp)]
          exact no _ _ hf2 hd2 h
        · rw [if_pos (by rfl)]
          rw [hev] at h
          exact go _ _ hf2 hd2 hev2 h

theorem gotoP_iff {L : List Nat} {l : Nat} {r : AC} {K : Post} {fr : Fr} {H : Heap} : gotoP C GT L l r K fr H ↔ ∃ m, gotoW (AW C GT r) L l (closeK K) m fr H := by rw [gotoP_def]; exact Iff.rfl

theorem gotoW_mono {L : List Nat} {l : Nat} {r : AC} {K K' : Post} (hk : ∀ e fr H, K e fr H → K' e fr H) : ∀ (m : Nat) (fr : Fr) (H : Heap), gotoW (AW C GT r) L l K m fr H → gotoW (AW C GT r) L l K' m fr H
  | 0, _, _, h => h.elim
  | m + 1, fr, H, h => aw_mono h fun e fr H h => by
    cases e with
    | goto l' => exact ⟨h.1, gotoW_mono hk m _ H h.2⟩
    | _ => exact hk _ _ _ h

def PostLe (K K' : Post) : Prop := ∀ e f f' H, get f = get f' → K e f H → K' e f' H

theorem restrict_congr {fr fr' : Fr} (h : get fr = get fr') (L : List Nat) : restrict fr L = restrict fr' L := by
  unfold restrict; rw [h]

theorem ew_sound : ∀ (ac : AC) (K K' : Post) (fr fr' : Fr) (H : Heap), get fr = get fr' → PostLe K K' → EW C GT ac K fr H → AW C GT ac K' fr' H := by
  intro ac
  induction ac with
  | skip => intro K K' fr fr' H hf hk h; exact hk _ _ _ _ hf h
  | ret => intro K K' fr fr' H hf hk h; exact hk _ _ _ _ hf h
  | stuck => intro K K' fr fr' H hf hk h; exact False.elim h
  | label => intro K K' fr fr' H hf hk h; exact hk _ _ _ _ hf h
  | goto l => intro K K' fr fr' H hf hk h; exact hk _ _ _ _ hf h
  | regt L d is t =>
    intro K K' fr fr' H hf hk h
    rw [AW_regt]
    replace h : EWT C GT is t [] (restrictF fr L) H (fun fr' H' => K .normal fr' H') (fun x H' => K (.pan x) [] H') := h
    rw [restrictF_eq, restrict_congr hf] at h
    exact ewt_sound is t _ _ _ H _ _ _ _ rfl (fun s b h => by simp [decOf] at h) (fun f f' H hf h => hk _ _ _ _ hf h) (fun x H h => hk _ _ _ _ rfl h) h
  | scope L l c r ihc ihr =>
    intro K K' fr fr' H hf hk h
    replace h : EW C GT c (jumpK l (fun fr' H' => gotoP C GT L l r K (restrictF fr' L) H') K) fr H := h
    rw [AW_scope]
    refine ihc _ _ _ _ H hf (fun e f f' H hf h => ?_) h
    cases e with
    | goto l' =>
      obtain ⟨hl, hg⟩ := h
      obtain ⟨m, hg⟩ := gotoP_iff.1 hg
      rw [restrictF_eq, restrict_congr hf] at hg
      exact ⟨hl, m, gotoW_mono (fun e f H ⟨f', h1, h2⟩ => hk _ _ _ _ h1 h2) m _ _ hg⟩
    | _ => exact hk _ _ _ _ hf h
  | exit id => intro K K' fr fr' H hf hk h; exact hk _ _ _ _ hf h
  | reg L d is =>
    intro K K' fr fr' H hf hk h
    rw [AW_reg]
    replace h : EWops C GT is [] (restrictF fr L) H (fun fr' H' => K .normal fr' H') := h
    rw [restrictF_eq, restrict_congr hf] at h
    exact ops_ew is _ _ _ H _ _ rfl (fun s b h => by simp [decOf] at h) (fun f f' H hf h => hk _ _ _ _ hf h) h
  | seq a b iha ihb =>
    intro K K' fr fr' H hf hk h
    replace h : EW C GT a (seqK (EW C GT b K) K) fr H := h
    rw [AW_seq]
    refine iha _ _ _ _ H hf (fun e f f' H hf h => ?_) h
    cases e with
    | normal => exact ihb _ _ _ _ _ hf hk h
    | _ => exact hk _ _ _ _ hf h
  | cond c a b iha ihb =>
    intro K K' fr fr' H hf hk h
    replace h : boolN (evF GT fr c) (fun t => condP t (EW C GT a K (learn fr c true) H) (EW C GT b K (learn fr c false) H)) := h
    rw [evF_eq] at h
    obtain ⟨t, ht, h⟩ := boolN_iff.1 h
    rw [ev_eq, hf, ← ev_eq] at ht
    rw [AW_cond ht]
    have he : ∀ b, get (learn fr c b) = get (learn fr' c b) := by
      intro b; cases c <;> simp only [learn] <;> first | exact hf | (funext t; simp only [get, hf])
    rw [condP_iff] at h
    cases t
    · simp only [Bool.false_eq_true, if_false] at h ⊢; exact ihb _ _ _ _ H (he _) hk h
    · simp only [if_true] at h ⊢; exact iha _ _ _ _ H (he _) hk h
  | block id L c ih =>
    intro K K' fr fr' H hf hk h
    replace h : EW C GT c (blockF id L K) fr H := h
    rw [blockF_eq] at h
    rw [AW_block]
    refine ih _ _ _ _ H hf (fun e f f' H hf h => ?_) h
    cases e with
    | normal => exact hk _ _ _ _ (by rw [restrict_congr hf]) h
    | exit j =>
      simp only [blockK] at h ⊢
      split at h
      · rename_i e; rw [if_pos e]; exact hk _ _ _ _ (by rw [restrict_congr hf]) h
      · rename_i e; rw [if_neg e]; exact hk _ _ _ _ hf h
    | _ => exact hk _ _ _ _ hf h
  | loop L c ih =>
    intro K K' fr fr' H hf hk h
    replace h : loopP C GT L c K (restrictF fr L) H := h
    rw [AW_loop]
    have h := loopP_iff.1 h
    rw [restrictF_eq, restrict_congr hf] at h
    exact awl_mono h fun e f H ⟨f', h1, h2⟩ => hk _ _ _ _ h1 h2

theorem resOf_congr {fr fr' : Fr} (h : get fr = get fr') (H : Heap) : ∀ r, resOf fr H r = resOf fr' H r := by
  intro r; cases r <;> simp only [resOf, h]
theorem resAll_congr {fr fr' : Fr} (h : get fr = get fr') (H : Heap) : ∀ rs, resAll fr H rs = resAll fr' H rs
  | [] => rfl
  | r :: rs => by simp only [resAll, resOf_congr h, resAll_congr h H rs]

/-- What is to be shown of a function, by events. -/
def EFun (C : CSpec) (GT : Nat → Option AV) (F : AF) (args : List AV) (H : Heap) (v : AV) (H' : Heap) : Prop :=
  EW C GT F.body (fun e fr H1 => match e with
    | .normal => retP F H fr H1 v H'
    | .ret => retP F H fr H1 v H'
    | _ => False) (argFr 0 args) H

theorem afun_of_efun {F : AF} {args : List AV} {H : Heap} {v : AV} {H' : Heap} (h : EFun C GT F args H v H') : AFun C GT F args H v H' := by
  unfold EFun at h
  unfold AFun
  refine ew_sound _ _ _ _ _ H rfl (fun e f f' H1 hf h => ?_) h
  have : retP F H f H1 v H' → retF F H f' H1 v H' := fun h => by
    have := retP_iff.1 h
    unfold retF at this ⊢
    rw [← resAll_congr hf]; exact this
  cases e with
  | normal => exact this h
  | ret => exact this h
  | _ => exact h

/-- What is to be shown of a function that panics, by events. -/
def EFunX (C : CSpec) (GT : Nat → Option AV) (F : AF) (args : List AV) (H : Heap) (x : AV) (H' : Heap) : Prop :=
  EW C GT F.body (fun e _ H1 => match e with
    | .pan x0 => panF F H x0 H1 x H'
    | _ => False) (argFr 0 args) H

theorem afunP_of_efunX {F : AF} {args : List AV} {H : Heap} {x : AV} {H' : Heap} (h : EFunX C GT F args H x H') : AFunP C GT F args H x H' := by
  unfold EFunX at h
  unfold AFunP
  refine ew_sound _ _ _ _ _ H rfl (fun e f f' H1 hf h => ?_) h
  cases e with
  | pan x0 => exact h
  | _ => exact h

end

/-- A first argument that can be read is no panic. -/
theorem noPan_view {H : Heap} {k : Nat} {v : AV} {xs r : List AV} (h : view H k v = some xs) : noPan (v :: r) = true := by cases v <;> first | rfl | simp [view] at h
theorem noPan_tab {H : Heap} {k : Nat} {v : AV} {r : List AV} {p : List AV → Prop} (h : ∃ xs, view H k v = some xs ∧ p xs) : noPan (v :: r) = true := by obtain ⟨_, h, _⟩ := h; exact noPan_view h
theorem noPan_lst {k : Nat} {v : AV} {xs r : List AV} (h : ∃ q k', v = .lst q k' xs ∧ (k' = k ∨ xs = [])) : noPan (v :: r) = true := by obtain ⟨_, _, rfl, _⟩ := h; rfl
theorem good_of_ev {P : Program} {GT : Nat → Option AV} (hm : P.follows .mixedOrders = true) {f : FuncId} {F : AF} (hc : chkF P f F = true) {args : List AV} {H : Heap} {v : AV} {H' : Heap} (h : EFun (Good P GT) GT F args H v H')
    (hn : noPan args = true := by first | rfl | exact Go.AM.noPan_view (by assumption) | exact Go.AM.noPan_tab (by assumption) | exact Go.AM.noPan_lst (by assumption)) : Good P GT f args H v H' :=
  good_of_chk hm hc (afun_of_efun h) hn
theorem good_of_evX {P : Program} {GT : Nat → Option AV} (hm : P.follows .mixedOrders = true) {f : FuncId} {F : AF} (hc : chkF P f F = true) {args : List AV} {H : Heap} {x : AV} {H' : Heap} (h : EFunX (Good P GT) GT F args H x H') : Good P GT f (.pan .undef :: args) H x H' :=
  goodP_of_chk hm hc (afunP_of_efunX h)

/-! ### Loops -/

section
variable {C : CSpec} {GT : Nat → Option AV} {L : List Nat} {c : AC} {K : Post}

/-- At a loop's head again, with less to do. -/
def nextPW {σ : Type} (L : List Nat) (mk : σ → Fr) (inv : σ → Heap → Prop) (μ : σ → Nat) (s : σ) (fr : Fr) (H : Heap) : Prop := ∃ s', restrictF fr L = mk s' ∧ inv s' H ∧ μ s' < μ s
structure nextP {σ : Type} (L : List Nat) (mk : σ → Fr) (inv : σ → Heap → Prop) (μ : σ → Nat) (s : σ) (fr : Fr) (H : Heap) : Prop where
  h : nextPW L mk inv μ s fr H
theorem nextP_def {σ : Type} (L : List Nat) (mk : σ → Fr) (inv : σ → Heap → Prop) (μ : σ → Nat) (s : σ) (fr : Fr) (H : Heap) : nextP L mk inv μ s fr H = nextPW L mk inv μ s fr H := propext ⟨fun x => x.h, fun x => ⟨x⟩⟩
theorem nextP_iff {σ : Type} {L : List Nat} {mk : σ → Fr} {inv : σ → Heap → Prop} {μ : σ → Nat} {s : σ} {fr : Fr} {H : Heap} : nextP L mk inv μ s fr H ↔ ∃ s', restrictF fr L = mk s' ∧ inv s' H ∧ μ s' < μ s := by rw [nextP_def]; unfold nextPW; exact Iff.rfl
theorem sNext {σ : Type} {L : List Nat} {mk : σ → Fr} {inv : σ → Heap → Prop} {μ : σ → Nat} {s : σ} {fr : Fr} {H : Heap} (s' : σ) (h1 : restrictF fr L = mk s') (h2 : inv s' H) (h3 : μ s' < μ s) : nextP L mk inv μ s fr H := nextP_iff.2 ⟨s', h1, h2, h3⟩

/-- What a round of a loop is asked: at the head again, with less to do, or out. -/
def roundK {σ : Type} (L : List Nat) (mk : σ → Fr) (inv : σ → Heap → Prop) (μ : σ → Nat) (s : σ) (K : Post) : Post := fun e fr' H' => match e with
  | .normal => nextP L mk inv μ s fr' H'
  | .exit j => K (.exit j) fr' H'
  | .ret => K .ret fr' H'
  | .goto l => K (.goto l) fr' H'
  | .pan x => K (.pan x) fr' H'

/-- A loop, by what holds at its head. 'σ': the states; 'mk': the frame of one; 'inv'; 'μ': falls. -/
theorem sLoop {σ : Type} (mk : σ → Fr) (inv : σ → Heap → Prop) (μ : σ → Nat) (s0 : σ) {fr : Fr} {H : Heap} (hf : fr = mk s0) (h0 : inv s0 H)
    (step : ∀ s H, inv s H → EW C GT c (roundK L mk inv μ s K) (mk s) H) : loopP C GT L c K fr H := by
  subst hf
  rw [loopP_iff]
  refine ⟨μ s0 + 1, ?_⟩
  have key : ∀ n s H, μ s < n → inv s H → loopW (AW C GT c) L (closeK K) n (mk s) H := by
    intro n
    induction n with
    | zero => intro s H h; exact absurd h (Nat.not_lt_zero _)
    | succ n ih =>
      intro s H hn hi
      refine ew_sound c _ _ _ _ H rfl (fun e f f' H' hf h => ?_) (step s H hi)
      cases e with
      | normal =>
        obtain ⟨s', h1, h2, h3⟩ := nextP_iff.1 h
        simp only
        rw [← restrict_congr hf, ← restrictF_eq, h1]
        exact ih s' H' (by omega) h2
      | _ => exact ⟨f, hf, h⟩
  exact key _ s0 H (Nat.lt_succ_self _) h0

/-- What a round from a label on is asked: at the label again, with less to do, or out. -/
def labelK {σ : Type} (L : List Nat) (l : Nat) (mk : σ → Fr) (inv : σ → Heap → Prop) (μ : σ → Nat) (s : σ) (K : Post) : Post := fun e fr' H' => match e with
  | .normal => K .normal fr' H'
  | .exit j => K (.exit j) fr' H'
  | .ret => K .ret fr' H'
  | .goto l' => l' = l ∧ nextP L mk inv μ s fr' H'
  | .pan x => K (.pan x) fr' H'

/-- From a label on, by what holds there. -/
theorem sGoto {σ : Type} {l : Nat} {r : AC} (mk : σ → Fr) (inv : σ → Heap → Prop) (μ : σ → Nat) (s0 : σ) {fr : Fr} {H : Heap} (hf : fr = mk s0) (h0 : inv s0 H)
    (step : ∀ s H, inv s H → EW C GT r (labelK L l mk inv μ s K) (mk s) H) : gotoP C GT L l r K fr H := by
  subst hf
  rw [gotoP_iff]
  refine ⟨μ s0 + 1, ?_⟩
  have key : ∀ n s H, μ s < n → inv s H → gotoW (AW C GT r) L l (closeK K) n (mk s) H := by
    intro n
    induction n with
    | zero => intro s H h; exact absurd h (Nat.not_lt_zero _)
    | succ n ih =>
      intro s H hn hi
      refine ew_sound r _ _ _ _ H rfl (fun e f f' H' hf h => ?_) (step s H hi)
      cases e with
      | goto l' =>
        obtain ⟨hl, h⟩ := h
        obtain ⟨s', h1, h2, h3⟩ := nextP_iff.1 h
        refine ⟨hl, ?_⟩
        show gotoW (AW C GT r) L l (closeK K) n (restrict f' L) H'
        rw [← restrict_congr hf, ← restrictF_eq, h1]
        exact ih s' H' (by omega) h2
      | _ => exact ⟨f, hf, h⟩
  exact key _ s0 H (Nat.lt_succ_self _) h0

end

end Go.AM

/- The abstract machine, part 22: small steps for proofs by events. Own work. -/
set_option linter.all false
namespace Go.AM

/-! ### Numbers -/

theorem sW64 {x : Int} {K : Int → Prop} (h : -9223372036854775808 ≤ x ∧ x ≤ 9223372036854775807) (k : K x) : valP (IntKind.wrap .i64 x) K :=
  sVal (IntWalk.i64_in x h) k
theorem sW64n {x : Int} {r : Nat} {K : Int → Prop} (h : x = r) (hr : r ≤ 9223372036854775807) (k : K (r : Int)) : valP (IntKind.wrap .i64 x) K :=
  sVal (by rw [IntWalk.i64_in x (by omega), h]) k
theorem sWu8 {x : Int} {K : Int → Prop} (h : 0 ≤ x ∧ x ≤ 255) (k : K x) : valP (IntKind.wrap .u8 x) K :=
  sVal (IntWalk.u8_in x h) k

/-! ### Rows -/

/-- Values that are themselves when frozen. -/
def AV.plain : AV → Bool
  | .sl .. => false
  | .agg _ => false
  | .tup _ => false
  | .iface _ _ => false
  | _ => true

theorem frz_plain {n : Nat} {v : AV} {H : Heap} (h : v.plain = true) : frzV n v H = some (v, H) := by
  cases v <;> first | rfl | (simp [AV.plain] at h)

theorem sLoadP {p : AV} {H : Heap} {s o : Nat} {ag : Bool} {cs : List AV} {K : AV → Prop} (r : AV) (hp : ptrCells H p = some (cs, o)) (hr : part cs o s ag = some r) (q : K r) : loadN s ag p H K := by
  rw [loadN_def]; unfold loadNW
  split
  · simp only [ptrCells, Option.some.injEq, Prod.mk.injEq] at hp
    obtain ⟨rfl, rfl⟩ := hp
    exact sOpt hr q
  · exact sOpt hp (sOpt hr q)
theorem sLoadL {x : AV} {H : Heap} {s o : Nat} {ag : Bool} {K : AV → Prop} (r : AV) (hr : part x.cells o s ag = some r) (q : K r) : loadN s ag (.lref x o) H K := sLoadP r rfl hr q
theorem ptr_row {b k i o : Nat} {H : Heap} {xs : List AV} {x : AV} (h : H[b]? = some (.row k xs)) (hx : xs[i]? = some x) : ptrCells H (.ref b k i o) = some (x.cells, o) := by
  simp only [ptrCells, h, if_true, hx, Option.map_some]
theorem ptr_box {b k o : Nat} {H : Heap} {cs : List AV} (h : H[b]? = some (.box cs)) : ptrCells H (.ref b k 0 o) = some (cs, o) := by
  simp only [ptrCells, h, if_true]
theorem sLoadRow {b k i o s : Nat} {ag : Bool} (j : Nat) {H : Heap} {xs : List AV} (x r : AV) {K : AV → Prop} (hi : i = j) (h : H[b]? = some (.row k xs)) (hx : xs[j]? = some x) (hr : part x.cells o s ag = some r) (q : K r) : loadN s ag (.ref b k i o) H K :=
  sLoadP r (ptr_row h (by rw [hi]; exact hx)) hr q
theorem sLoadBox {b k o s : Nat} {ag : Bool} {H : Heap} {cs : List AV} (r : AV) {K : AV → Prop} (h : H[b]? = some (.box cs)) (hr : part cs o s ag = some r) (q : K r) : loadN s ag (.ref b k 0 o) H K :=
  sLoadP r (ptr_box h) hr q

theorem sLenSl {q : Option Bool} {b k off n : Nat} {K : Int → Prop} (h : K (n : Int)) : lenP (.sl q b k off n) K := by rw [lenP_def]; unfold lenPW; exact h
theorem sLenL {q : Option Bool} {k : Nat} {xs : List AV} {K : Int → Prop} (h : K (xs.length : Int)) : lenP (.lst q k xs) K := by rw [lenP_def]; unfold lenPW; exact h
theorem sLenV {v : AV} {H : Heap} {k : Nat} {xs : List AV} {K : Int → Prop} (hv : view H k v = some xs) (q : K (xs.length : Int)) : lenP v K := by
  unfold view at hv
  split at hv
  · refine sLenL ?_
    split at hv
    · cases hv; exact q
    · split at hv
      · rename_i h
        simp only [List.isEmpty_iff] at h
        cases hv; rw [h]; exact q
      · cases hv
  · refine sLenSl ?_
    split at hv
    · split at hv
      · split at hv
        · rename_i hc
          cases hv
          rw [List.length_take, List.length_drop] at q
          rwa [Nat.min_eq_left (by omega)] at q
        · cases hv
      · split at hv
        · rename_i hc
          cases hv
          rw [List.length_take, List.length_drop] at q
          rwa [Nat.min_eq_left (by omega)] at q
        · cases hv
      · cases hv
    · cases hv
  · cases hv

theorem sLenN {v : AV} {H : Heap} {k : Nat} {xs : List AV} {K : Int → Prop} (n : Nat) (hv : view H k v = some xs) (hn : xs.length = n) (q : K (n : Int)) : lenP v K := sLenV hv (by rw [hn]; exact q)

/-- An index of a list. -/
theorem sIdx {q' : Option Bool} {k i : Nat} {xs : List AV} {n : Int} {x : AV} {K : AV → Prop} (hn : n = (i : Int)) (hx : xs[i]? = some x) (q : K (.lref x 0)) : idxN k (.lst q' k xs) n K := by
  rw [idxN_def]; unfold idxNW
  exact sNeed rfl (sIdxP hn hx q)
/-- An index of a slice of whatever make. -/
theorem sIdxV {v : AV} {H : Heap} {k : Nat} {xs : List AV} {n : Int} {K : AV → Prop} (i : Nat) (x : AV) (hv : view H k v = some xs) (hn : n = (i : Int)) (hx : xs[i]? = some x) (q : ∀ p, ptrCells H p = some (x.cells, 0) → K p) : idxN k v n K := by
  have hlt := (List.getElem?_eq_some_iff.1 hx).1
  unfold view at hv
  split at hv
  · split at hv
    · rename_i hk
      cases hv; subst hk
      exact sIdx hn hx (q _ rfl)
    · split at hv
      · cases hv; simp at hlt
      · cases hv
  · rw [idxN_def]; unfold idxNW
    simp only
    split at hv
    · rename_i hk
      subst hk
      split at hv
      · rename_i hb
        split at hv
        · rename_i hc
          cases hv
          rw [List.length_take, List.length_drop] at hlt
          rw [List.getElem?_take, if_pos (by omega), List.getElem?_drop] at hx
          subst hn
          rw [hc.1] at hb
          refine sNeed ⟨rfl, by omega, by omega⟩ (q _ (ptr_row hb hx))
        · cases hv
      · rename_i hb
        split at hv
        · rename_i hc
          cases hv
          rw [List.length_take, List.length_drop] at hlt
          rw [List.getElem?_take, if_pos (by omega), List.getElem?_drop] at hx
          subst hn
          rw [hc.1] at hb
          refine sNeed ⟨rfl, by omega, by omega⟩ (q _ ?_)
          show ptrCells H (.ref _ _ _ _) = _
          simp only [ptrCells, hb, if_true, Int.toNat_natCast, hx, Option.map_some]
        · cases hv
      · cases hv
    · cases hv
  · cases hv

/-- An index within a slice that is a view on a row. -/
theorem sAt {q' : Option Bool} {b k off len : Nat} {n : Int} {K : AV → Prop} (h : 0 ≤ n ∧ n < (len : Int)) (q : K (.ref b k (off + n.toNat) 0)) : idxN k (.sl q' b k off len) n K := by
  rw [idxN_def]; unfold idxNW
  exact sNeed ⟨rfl, h⟩ q

/-- A whole element is written that names no block. -/
theorem sStore {b k i : Nat} (j : Nat) (v : AV) {x : AV} {H : Heap} {xs : List AV} {K : AV → Heap → Prop} (hi : i = j) (h : H[b]? = some (.row k xs)) (hx : xs[j]? = some x) (hp : v.plain = true) (h0 : 0 < k) (he : v.elem k = true) (hn : ∀ cs, x ≠ .agg cs)
    (q : K .undef (H.set b (.row k (xs.set j v)))) : actP (.store k) [.ref b k i 0, v] H K := by
  subst hi
  refine sAct ?_ q
  have hc : v.cells.length = k ∧ v.cells.all AV.one = true := by
    simp only [AV.elem, Bool.and_eq_true, beq_iff_eq] at he
    exact ⟨he.1.1, he.2⟩
  have hu : updElem x 0 v = v := by cases x <;> first | rfl | exact absurd rfl (hn _)
  simp only [astep, if_pos hc, h, frz_plain hp, hx]
  rw [if_pos ⟨trivial, by omega, h0, he⟩, hu]

theorem sMake {k bytes : Nat} {z : AV} {l c : Int} {n : Nat} {k1 k2 : IntKind} {H : Heap} {K : AV → Heap → Prop} (hl : l = n) (hlc : l ≤ c) (hb : (bytes : Int) * c ≤ 281474976710656 ∧ c ≤ 9223372036854775807) (hz : z.elem k = true)
    (q : K (.sl (some false) H.length k 0 n) (H ++ [.row k (List.replicate n z)])) : actP (.make k bytes z) [.int k1 l, .int k2 c] H K := by
  refine sAct ?_ q
  subst hl
  simp only [astep]
  rw [if_pos ⟨by omega, hlc, hb.1, hb.2, hz⟩]
  rfl

/-! ### Rows as functions -/

def rowF (n : Nat) (f : Nat → AV) : List AV := (List.range n).map f
def upd {α : Type} (f : Nat → α) (i : Nat) (v : α) : Nat → α := fun j => if j = i then v else f j

theorem rowF_len (n : Nat) (f : Nat → AV) : (rowF n f).length = n := by simp [rowF]
theorem rowF_get {n i : Nat} {f : Nat → AV} (h : i < n) : (rowF n f)[i]? = some (f i) := by simp [rowF, h]
theorem rowF_set {n i : Nat} {f : Nat → AV} {v : AV} : (rowF n f).set i v = rowF n (upd f i v) := by
  apply List.ext_getElem?
  intro j
  simp only [rowF, List.getElem?_set, List.getElem?_map, List.length_map, List.length_range]
  by_cases hj : j < n
  · rw [List.getElem?_range hj]
    by_cases e : i = j
    · subst e; simp [hj, upd]
    · simp [e, upd, Ne.symm e]
  · rw [List.getElem?_eq_none (l := List.range n) (by simpa using hj)]
    simp only [Option.map_none, ite_eq_right_iff]
    intro e; subst e; simp [hj]
theorem rowF_replicate (n : Nat) (z : AV) : List.replicate n z = rowF n (fun _ => z) := by
  apply List.ext_getElem <;> simp [rowF]
theorem rowF_congr {n : Nat} {f g : Nat → AV} (h : ∀ i, i < n → f i = g i) : rowF n f = rowF n g := by
  unfold rowF
  exact List.map_congr_left fun i hi => h i (List.mem_range.1 hi)


/-- Rows of truth values. -/
def fB (f : Nat → Bool) : Nat → AV := fun j => .bool (f j)
theorem fB_upd (f : Nat → Bool) (i : Nat) (v : Bool) : upd (fB f) i (.bool v) = fB (upd f i v) := by
  funext j; unfold fB upd; split <;> rfl
theorem sStoreB {b i n : Nat} (j : Nat) (v : Bool) {g : Nat → Bool} {H : Heap} {K : AV → Heap → Prop} (hi : i = j) (hj : j < n) (h : H[b]? = some (.row 1 (rowF n (fB g))))
    (q : K .undef (H.set b (.row 1 (rowF n (fB (upd g j v)))))) : actP (.store 1) [.ref b 1 i 0, .bool v] H K :=
  sStore j (.bool v) hi h (rowF_get hj) rfl (by omega) rfl (by simp [fB]) (by rw [rowF_set, fB_upd]; exact q)
theorem sLoadB {b i n : Nat} (j : Nat) {f : Nat → Bool} {H : Heap} {K : AV → Prop} (hi : i = j) (hj : j < n) (h : H[b]? = some (.row 1 (rowF n (fB f))))
    (q : K (.bool (f j))) : loadN 1 false (.ref b 1 i 0) H K :=
  sLoadRow j (.bool (f j)) _ hi h (rowF_get hj) rfl q

theorem sMakeB {bytes : Nat} {l c : Int} {n : Nat} {k1 k2 : IntKind} {H : Heap} {K : AV → Heap → Prop} (hl : l = n) (hc : c = n) (hb : bytes ≤ 8) (hn : n ≤ 35184372088832)
    (q : K (.sl (some false) H.length 1 0 n) (H ++ [.row 1 (rowF n (fB fun _ => false))])) : actP (.make 1 bytes (.bool false)) [.int k1 l, .int k2 c] H K := by
  subst hl hc
  refine sMake rfl (Int.le_refl _) ⟨?_, by omega⟩ rfl (by rw [rowF_replicate]; exact q)
  have : bytes * n ≤ 8 * 35184372088832 := Nat.mul_le_mul hb hn
  have h2 : ((bytes * n : Nat) : Int) ≤ 281474976710656 := by omega
  simpa using h2

/-! ### Bytes -/

theorem byteIs (c d : UInt8) : ((c.toNat : Int) == (d.toNat : Int)) = (c == d) := by
  rw [Bool.eq_iff_iff, beq_iff_eq, beq_iff_eq]
  exact ⟨fun h => UInt8.toNat_inj.1 (by omega), fun h => by rw [h]⟩
theorem drop_of_get {α : Type} {l : List α} {i : Nat} {x : α} (h : l[i]? = some x) : l.drop i = x :: l.drop (i + 1) := by
  obtain ⟨hi, he⟩ := List.getElem?_eq_some_iff.1 h
  rw [List.drop_eq_getElem_cons hi, he]
theorem bytesOf_map : ∀ u : List UInt8, bytesOf (u.map byteAV) = some u
  | [] => rfl
  | c :: u => by simp [bytesOf, byteAV, bytesOf_map u]

/-! ### Heaps: what was there is there -/

/-- The first blocks are as they were. -/
def Old (H0 H : Heap) : Prop := H0.length ≤ H.length ∧ ∀ c, c < H0.length → H[c]? = H0[c]?

theorem Old.refl (H : Heap) : Old H H := ⟨Nat.le_refl _, fun _ _ => rfl⟩
theorem Old.push {H0 H : Heap} (h : Old H0 H) (x : List ABlk) : Old H0 (H ++ x) :=
  ⟨by rw [List.length_append]; have := h.1; omega, fun c hc => by rw [List.getElem?_append_left (Nat.lt_of_lt_of_le hc h.1)]; exact h.2 c hc⟩
theorem Old.set {H0 H : Heap} (h : Old H0 H) {b : Nat} (hb : H0.length ≤ b) (x : ABlk) : Old H0 (H.set b x) :=
  ⟨by rw [List.length_set]; exact h.1, fun c hc => by rw [List.getElem?_set_ne (by omega)]; exact h.2 c hc⟩
theorem Old.trans {H0 H1 H2 : Heap} (h : Old H0 H1) (k : Old H1 H2) : Old H0 H2 :=
  ⟨Nat.le_trans h.1 k.1, fun c hc => (k.2 c (Nat.lt_of_lt_of_le hc h.1)).trans (h.2 c hc)⟩
theorem Old.take {H0 H : Heap} (h : Old H0 H) : H.take H0.length = H0 := by
  apply List.ext_getElem?
  intro i
  rw [List.getElem?_take]
  split
  · rename_i hi; exact h.2 i hi
  · rename_i hi; rw [List.getElem?_eq_none (by omega)]
theorem Old.ok {H0 H : Heap} (h : Old H0 H) : OldOK H0 H := fun b hb => .inl (h.2 b hb)

theorem push_last {H : Heap} {x : ABlk} : (H ++ [x])[H.length]? = some x := by simp
theorem push_old {H : Heap} {x : ABlk} {b : Nat} {y : ABlk} (h : H[b]? = some y) : (H ++ [x])[b]? = some y := by
  rw [List.getElem?_append_left (List.getElem?_eq_some_iff.1 h).1]; exact h
theorem set_at {H : Heap} {b : Nat} {x y : ABlk} (h : H[b]? = some y) : (H.set b x)[b]? = some x := by
  rw [List.getElem?_set_self (List.getElem?_eq_some_iff.1 h).1]
theorem set_other {H : Heap} {b c : Nat} {x y : ABlk} (hn : b ≠ c) (h : H[c]? = some y) : (H.set b x)[c]? = some y := by
  rw [List.getElem?_set_ne hn]; exact h

/-- Out of a block. -/
theorem sBlk {id : Nat} {L : List Nat} {K : Post} {fr F : Fr} {H : Heap} (h : restrictF fr L = F) (k : K .normal F H) : blockF id L K (.exit id) fr H := by
  rw [blockF_eq]; simp only [blockK, if_true, ← restrictF_eq, h]; exact k

/-! ### Slices that grow -/

def AV.blk : AV → Option Nat
  | .sl _ b _ _ _ => some b
  | _ => none

/-- 'v' is a slice of the function's own (nil, or a row that nobody else has) with the elements 'xs'. -/
def Owns (H0 H : Heap) (v : AV) (k : Nat) (xs : List AV) : Prop :=
  (v = .lst (some true) 0 [] ∧ xs = []) ∨ ∃ b, v = .sl (some true) b k 0 xs.length ∧ H0.length ≤ b ∧ H[b]? = some (.row k xs) ∧ xs ≠ []

theorem Owns.nil (H0 H : Heap) (k : Nat) : Owns H0 H (.lst (some true) 0 []) k [] := .inl ⟨rfl, rfl⟩

theorem Owns.lt {H0 H : Heap} {v : AV} {k : Nat} {xs : List AV} (h : Owns H0 H v k xs) {b : Nat} (hb : v.blk = some b) : H0.length ≤ b ∧ b < H.length := by
  rcases h with ⟨rfl, _⟩ | ⟨b', rfl, h1, h2, _⟩
  · cases hb
  · simp only [AV.blk, Option.some.injEq] at hb
    subst hb
    exact ⟨h1, (List.getElem?_eq_some_iff.1 h2).1⟩

/-- It stays where its row stays. -/
theorem Owns.keep {H0 H H' : Heap} {v : AV} {k : Nat} {xs : List AV} (h : Owns H0 H v k xs) (hk : ∀ b x, v.blk = some b → H[b]? = some x → H'[b]? = some x) : Owns H0 H' v k xs := by
  rcases h with h | ⟨b, rfl, h1, h2, h3⟩
  · exact .inl h
  · exact .inr ⟨b, rfl, h1, hk b _ rfl h2, h3⟩

theorem Owns.push {H0 H : Heap} {v : AV} {k : Nat} {xs : List AV} (h : Owns H0 H v k xs) (x : ABlk) : Owns H0 (H ++ [x]) v k xs :=
  h.keep fun _ _ _ hx => push_old hx

theorem Owns.view {H0 H : Heap} {v : AV} {k : Nat} {xs : List AV} (h : Owns H0 H v k xs) : view H k v = some xs := by
  rcases h with ⟨rfl, rfl⟩ | ⟨b, rfl, _, h2, _⟩
  · simp [Go.AM.view]
  · simp [Go.AM.view, h2]

theorem view_new {H : Heap} {k : Nat} {q : Option Bool} {xs : List AV} : view (H ++ [.row k xs]) k (.sl q H.length k 0 xs.length) = some xs := by
  simp [Go.AM.view]

theorem sBslice {k : Nat} {vs vs' : List AV} {H : Heap} {K : AV → Heap → Prop} (hf : frzL 0 vs H = some (vs', H)) (he : vs'.all (fun v => v.elem k) = true)
    (q : K (.sl (some false) H.length k 0 vs'.length) (H ++ [.row k vs'])) : actP (.bslice k) vs H K :=
  sAct (by simp only [astep, hf]; rw [if_pos he]) q

theorem frzL_cons {n : Nat} {a a' : AV} {r r' : List AV} {H H1 H2 : Heap} (h1 : frzV n a H = some (a', H1)) (h2 : frzL n r H1 = some (r', H2)) : frzL n (a :: r) H = some (a' :: r', H2) := by
  simp only [frzL, h1, h2]
theorem sBsliceF {k : Nat} {vs : List AV} (vs' : List AV) {H : Heap} (H' : Heap) {K : AV → Heap → Prop} (hf : frzL 0 vs H = some (vs', H')) (he : vs'.all (fun v => v.elem k) = true)
    (q : K (.sl (some false) H'.length k 0 vs'.length) (H' ++ [.row k vs'])) : actP (.bslice k) vs H K :=
  sAct (by simp only [astep, hf]; rw [if_pos he]) q
theorem frz_sl {b k n : Nat} {xs : List AV} {H : Heap} (h : H[b]? = some (.row k xs)) (hn : xs.length = n) : frzV 0 (.sl (some false) b k 0 n) H = some (.lst (some false) k xs, H.set b (.frz k xs)) := by
  subst hn
  simp only [frzV, Nat.not_lt_zero, if_false, h]
  simp [frzQ]

theorem sAppend {H0 H : Heap} {v y : AV} {k bytes : Nat} {xs ys : List AV} {K : AV → Heap → Prop} (ho : Owns H0 H v k xs) (hH : Old H0 H) (hy : view H k y = some ys) (hb : bytes ≤ 1024) (hl : xs.length + ys.length ≤ 137438953472) (h0 : ys ≠ [])
    (q : ∀ v' H', Owns H0 H' v' k (xs ++ ys) → Old H0 H' → v'.blk = some H.length → (∀ c x, v.blk ≠ some c → H[c]? = some x → H'[c]? = some x) → K v' H') : actP (.append k bytes) [v, y] H K := by
  have hm : (xs.length + ys.length) * bytes ≤ 137438953472 * 1024 := Nat.mul_le_mul hl hb
  rcases ho with ⟨rfl, rfl⟩ | ⟨b, rfl, h1, h2, _⟩
  · simp only [List.length_nil, Nat.zero_add] at hl hm
    refine sAct (v := .sl (some true) H.length k 0 ys.length) (H' := H ++ [.row k ys]) ?_ ?_
    · simp only [astep, hy]
      rw [if_pos ⟨by omega, by omega⟩]
    · exact q _ _ (.inr ⟨_, rfl, hH.1, push_last, h0⟩) (hH.push _) rfl fun _ _ _ hx => push_old hx
  · refine sAct (v := .sl (some true) H.length k 0 (xs.length + ys.length)) (H' := H.set b .dead ++ [.row k (xs ++ ys)]) ?_ ?_
    · simp only [astep, hy, h2]
      rw [if_pos ⟨trivial, trivial, by omega, by omega, by omega⟩]
      simp
    · refine q _ _ (.inr ⟨_, by rw [List.length_append], hH.1, ?_, by simp [h0]⟩) ((hH.set h1 _).push _) rfl fun c x hc hx => ?_
      · have : (H.set b .dead).length = H.length := List.length_set
        rw [← this]; exact push_last
      · exact push_old (set_other (fun e => hc (by rw [e]; rfl)) hx)

theorem sBytesStr {H0 H : Heap} {v : AV} {u : List UInt8} {K : AV → Heap → Prop} (ho : Owns H0 H v 1 (u.map byteAV)) (q : K (.str u) H) : actP .bytesToStr [v] H K :=
  sAct (by simp only [astep, ho.view, bytesOf_map, Option.map_some]) q

/-- A list that nobody writes. -/
def LstOf (x : AV) (k : Nat) (xs : List AV) : Prop := ∃ q k', x = .lst q k' xs ∧ (k' = k ∨ xs = [])
theorem LstOf.view {x : AV} {k : Nat} {xs : List AV} (h : LstOf x k xs) (H : Heap) : view H k x = some xs := by
  obtain ⟨q, k', rfl, rfl | rfl⟩ := h
  · simp [Go.AM.view]
  · simp [Go.AM.view]
theorem LstOf.cells {x : AV} {k : Nat} {xs : List AV} (h : LstOf x k xs) : x.cells = [x] := by obtain ⟨q, k', rfl, _⟩ := h; rfl

/-- What is read stays so as long as the old blocks stay. -/
theorem view_old {H H' : Heap} (hO : Old H H') {k : Nat} {v : AV} {xs : List AV} (h : view H k v = some xs) : view H' k v = some xs := by
  unfold view at h ⊢
  split at h
  · exact h
  · split at h
    · rename_i hk
      rw [if_pos hk]
      have : ∀ x, H[‹Nat›]? = some x → True := fun _ _ => trivial
      split at h
      · rename_i hb
        rw [hO.2 _ (List.getElem?_eq_some_iff.1 hb).1, hb]; exact h
      · rename_i hb
        rw [hO.2 _ (List.getElem?_eq_some_iff.1 hb).1, hb]; exact h
      · cases h
    · cases h
  · cases h
theorem view_one {H : Heap} {k : Nat} {v : AV} {xs : List AV} (h : view H k v = some xs) : v.cells = [v] ∧ v.one = true := by
  unfold view at h
  split at h
  · exact ⟨rfl, rfl⟩
  · exact ⟨rfl, rfl⟩
  · cases h
theorem old_get {H H' : Heap} (hO : Old H H') {b : Nat} {x : ABlk} (h : H[b]? = some x) : H'[b]? = some x := by
  rw [hO.2 _ (List.getElem?_eq_some_iff.1 h).1]; exact h

/-- An index of a list that nobody writes. -/
theorem sIdxO {v : AV} {k : Nat} {xs : List AV} {n : Int} {K : AV → Prop} (i : Nat) (x : AV) (hv : LstOf v k xs) (hn : n = (i : Int)) (hx : xs[i]? = some x) (q : K (.lref x 0)) : idxN k v n K := by
  obtain ⟨qq, k', rfl, rfl | rfl⟩ := hv
  · exact sIdx hn hx q
  · simp at hx
theorem sLenO {v : AV} {k : Nat} {xs : List AV} {K : Int → Prop} (n : Nat) (hv : LstOf v k xs) (hn : xs.length = n) (q : K (n : Int)) : lenP v K := sLenN n (hv.view []) hn q

/-! ### Boxes -/

theorem sBox {x : AV} {H : Heap} {K : AV → Heap → Prop} (h : x.cells.all AV.one = true) (q : K (.ref H.length 0 0 0) (H ++ [.box x.cells])) : actP .box [x] H K :=
  sAct (by simp only [astep]; rw [if_pos h]) q
theorem sStoreBox {b k s o : Nat} {v : AV} {cs : List AV} {H : Heap} {K : AV → Heap → Prop} (h : H[b]? = some (.box cs)) (hl : v.cells.length = s) (h1 : v.cells.all AV.one = true) (ho : o + s ≤ cs.length)
    (q : K .undef (H.set b (.box (splice cs o v.cells)))) : actP (.store s) [.ref b k 0 o, v] H K := by
  refine sAct ?_ q
  simp only [astep]
  rw [if_pos ⟨hl, h1⟩, h]
  simp only
  rw [if_pos ⟨trivial, ho⟩]

theorem sBox1 {x : AV} {H : Heap} {K : AV → Heap → Prop} (hc : x.cells = [x] ∧ x.one = true) (q : K (.ref H.length 0 0 0) (H ++ [.box [x]])) : actP .box [x] H K :=
  sBox (by rw [hc.1]; simp [hc.2]) (by rw [hc.1]; exact q)
theorem sStoreBox1 {b k : Nat} {v x : AV} {H : Heap} {K : AV → Heap → Prop} (h : H[b]? = some (.box [x])) (hc : v.cells = [v] ∧ v.one = true)
    (q : K .undef (H.set b (.box [v]))) : actP (.store 1) [.ref b k 0 0, v] H K :=
  sStoreBox h (by rw [hc.1]; rfl) (by rw [hc.1]; simp [hc.2]) (by simp) (by rw [hc.1]; exact q)
theorem Owns.ne_box {H0 H : Heap} {v : AV} {k : Nat} {xs : List AV} (h : Owns H0 H v k xs) {c : Nat} {cs : List AV} (hb : H[c]? = some (.box cs)) : v.blk ≠ some c := by
  rcases h with ⟨rfl, _⟩ | ⟨b, rfl, h1, h2, h3⟩
  · simp [AV.blk]
  · intro e
    simp only [AV.blk, Option.some.injEq] at e
    subst e
    rw [h2] at hb; cases hb

theorem Owns.weaken {H0 H1 H : Heap} {v : AV} {k : Nat} {xs : List AV} (h : Owns H1 H v k xs) (hl : H0.length ≤ H1.length) : Owns H0 H v k xs := by
  rcases h with h | ⟨b, rfl, h1, h2, h3⟩
  · exact .inl h
  · exact .inr ⟨b, rfl, Nat.le_trans hl h1, h2, h3⟩
/-- It stays where another block is written. -/
theorem Owns.set {H0 H : Heap} {v : AV} {k : Nat} {xs : List AV} (h : Owns H0 H v k xs) {c : Nat} (hc : v.blk ≠ some c) (x : ABlk) : Owns H0 (H.set c x) v k xs :=
  h.keep fun b _ hb hx => set_other (fun e => hc (by rw [e]; exact hb)) hx
/-- The heap with a new box that is written at once. -/
theorem Owns.pushSet {H0 H : Heap} {v : AV} {k : Nat} {xs : List AV} (h : Owns H0 H v k xs) (x y : ABlk) : Owns H0 ((H ++ [x]).set H.length y) v k xs :=
  (h.push x).set (fun e => by have := (h.lt e).2; omega) y
theorem Old.pushSet {H0 H : Heap} (h : Old H0 H) (x y : ABlk) : Old H0 ((H ++ [x]).set H.length y) := (h.push [x]).set h.1 y

/-- A list as what is handed back of a slice of one's own. -/
def lstF (k : Nat) : List AV → AV
  | [] => .lst (some true) 0 []
  | x :: xs => .lst (some false) k (x :: xs)
theorem lstF_of (k : Nat) (xs : List AV) : LstOf (lstF k xs) k xs := by
  cases xs
  · exact ⟨_, _, rfl, .inr rfl⟩
  · exact ⟨_, _, rfl, .inl rfl⟩
theorem lstF_bel (n k : Nat) (xs : List AV) : (lstF k xs).bel n = true := by cases xs <;> rfl
theorem lstF_plain (k : Nat) (xs : List AV) : (lstF k xs).plain = true := by cases xs <;> rfl

theorem Owns.frz {H0 H : Heap} {v : AV} {k : Nat} {xs : List AV} (h : Owns H0 H v k xs) (hO : Old H0 H) : ∃ H', frzV H0.length v H = some (lstF k xs, H') ∧ Old H0 H' ∧ ∀ c x, v.blk ≠ some c → H[c]? = some x → H'[c]? = some x := by
  rcases h with ⟨rfl, rfl⟩ | ⟨b, rfl, h1, h2, h3⟩
  · exact ⟨H, rfl, hO, fun _ _ _ h => h⟩
  · refine ⟨H.set b (.frz k xs), ?_, hO.set h1 _, fun c x hc hx => set_other (fun e => hc (by rw [e]; rfl)) hx⟩
    cases xs with
    | nil => exact absurd rfl h3
    | cons x xs =>
      simp only [frzV]
      rw [if_neg (by omega), h2]
      simp [lstF, frzQ]

/-! ### Results -/

theorem sRetF {F : AF} {H H1 H2 : Heap} {fr : Fr} {v0 v : AV} (hk : F.keep = false) (hr : (resAll fr H1 F.results).map tupled = some v0) (hf : frzV H.length v0 H1 = some (v, H2)) (hb : v.bel H.length = true) (ho : Old H H2) : retP F H fr H1 v H := by
  refine sRet ?_
  unfold retF
  cases hs : resAll fr H1 F.results with
  | none => rw [hs] at hr; cases hr
  | some vs =>
    rw [hs] at hr
    simp only [Option.map_some, Option.some.injEq] at hr
    subst hr
    simp only [hk, hf, Bool.false_eq_true, if_false]
    exact ⟨hb, ho.ok, trivial, ho.take.symm⟩

/-- A result without slices of the function's own. -/
theorem sRetV {F : AF} {H H1 : Heap} {fr : Fr} {v : AV} (hk : F.keep = false) (hr : (resAll fr H1 F.results).map tupled = some v) (hf : frzV H.length v H1 = some (v, H1)) (hb : v.bel H.length = true) (ho : Old H H1) : retP F H fr H1 v H := by
  refine sRet ?_
  unfold retF
  cases hs : resAll fr H1 F.results with
  | none => rw [hs] at hr; cases hr
  | some vs =>
    rw [hs] at hr
    simp only [Option.map_some, Option.some.injEq] at hr
    subst hr
    simp only [hk, hf, Bool.false_eq_true, if_false]
    exact ⟨hb, ho.ok, trivial, ho.take.symm⟩

/-- The same, the result by an equation ('rw' in a goal that holds frames visits shared parts again and again). -/
theorem sRetE {F : AF} {H H1 : Heap} {fr : Fr} {v v0 : AV} (he : v = v0) (hk : F.keep = false) (hr : (resAll fr H1 F.results).map tupled = some v0) (hf : frzV H.length v0 H1 = some (v0, H1)) (hb : v0.bel H.length = true) (ho : Old H H1) : retP F H fr H1 v H := by
  subst he; exact sRetV hk hr hf hb ho

end Go.AM

/- The abstract machine, part 23: from a contract to a call in the world. Own work. -/
set_option linter.all false
namespace Go.AM
open Go.RowKit

theorem calls_of_good {P : Program} {GT : Nat → Option AV} {w : World} {M : AMap} {I : Nat → Prop} {H H' : Heap} {f : FuncId} {fn : Func} {args : List AV} {cargs : List Value} {v : AV}
    (hf : P.funcs[f]? = some fn) (hname : (fn.name == "runtime.NumGoroutine") = false) (hb : fn.body.isSome = true) (hg : Good P GT f args H v H') (hS : Sim GT w M I H) (hA : RelL w M I H.length args cargs) :
    Calls P f cargs.toArray w fun e w' => ∃ v', e = .returned v' ∧ ∃ M' I', Grow w M I H w' M' I' H' ∧ Sim GT w' M' I' H' ∧ Rel w' M' I' H'.length v v' := by
  have h1 : fn.name ≠ "runtime.NumGoroutine" := by simpa using hname
  obtain ⟨c, hb⟩ := Option.isSome_iff_exists.1 hb
  have hrun : (callFunc f cargs.toArray).run P w = .ok (.enter f cargs.toArray) w := by simp [callFunc, hf, h1, hb]
  have h := hg.n hA w M I cargs hS hA
  rw [hrun] at h
  exact h

/-- All that lies in the world is shut. -/
def allOld (w : World) : Nat → Prop := fun k => k < w.heap.size

theorem sim_empty (w : World) : Sim (fun _ => none) w (fun _ => none) (allOld w) [] where
  glob := fun g x h => by cases h
  idom := fun k h => h
  blk := fun b x h => by simp at h
  inj := fun b b' x x' g o o' h => by simp at h

theorem below_of_grow {w w' : World} {M M' : AMap} {I I' : Nat → Prop} {H' : Heap} (h : Grow w M I [] w' M' I' H') : Below w.heap.size w w' :=
  ⟨h.os, h.tape, h.output, h.size, fun k hk => h.frame k hk (by rintro ⟨b, x, o, hb, _⟩; simp at hb)⟩

/-- A law that says true. -/
theorem law_of_good {P : Program} {w : World} {f : FuncId} {fn : Func} {args : List AV} {cargs : List Value}
    (hf : P.funcs[f]? = some fn) (hname : (fn.name == "runtime.NumGoroutine") = false) (hb : fn.body.isSome = true) (hg : Good P (fun _ => none) f args [] (.bool true) []) (hA : RelL w (fun _ => none) (allOld w) 0 args cargs) :
    Calls P f cargs.toArray w fun e w' => e = .returned (.bool true) ∧ Below w.heap.size w w' :=
  (calls_of_good hf hname hb hg (sim_empty w) hA).mono fun e w' ⟨v', he, M', I', hG, _, hR⟩ => by
    cases hR
    exact ⟨he, below_of_grow hG⟩

theorem relL_nil (w : World) (M : AMap) (I : Nat → Prop) (n : Nat) : RelL w M I n [] [] := ⟨rfl, fun i c v h => by simp at h⟩
theorem relL_cons {w : World} {M : AMap} {I : Nat → Prop} {n : Nat} {x : AV} {v : Value} {xs : List AV} {vs : List Value} (h : Rel w M I n x v) (hs : RelL w M I n xs vs) : RelL w M I n (x :: xs) (v :: vs) :=
  ⟨by rw [List.length_cons, List.length_cons, hs.1], fun i c u hc hu => by
    cases i with
    | zero => simp only [List.getElem?_cons_zero, Option.some.injEq] at hc hu; subst hc; subst hu; exact h
    | succ i => simp only [List.getElem?_cons_succ] at hc hu; exact hs.2 i c u hc hu⟩
theorem rel_str (w : World) (M : AMap) (I : Nat → Prop) (n : Nat) (s : ByteArray) : Rel w M I n (.str s.data.toList) (.string s) := .str s.data.toList

theorem rel_str' {w : World} {M : AMap} {I : Nat → Prop} {n : Nat} {s : List UInt8} {v : Value} (h : Rel w M I n (.str s) v) : v = .string ⟨s.toArray⟩ := by cases h; rfl
theorem rel_int' {w : World} {M : AMap} {I : Nat → Prop} {n : Nat} {k : IntKind} {m : Int} {v : Value} (h : Rel w M I n (.int k m) v) : v = .int k m := by cases h; rfl
theorem relL_one {w : World} {M : AMap} {I : Nat → Prop} {n : Nat} {x : AV} {vs : List Value} (h : RelL w M I n [x] vs) : ∃ v, vs = [v] ∧ Rel w M I n x v := by
  obtain ⟨hl, h⟩ := h
  obtain ⟨v, rfl⟩ := List.length_eq_one_iff.1 hl.symm
  exact ⟨v, rfl, h 0 x v rfl rfl⟩
theorem relL_two {w : World} {M : AMap} {I : Nat → Prop} {n : Nat} {x y : AV} {vs : List Value} (h : RelL w M I n [x, y] vs) : ∃ v u, vs = [v, u] ∧ Rel w M I n x v ∧ Rel w M I n y u := by
  obtain ⟨hl, h⟩ := h
  match vs, hl with
  | [v, u], _ => exact ⟨v, u, rfl, h 0 x v rfl rfl, h 1 y u rfl rfl⟩

/-- A call that leaves all that was there turns nothing of what is known. -/
theorem grow_of_below {GT : Nat → Option AV} {w w' : World} {M : AMap} {I : Nat → Prop} {H : Heap} (hS : Sim GT w M I H) (h : Below w.heap.size w w') : Grow w M I H w' M I H ∧ Sim GT w' M I H := by
  have hb : ∀ k, k < w.heap.size → w'.heap[k]? = w.heap[k]? := fun k hk => h.block k hk
  have hs : ∀ g s, w.shape? g = some s → w'.shape? g = some s := fun g s hg => by
    have hlt : g < w.heap.size := by
      unfold World.shape? at hg
      split at hg
      · rename_i e; exact (Array.getElem?_eq_some_iff.1 e).1
      · cases hg
    rw [shape?_of_heap (hb g hlt)]; exact hg
  refine ⟨⟨h.os, h.tape, h.output, h.size, fun _ _ => rfl, fun _ h => h, fun _ h _ => .inl h, fun k hk _ => hb k hk, fun _ _ h => h, hs, Nat.le_refl _⟩, ?_⟩
  refine ⟨fun g x hg => (hS.glob g x hg).mono (fun _ h => h) (fun k hk => hb k (hS.idom k hk)) (fun _ _ => rfl) (Nat.le_refl _) hs, fun k hk => Nat.lt_of_lt_of_le (hS.idom k hk) h.size, fun b x hx => ?_, hS.inj⟩
  exact (hS.blk b x hx).mono (List.getElem?_eq_some_iff.1 hx).1 (fun _ h => h) (fun k hk => hb k (hS.idom k hk)) (fun _ _ => rfl) (Nat.le_refl _) hs (fun g o hM hm => hb g (hS.live_lt ⟨b, x, o, hx, hm, hM⟩)) (fun _ _ _ _ h => h)

/-- A contract out of a theorem of the kit's on a call that leaves all that was there. -/
theorem good_of_calls {P : Program} {GT : Nat → Option AV} {f : FuncId} {fn : Func} {args : List AV} {H : Heap} {v : AV} (hf : P.funcs[f]? = some fn) (hname : (fn.name == "runtime.NumGoroutine") = false) (hb : fn.body.isSome = true)
    (h : ∀ (w : World) (M : AMap) (I : Nat → Prop) (cargs : List Value), Sim GT w M I H → RelL w M I H.length args cargs → Calls P f cargs.toArray w fun e w' => ∃ v', e = .returned v' ∧ Below w.heap.size w w' ∧ Rel w' M I H.length v v') (hn : noPan args = true := by first | rfl | exact Go.AM.noPan_view (by assumption) | exact Go.AM.noPan_tab (by assumption) | exact Go.AM.noPan_lst (by assumption)) : Good P GT f args H v H := by
  refine good_of_n hn ?_
  intro w M I cargs hS hA
  have h1 : fn.name ≠ "runtime.NumGoroutine" := by simpa using hname
  obtain ⟨c, hb⟩ := Option.isSome_iff_exists.1 hb
  have hrun : (callFunc f cargs.toArray).run P w = .ok (.enter f cargs.toArray) w := by simp [callFunc, hf, h1, hb]
  rw [hrun]
  exact (h w M I cargs hS hA).mono fun e w' ⟨v', he, hB, hR⟩ => ⟨v', he, M, I, (grow_of_below hS hB).1, (grow_of_below hS hB).2, hR⟩

theorem rel_raw' {w : World} {M : AMap} {I : Nat → Prop} {n : Nat} {a v : Value} (h : Rel w M I n (.raw a) v) : v = a := by cases h; rfl
theorem run_enter {P : Program} {f : FuncId} {fn : Func} {args : Array Value} {w : World} (hf : P.funcs[f]? = some fn) (hname : (fn.name == "runtime.NumGoroutine") = false) (hb : fn.body.isSome = true) : (callFunc f args).run P w = .ok (.enter f args) w := by
  have h1 : fn.name ≠ "runtime.NumGoroutine" := by simpa using hname
  obtain ⟨c, hb⟩ := Option.isSome_iff_exists.1 hb
  simp [callFunc, hf, h1, hb]

/-- A variable of one cell is written. -/
theorem grow_setBox {GT : Nat → Option AV} {w : World} {M : AMap} {I : Nat → Prop} {H : Heap} (hS : Sim GT w M I H) {b g o : Nat} {c x : AV} {v : Value} (hb : H[b]? = some (.box [c])) (hM : M b = some (g, o)) (hr : ∀ w, Rel w M I H.length x v) :
    Grow w M I H (w.setCell ⟨g, o, none⟩ v) M I (H.set b (.box [x])) ∧ Sim GT (w.setCell ⟨g, o, none⟩ v) M I (H.set b (.box [x])) := by
  obtain ⟨g', o', cur, h1, ⟨e, fz, hg, hfz⟩, h3, h4, h5⟩ := hS.blk b _ hb
  rw [hM] at h1
  simp only [Option.some.injEq, Prod.mk.injEq] at h1
  obtain ⟨rfl, rfl⟩ := h1
  have hlt := (Array.getElem?_eq_some_iff.1 hg).1
  have hh : (w.setCell ⟨g, o, none⟩ v).heap = w.heap.setIfInBounds g (.cells (cur.setIfInBounds o v) e fz) := by
    apply Array.ext_getElem?
    intro i
    simp only [World.setCell, Array.getElem?_modify, Array.getElem?_setIfInBounds]
    by_cases hi : g = i
    · subst hi
      have hg' : w.heap[g] = .cells cur e fz := (Array.getElem?_eq_some_iff.1 hg).2
      simp [hlt, hg']
    · simp [hi]
  refine Sim.write hS hb rfl hM hg (by simp) hh rfl rfl rfl ⟨g, o, cur.setIfInBounds o v, hM, ⟨e, fz, ?_, ?_⟩, h3, ?_, fun j c' hj => ?_⟩
  · rw [hh, Array.getElem?_setIfInBounds, if_pos rfl, if_pos hlt]
  · simpa using hfz
  · simpa using h4
  · cases j with
    | zero =>
      simp only [List.getElem?_cons_zero, Option.some.injEq] at hj
      subst hj
      refine ⟨v, ?_, hr _⟩
      simp only [List.length_cons, List.length_nil] at h4
      rw [Nat.add_zero, Array.getElem?_setIfInBounds, if_pos rfl, if_pos (by omega)]
    | succ j => simp at hj

end Go.AM

/- The abstract machine, part 24: what comes in: arguments of plain data stand for abstract values. Own work. -/
set_option linter.all false
namespace Go.AM

/-- What may stand in a cell of plain data. -/
inductive Sh where
  | bool
  | int (k : IntKind)
  | str
  | sl (ag : Bool) (es : List Sh)
  deriving Inhabited

/-- An element of a slice: one cell, or several in one. -/
def formed (ag : Bool) (x : AV) : Prop :=
  match ag with
  | true => ∃ cs, x = .agg cs
  | false => x.cells = [x]

inductive Fits : Sh → AV → Prop where
  | bool (b : Bool) : Fits .bool (.bool b)
  | int (k : IntKind) (n : Int) (h : (Lit.int k n).wf = true) : Fits (.int k) (.int k n)
  | str (s : List UInt8) (h : s.length ≤ maxLen) : Fits .str (.str s)
  | sl (ag : Bool) (es : List Sh) (q : Bool) (xs : List AV) (hl : xs.length ≤ maxLen) (hq : q = true → xs = []) (h1 : ∀ x ∈ xs, x.cells.length = es.length ∧ formed ag x)
      (h2 : ∀ x ∈ xs, ∀ (i : Nat) (s : Sh) (c : AV), es[i]? = some s → x.cells[i]? = some c → Fits s c) : Fits (.sl ag es) (.lst (some q) es.length xs)

def shFs (r : TypeId → Option (Bool × List Sh)) (P : Program) : List Field → Nat → Option (List Sh)
  | [], _ => some []
  | f :: fs, o => if f.offset = o then (match r f.type with
    | some (_, ss) => if P.cellsOf f.type = ss.length then (shFs r P fs (o + ss.length)).map (ss ++ ·) else none
    | none => none) else none

def shOf (P : Program) : Nat → TypeId → Option (Bool × List Sh)
  | 0, _ => none
  | m + 1, t => match P.underlying t with
    | some .bool => some (false, [.bool])
    | some (.int k) => some (false, [.int k])
    | some .string => some (false, [.str])
    | some (.slice e) => (match shOf P m e with
      | some (ag, es) => if P.cellsOf e = es.length ∧ 0 < es.length ∧ (ag = true ∨ es.length = 1) then some (false, [.sl ag es]) else none
      | none => none)
    | some (.struct fs) => (match shFs (shOf P m) P fs.toList 0 with
      | some ss => if P.cellsOf t = ss.length then some (true, ss) else none
      | none => none)
    | _ => none

theorem mapM_some {α β : Type} {f : α → Option β} : ∀ {l : List α} {r : List β}, l.mapM f = some r → r.length = l.length ∧ ∀ (i : Nat) (x : α), l[i]? = some x → ∃ y, r[i]? = some y ∧ f x = some y
  | [], r, h => by
    simp at h; subst h; exact ⟨rfl, fun i x hx => by simp at hx⟩
  | a :: l, r, h => by
    simp only [List.mapM_cons, Option.bind_eq_bind, Option.pure_def] at h
    obtain ⟨y, hy, h⟩ := Option.bind_eq_some_iff.1 h
    obtain ⟨ys, hys, h⟩ := Option.bind_eq_some_iff.1 h
    simp only [Option.some.injEq] at h
    subst h
    obtain ⟨h1, h2⟩ := mapM_some hys
    refine ⟨by simp [h1], fun i x hx => ?_⟩
    cases i with
    | zero => simp at hx; subst hx; exact ⟨y, rfl, hy⟩
    | succ i => simp at hx; obtain ⟨z, e1, e2⟩ := h2 i x hx; exact ⟨z, by simpa using e1, e2⟩

theorem list_of {p : Nat → AV → Prop} : ∀ n, (∀ i, i < n → ∃ x, p i x) → ∃ xs : List AV, xs.length = n ∧ ∀ i x, xs[i]? = some x → p i x
  | 0, _ => ⟨[], rfl, fun i x h => by simp at h⟩
  | n + 1, h => by
    obtain ⟨xs, h1, h2⟩ := list_of n fun i hi => h i (by omega)
    obtain ⟨x, hx⟩ := h n (by omega)
    refine ⟨xs ++ [x], by simp [h1], fun i y hy => ?_⟩
    by_cases hi : i < n
    · rw [List.getElem?_append_left (by omega)] at hy; exact h2 i y hy
    · rw [List.getElem?_append_right (by omega)] at hy
      have : i - xs.length = 0 := by
        have := (List.getElem?_eq_some_iff.1 hy).1
        simp at this; omega
      rw [this] at hy; simp at hy; subst hy
      have : i = n := by omega
      subst this; exact hx

theorem Fits.free {s : Sh} {x : AV} (h : Fits s x) : x.noRef = true ∧ x.one = true ∧ x.cells = [x] := by
  cases h <;> exact ⟨rfl, rfl, rfl⟩

theorem cell_lt {w : World} {a : Addr} {v : Value} (h : w.cell? a = some v) : a.block < w.heap.size ∧ a.spot = none := by
  unfold World.cell? at h
  split at h
  · rename_i hb
    split at h
    · cases h
    · rename_i hs
      refine ⟨?_, by simpa using hs⟩
      obtain ⟨hlt, _⟩ := Array.getElem?_eq_some_iff.1 hb
      exact hlt
  · cases h

/-- What is known of a run of cells. -/
structure Stands (w : World) (ss : List Sh) (xs : List AV) (cs : List Value) : Prop where
  len : xs.length = ss.length
  clen : cs.length = ss.length
  fits : ∀ (i : Nat) (s : Sh) (x : AV), ss[i]? = some s → xs[i]? = some x → Fits s x
  rel : ∀ (i : Nat) (x : AV) (v : Value), xs[i]? = some x → cs[i]? = some v → Rel w (fun _ => none) (allOld w) 0 x v

theorem Stands.fits' {w : World} {ss : List Sh} {xs : List AV} {cs : List Value} (h : Stands w ss xs cs) {x : AV} (hx : x ∈ xs) : ∃ s, Fits s x := by
  obtain ⟨i, hi⟩ := List.getElem?_of_mem hx
  have hlt := (List.getElem?_eq_some_iff.1 hi).1
  exact ⟨ss[i]'(by rw [← h.len]; exact hlt), h.fits i _ x (List.getElem?_eq_getElem _) hi⟩

theorem stands_one {w : World} {s : Sh} {x : AV} {v : Value} (hf : Fits s x) (hr : Rel w (fun _ => none) (allOld w) 0 x v) : Stands w [s] [x] [v] where
  len := rfl
  clen := rfl
  fits := fun i s' x' h1 h2 => by
    cases i with
    | zero => simp at h1 h2; subst h1; subst h2; exact hf
    | succ i => simp at h1
  rel := fun i x' v' h1 h2 => by
    cases i with
    | zero => simp at h1 h2; subst h1; subst h2; exact hr
    | succ i => simp at h1

section
variable {H : Type} {enc : TypeId × Value → H} {P : Program} {w : World} {held : Bool}

theorem stands_fields {fuel m : Nat} (ih : ∀ (t : TypeId) (cs : List Value) (d : DataW H) (ps : List MemPlace) (ag : Bool) (ss : List Sh), DataW.trod enc P w 0 (fun _ => true) held fuel t cs = some (d, ps) → shOf P m t = some (ag, ss) → ∃ xs, Stands w ss xs cs)
    (cs : List Value) : ∀ (fs : List Field) (o : Nat) (ss : List Sh) (r : List (DataW H × List MemPlace)), (fs.mapM fun f => DataW.trod enc P w 0 (fun _ => true) held fuel f.type ((cs.drop f.offset).take (P.cellsOf f.type))) = some r → shFs (shOf P m) P fs o = some ss →
    ∃ xs : List AV, xs.length = ss.length ∧ (∀ (i : Nat) (s : Sh) (x : AV), ss[i]? = some s → xs[i]? = some x → Fits s x) ∧ ∀ (i : Nat) (x : AV) (v : Value), xs[i]? = some x → cs[o + i]? = some v → Rel w (fun _ => none) (allOld w) 0 x v := by
  intro fs
  induction fs with
  | nil =>
    intro o ss r _ hs
    simp only [shFs, Option.some.injEq] at hs
    subst hs
    exact ⟨[], rfl, fun i s x h => by simp at h, fun i x v h => by simp at h⟩
  | cons f fs ihf =>
    intro o ss r h hs
    unfold shFs at hs
    split at hs
    case isFalse => cases hs
    rename_i ho
    split at hs
    case h_2 => cases hs
    rename_i ag ss1 h1
    split at hs
    case isFalse => cases hs
    rename_i hc
    obtain ⟨ss2, h2, rfl⟩ := Option.map_eq_some_iff.1 hs
    simp only [List.mapM_cons, Option.bind_eq_bind, Option.pure_def] at h
    obtain ⟨⟨d, p⟩, hy, h⟩ := Option.bind_eq_some_iff.1 h
    obtain ⟨ys, hys, _⟩ := Option.bind_eq_some_iff.1 h
    obtain ⟨xs1, S1⟩ := ih _ _ _ _ _ _ hy h1
    obtain ⟨xs2, e1, e2, e3⟩ := ihf _ _ _ hys h2
    refine ⟨xs1 ++ xs2, by rw [List.length_append, List.length_append, S1.len, e1], fun i s x h3 h4 => ?_, fun i x v h3 h4 => ?_⟩
    · by_cases hi : i < ss1.length
      · rw [List.getElem?_append_left hi] at h3
        rw [List.getElem?_append_left (by rw [S1.len]; exact hi)] at h4
        exact S1.fits i s x h3 h4
      · rw [List.getElem?_append_right (by omega)] at h3
        rw [List.getElem?_append_right (by rw [S1.len]; omega), S1.len] at h4
        exact e2 _ s x h3 h4
    · by_cases hi : i < ss1.length
      · rw [List.getElem?_append_left (by rw [S1.len]; exact hi)] at h3
        refine S1.rel i x v h3 ?_
        rw [List.getElem?_take, if_pos (by rw [hc]; exact hi), List.getElem?_drop, ho]
        exact h4
      · rw [List.getElem?_append_right (by rw [S1.len]; omega), S1.len] at h3
        refine e3 _ x v h3 ?_
        rw [← h4]; congr 1; omega

theorem cells_spec {a : Addr} {n : Nat} {cs : List Value} (h : w.cells? 0 a n = some cs) : cs.length = n ∧ ∀ j v, cs[j]? = some v → w.cell? (a.add j) = some v := by
  unfold World.cells? at h
  rw [if_pos (Nat.zero_le _)] at h
  obtain ⟨h1, h2⟩ := mapM_some h
  rw [List.length_range] at h1
  refine ⟨h1, fun j v hj => ?_⟩
  have hlt : j < n := by rw [← h1]; exact (List.getElem?_eq_some_iff.1 hj).1
  obtain ⟨y, e1, e2⟩ := h2 j j (by rw [List.getElem?_range hlt])
  rw [e1] at hj
  simp only [Option.some.injEq] at hj
  subst hj; exact e2

theorem stands_of_trod : ∀ (fuel : Nat) (t : TypeId) (cs : List Value) (d : DataW H) (ps : List MemPlace) (m : Nat) (ag : Bool) (ss : List Sh),
    DataW.trod enc P w 0 (fun _ => true) held fuel t cs = some (d, ps) → shOf P m t = some (ag, ss) → ∃ xs, Stands w ss xs cs := by
  intro fuel
  induction fuel with
  | zero => intro t cs d ps m ag ss h; simp [DataW.trod] at h
  | succ fuel ih =>
    intro t cs d ps m ag ss h hs
    cases m with
    | zero => simp [shOf] at hs
    | succ m =>
    unfold shOf at hs
    split at hs
    · -- bool
      rename_i hu
      simp only [Option.some.injEq, Prod.mk.injEq] at hs
      obtain ⟨_, rfl⟩ := hs
      rcases cs with _ | ⟨c, _ | ⟨c', cs⟩⟩
      · simp [DataW.trod, hu] at h
      · cases c <;> simp [DataW.trod, hu] at h
        exact ⟨_, stands_one (.bool _) (.bool _)⟩
      · simp [DataW.trod, hu] at h
    · rename_i k hu
      simp only [Option.some.injEq, Prod.mk.injEq] at hs
      obtain ⟨_, rfl⟩ := hs
      rcases cs with _ | ⟨c, _ | ⟨c', cs⟩⟩
      · simp [DataW.trod, hu] at h
      · cases c <;> simp [DataW.trod, hu] at h
        obtain ⟨⟨rfl, hw⟩, _⟩ := h
        exact ⟨_, stands_one (.int _ _ hw) (.int _ _)⟩
      · simp [DataW.trod, hu] at h
    · rename_i hu
      simp only [Option.some.injEq, Prod.mk.injEq] at hs
      obtain ⟨_, rfl⟩ := hs
      rcases cs with _ | ⟨c, _ | ⟨c', cs⟩⟩
      · simp [DataW.trod, hu] at h
      · cases c <;> simp [DataW.trod, hu] at h
        rename_i s
        have hl : s.data.toList.length ≤ maxLen := by
          have h1 : s.size ≤ maxLen := h.1
          exact h1
        exact ⟨_, stands_one (.str s.data.toList hl) (rel_str _ _ _ _ s)⟩
      · simp [DataW.trod, hu] at h
    · -- a slice
      rename_i e hu
      split at hs
      case h_2 => cases hs
      rename_i ag' es he
      split at hs
      case isFalse => cases hs
      rename_i hk
      obtain ⟨hk, hk0, hk1⟩ := hk
      simp only [Option.some.injEq, Prod.mk.injEq] at hs
      obtain ⟨_, rfl⟩ := hs
      rcases cs with _ | ⟨c, _ | ⟨c', cs⟩⟩
      · simp [DataW.trod, hu] at h
      rotate_left
      · simp [DataW.trod, hu] at h
      cases c
      case slice a len cap =>
        cases a with
        | none =>
          cases len <;> cases cap <;> simp [DataW.trod, hu] at h
          exact ⟨_, stands_one (.sl ag' es true [] (Nat.zero_le _) (fun _ => rfl) (fun x hx => absurd hx (by simp)) (fun x hx => absurd hx (by simp))) (.lnil _ _ (by simp))⟩
        | some a =>
          simp only [DataW.trod, hu] at h
          split at h
          case isFalse => cases h
          rename_i hb
          obtain ⟨elems, h1, h⟩ := Option.bind_eq_some_iff.1 h
          obtain ⟨rest, h2, _⟩ := Option.map_eq_some_iff.1 h
          simp only [if_true] at h2
          have at_ : ∀ (i : Nat) (y : DataW H × List MemPlace), ((w.cells? 0 (a.add (i * P.cellsOf e)) (P.cellsOf e)).bind (DataW.trod enc P w 0 (fun _ => true) held fuel e)) = some y →
              ∃ xs ci, Stands w es xs ci ∧ ∀ j v, ci[j]? = some v → w.cell? ((a.add (i * es.length)).add j) = some v := by
            intro i y hy
            obtain ⟨ci, e1, e2⟩ := Option.bind_eq_some_iff.1 hy
            obtain ⟨xs, S⟩ := ih e ci y.1 y.2 m ag' es e2 he
            obtain ⟨e3, e4⟩ := cells_spec e1
            exact ⟨xs, ci, S, by rw [← hk]; exact e4⟩
          obtain ⟨l1, l2⟩ := mapM_some h1
          obtain ⟨l3, l4⟩ := mapM_some h2
          rw [List.length_range] at l1 l3
          have elem : ∀ i, i < len → ∃ x : AV, (x.cells.length = es.length ∧ formed ag' x) ∧ (∀ (j : Nat) (s : Sh) (c : AV), es[j]? = some s → x.cells[j]? = some c → Fits s c) ∧ x.elem es.length = true ∧
              ∀ j c, x.cells[j]? = some c → ∃ v, w.cell? ((a.add (i * es.length)).add j) = some v ∧ Rel w (fun _ => none) (allOld w) 0 c v := by
            intro i hi
            obtain ⟨y, _, hy⟩ := l2 i i (by rw [List.getElem?_range hi])
            obtain ⟨xs, ci, S, hci⟩ := at_ i y hy
            have hrel : ∀ j c, xs[j]? = some c → ∃ v, w.cell? ((a.add (i * es.length)).add j) = some v ∧ Rel w (fun _ => none) (allOld w) 0 c v := fun j c hj => by
              have hlt : j < ci.length := by rw [S.clen, ← S.len]; exact (List.getElem?_eq_some_iff.1 hj).1
              exact ⟨ci[j], hci j _ (List.getElem?_eq_getElem hlt), S.rel j c _ hj (List.getElem?_eq_getElem hlt)⟩
            cases ag' with
            | true =>
              refine ⟨.agg xs, ⟨S.len, xs, rfl⟩, S.fits, AV.elem_iff.2 ⟨S.len, ?_, fun c hc => ?_⟩, hrel⟩
              · simp only [AV.noRef, AV.bel, AV.belL_iff]
                intro c hc
                obtain ⟨s, hs⟩ := S.fits' hc
                exact hs.free.1
              · obtain ⟨s, hs⟩ := S.fits' hc
                exact hs.free.2.1
            | false =>
              have h1 : es.length = 1 := by rcases hk1 with h | h; · cases h
                                            · exact h
              have hl := S.len
              rw [h1] at hl
              obtain ⟨x, rfl⟩ := List.length_eq_one_iff.1 hl
              obtain ⟨s, hs⟩ := S.fits' (x := x) (by simp)
              obtain ⟨f1, f2, f3⟩ := hs.free
              refine ⟨x, ⟨by rw [f3, h1]; rfl, f3⟩, by rw [f3]; exact S.fits, AV.elem_iff.2 ⟨by rw [f3, h1]; rfl, f1, fun c hc => ?_⟩, by rw [f3]; exact hrel⟩
              rw [f3] at hc
              simp only [List.mem_singleton] at hc
              rw [hc]; exact f2
          obtain ⟨X, x1, x2⟩ := list_of len elem
          have hmem : ∀ x ∈ X, ∃ i, X[i]? = some x := fun x hx => List.getElem?_of_mem hx
          refine ⟨[.lst (some false) es.length X], stands_one (.sl ag' es false X (by omega) (by simp) (fun x hx => ?_) (fun x hx => ?_)) ?_⟩
          · obtain ⟨i, hi⟩ := hmem x hx; exact (x2 i x hi).1
          · obtain ⟨i, hi⟩ := hmem x hx; exact (x2 i x hi).2.1
          · by_cases hc0 : cap = 0
            · have : len = 0 := by omega
              subst this; subst hc0
              obtain rfl := List.eq_nil_of_length_eq_zero x1
              exact .lemp _ _ a (by simp)
            · have hcell : ∃ v, w.cell? a = some v := by
                by_cases hl0 : len = 0
                · obtain ⟨y, _, hy⟩ := l4 0 0 (by rw [List.getElem?_range (by omega)])
                  obtain ⟨xs, ci, S, hci⟩ := at_ _ y hy
                  have hlt : 0 < ci.length := by rw [S.clen]; exact hk0
                  have h0 := hci 0 _ (List.getElem?_eq_getElem hlt)
                  simp only [hl0, Nat.add_zero, Nat.zero_mul, Addr.add, if_true] at h0
                  exact ⟨_, h0⟩
                · obtain ⟨y, _, hy⟩ := l2 0 0 (by rw [List.getElem?_range (by omega)])
                  obtain ⟨xs, ci, S, hci⟩ := at_ _ y hy
                  have hlt : 0 < ci.length := by rw [S.clen]; exact hk0
                  have h0 := hci 0 _ (List.getElem?_eq_getElem hlt)
                  simp only [Nat.zero_mul, Addr.add, if_true] at h0
                  exact ⟨_, h0⟩
              obtain ⟨v0, hv0⟩ := hcell
              obtain ⟨g1, g2⟩ := cell_lt hv0
              obtain ⟨ab, ao, as⟩ := a
              simp only at g1 g2
              subst g2
              rw [← x1]
              refine Rel.mk_lst (by simp) (by omega) hb.2.2 g1 (fun x hx => ?_) (fun i j x c hi hj => ?_)
              · obtain ⟨i, hi⟩ := hmem x hx; exact (x2 i x hi).2.2.1
              · obtain ⟨v, e1, e2⟩ := (x2 i x hi).2.2.2 j c hj
                simp only [Addr.add_lit] at e1
                exact ⟨v, e1, e2⟩
      all_goals (simp [DataW.trod, hu] at h)
    · rename_i fs hu
      split at hs
      case h_2 => cases hs
      rename_i ss' hs'
      split at hs
      case isFalse => cases hs
      rename_i hc
      simp only [Option.some.injEq, Prod.mk.injEq] at hs
      obtain ⟨_, rfl⟩ := hs
      simp only [DataW.trod, hu] at h
      split at h
      case isFalse => cases h
      rename_i hcl
      obtain ⟨r, hr, _⟩ := Option.map_eq_some_iff.1 h
      obtain ⟨xs, e1, e2, e3⟩ := stands_fields (fun t cs d ps ag ss h1 h2 => ih t cs d ps m ag ss h1 h2) cs _ 0 ss' r hr hs'
      exact ⟨xs, e1, by rw [hcl, hc], e2, fun i x v h1 h2 => e3 i x v h1 (by rw [Nat.zero_add]; exact h2)⟩
    · cases hs

/-- An argument of one cell. -/
theorem arg_of_trod {t : TypeId} {m : Nat} {s : Sh} {v : Value} {d : DataW H} {ps : List MemPlace} {r : Reach} {b0 : Nat} (hs : shOf P m t = some (false, [s])) (ho : Value.okWide P w r b0 t v) (h : DataW.Trod enc P w 0 (fun _ => true) held t v d ps) :
    ∃ x, Fits s x ∧ Rel w (fun _ => none) (allOld w) 0 x v := by
  obtain ⟨fuel, h⟩ := h
  obtain ⟨xs, S⟩ := stands_of_trod fuel t _ d ps m false [s] h hs
  have hl := S.len
  obtain ⟨x, rfl⟩ := List.length_eq_one_iff.1 hl
  have hv : v.cells.toList = [v] := by
    cases m with
    | zero => simp [shOf] at hs
    | succ m =>
    unfold shOf at hs
    unfold Value.okWide at ho
    split at hs
    all_goals first
      | (cases hs; done)
      | skip
    · rename_i hu; rw [hu] at ho; simp only [Cell.okWide, hu, Cell.ok] at ho
      cases v <;> first | rfl | (simp at ho)
    · rename_i hu; rw [hu] at ho; simp only [Cell.okWide, hu, Cell.ok] at ho
      cases v <;> first | rfl | (simp at ho)
    · rename_i hu; rw [hu] at ho; simp only [Cell.okWide, hu, Cell.ok] at ho
      cases v <;> first | rfl | (simp at ho)
    · rename_i hu; rw [hu] at ho; simp only [Cell.okWide, hu, Cell.ok] at ho
      cases v <;> first | rfl | (simp at ho)
    · split at hs
      · split at hs
        · cases hs
        · cases hs
      · cases hs
  rw [hv] at S
  exact ⟨x, S.fits 0 s x rfl rfl, S.rel 0 x v rfl rfl⟩

end
end Go.AM

/- The abstract machine, part 25: contracts that say that there is a result of a kind; rows of numbers that a function turns in place. Own work. -/
set_option linter.all false
namespace Go.AM

/-- A function comes to an end that Q allows. -/
structure retQ (F : AF) (H : Heap) (fr : Fr) (H1 : Heap) (Q : AV → Heap → Prop) : Prop where
  h : ∃ v H', retF F H fr H1 v H' ∧ Q v H'
theorem sRetQ {F : AF} {H : Heap} {fr : Fr} {H1 : Heap} {Q : AV → Heap → Prop} {v : AV} {H' : Heap} (h : retP F H fr H1 v H') (q : Q v H') : retQ F H fr H1 Q := ⟨v, H', retP_iff.1 h, q⟩

/-- What 'EFun' asks at the end. -/
def finF (F : AF) (H : Heap) (v : AV) (H' : Heap) : Post := fun e fr H1 => match e with
    | .normal => retP F H fr H1 v H'
    | .ret => retP F H fr H1 v H'
    | _ => False
theorem efun_fin {C : CSpec} {GT : Nat → Option AV} {F : AF} {args : List AV} {H : Heap} {v : AV} {H' : Heap} : EFun C GT F args H v H' = EW C GT F.body (finF F H v H') (argFr 0 args) H := rfl
theorem efun_of {C : CSpec} {GT : Nat → Option AV} {F : AF} {args : List AV} {H : Heap} {v : AV} {H' : Heap} (h : EW C GT F.body (finF F H v H') (argFr 0 args) H) : EFun C GT F args H v H' := h
def finQ (F : AF) (H : Heap) (Q : AV → Heap → Prop) : Post := fun e fr H1 => match e with
    | .normal => retQ F H fr H1 Q
    | .ret => retQ F H fr H1 Q
    | _ => False
def EFunQ (C : CSpec) (GT : Nat → Option AV) (F : AF) (args : List AV) (H : Heap) (Q : AV → Heap → Prop) : Prop := EW C GT F.body (finQ F H Q) (argFr 0 args) H

/-- What follows the first part of a code; the n-th part behind. -/
def AC.rest : AC → AC
  | .seq _ b => b
  | c => c
def AC.first : AC → AC
  | .seq a _ => a
  | c => c
def AC.body : AC → AC
  | .block _ _ c => c
  | .loop _ c => c
  | c => c
def AC.behind (c : AC) : Nat → AC
  | 0 => c
  | n + 1 => (c.behind n).rest

theorem afun_of_efunQ {C : CSpec} {GT : Nat → Option AV} {F : AF} {args : List AV} {H : Heap} {Q : AV → Heap → Prop} (hd : det F.body = true) (h : EFunQ C GT F args H Q) : ∃ v H', Q v H' ∧ AFun C GT F args H v H' := by
  have h1 : AW C GT F.body (fun e fr H1 => match e with
      | .normal => ∃ v H', retF F H fr H1 v H' ∧ Q v H'
      | .ret => ∃ v H', retF F H fr H1 v H' ∧ Q v H'
      | _ => False) (argFr 0 args) H := by
    refine ew_sound _ _ _ _ _ H rfl (fun e f f' H1 hf h => ?_) h
    have : retQ F H f H1 Q → ∃ v H', retF F H f' H1 v H' ∧ Q v H' := fun ⟨v, H', h, q⟩ => ⟨v, H', by
      unfold retF at h ⊢
      rw [← resAll_congr hf]; exact h, q⟩
    cases e with
    | normal => exact this h
    | ret => exact this h
    | _ => exact h
  obtain ⟨e, fr', H1, hk, hall⟩ := aw_atomic _ hd _ _ _ h1
  cases e with
  | normal => obtain ⟨v, H', hr, hq⟩ := hk; exact ⟨v, H', hq, hall _ hr⟩
  | exit id => exact hk.elim
  | goto l => exact hk.elim
  | pan x => exact hk.elim
  | ret => obtain ⟨v, H', hr, hq⟩ := hk; exact ⟨v, H', hq, hall _ hr⟩

theorem good_of_evQ {P : Program} {GT : Nat → Option AV} (hm : P.follows .mixedOrders = true) {f : FuncId} {F : AF} (hc : chkF P f F = true) {args : List AV} {H : Heap} {Q : AV → Heap → Prop} (h : EFunQ (Good P GT) GT F args H Q) (hn : noPan args = true := by first | rfl | exact Go.AM.noPan_view (by assumption) | exact Go.AM.noPan_tab (by assumption) | exact Go.AM.noPan_lst (by assumption)) (hd : det F.body = true := by rfl) : ∃ v H', Q v H' ∧ Good P GT f args H v H' := by
  obtain ⟨v, H', hq, ha⟩ := afun_of_efunQ hd h
  exact ⟨v, H', hq, good_of_chk hm hc ha hn⟩

/-! ### Rows of numbers -/


def nV (k : Nat) : AV := .int .i64 k
def rI (n : Nat) (f : Nat → Nat) : List AV := rowF n fun i => nV (f i)
theorem rI_len (n : Nat) (f : Nat → Nat) : (rI n f).length = n := rowF_len _ _
theorem rI_get {n i : Nat} {f : Nat → Nat} (h : i < n) : (rI n f)[i]? = some (nV (f i)) := rowF_get h
theorem rI_set {n i v : Nat} {f : Nat → Nat} : (rI n f).set i (nV v) = rI n (upd f i v) := by
  unfold rI
  rw [rowF_set]
  congr 1
  funext j; unfold upd; split <;> rfl
theorem rI_congr {n : Nat} {f g : Nat → Nat} (h : ∀ i, i < n → f i = g i) : rI n f = rI n g := rowF_congr fun i hi => by rw [h i hi]

/-- The heap in which that row is f. -/
def hpR (G : Heap) (b n : Nat) (f : Nat → Nat) : Heap := G.set b (.row 1 (rI n f))
theorem hpR_get {G : Heap} {b n : Nat} {f : Nat → Nat} (h : b < G.length) : (hpR G b n f)[b]? = some (.row 1 (rI n f)) := List.getElem?_set_self h
theorem hpR_set (G : Heap) (b n : Nat) (f g : Nat → Nat) : (hpR G b n f).set b (.row 1 (rI n g)) = hpR G b n g := List.set_set ..
theorem hpR_len (G : Heap) (b n : Nat) (f : Nat → Nat) : (hpR G b n f).length = G.length := List.length_set

theorem sIdxR {q : Option Bool} {b n : Nat} {x : Int} {K : AV → Prop} (j : Nat) (hx : x = (j : Int)) (hj : j < n) (k : K (.ref b 1 j 0)) : idxN 1 (.sl q b 1 0 n) x K := by
  subst hx
  refine sAt ⟨by omega, by omega⟩ ?_
  rw [Int.toNat_natCast, Nat.zero_add]; exact k
theorem sLoadR {G : Heap} {b n : Nat} {f : Nat → Nat} {K : AV → Prop} {j : Nat} (hb : b < G.length) (hj : j < n) (k : K (nV (f j))) : loadN 1 false (.ref b 1 j 0) (hpR G b n f) K :=
  sLoadRow j (nV (f j)) _ rfl (hpR_get hb) (rI_get hj) rfl k
theorem sStoreR {G : Heap} {b n v : Nat} {f : Nat → Nat} {K : AV → Heap → Prop} {j : Nat} (hb : b < G.length) (hj : j < n) (k : K .undef (hpR G b n (upd f j v))) : actP (.store 1) [.ref b 1 j 0, nV v] (hpR G b n f) K :=
  sStore j (nV v) rfl (hpR_get hb) (rI_get hj) rfl (by omega) rfl (by simp [nV]) (by rw [rI_set, hpR_set]; exact k)

/-- A function that turned that row and gives nothing. -/
theorem sRetR {F : AF} {G : Heap} {b n : Nat} {f g : Nat → Nat} {fr : Fr} (hk : F.keep = false) (hr : F.results = []) : retP F (hpR G b n f) fr (hpR G b n g) (.tup []) (hpR G b n g) := by
  refine sRet ?_
  unfold retF
  rw [hr]
  simp only [resAll, tupled, hk, frzV, frzL, Bool.false_eq_true, if_false]
  refine ⟨rfl, fun c hc => ?_, trivial, ?_⟩
  · by_cases e : b = c
    · subst e
      rw [hpR_len] at hc
      exact .inr ⟨_, hpR_get hc, rfl⟩
    · exact .inl (by unfold hpR; rw [List.getElem?_set_ne e, List.getElem?_set_ne e])
  · rw [List.take_of_length_le (by rw [hpR_len, hpR_len]; omega)]

/-- A slice of one's own grows: the bound by bytes. -/
theorem sAppendW {H0 H : Heap} {v y : AV} {k bytes : Nat} {xs ys : List AV} {K : AV → Heap → Prop} (ho : Owns H0 H v k xs) (hH : Old H0 H) (hy : view H k y = some ys) (hm : (xs.length + ys.length) * bytes ≤ 140737488355328) (hl : xs.length + ys.length ≤ 9223372036854775807) (h0 : ys ≠ [])
    (q : ∀ v' H', Owns H0 H' v' k (xs ++ ys) → Old H0 H' → v'.blk = some H.length → (∀ c x, v.blk ≠ some c → H[c]? = some x → H'[c]? = some x) → K v' H') : actP (.append k bytes) [v, y] H K := by
  rcases ho with ⟨rfl, rfl⟩ | ⟨b, rfl, h1, h2, _⟩
  · simp only [List.length_nil, Nat.zero_add] at hl hm
    refine sAct (v := .sl (some true) H.length k 0 ys.length) (H' := H ++ [.row k ys]) ?_ ?_
    · simp only [astep, hy]
      rw [if_pos ⟨by omega, by omega⟩]
    · exact q _ _ (.inr ⟨_, rfl, hH.1, push_last, h0⟩) (hH.push _) rfl fun _ _ _ hx => push_old hx
  · refine sAct (v := .sl (some true) H.length k 0 (xs.length + ys.length)) (H' := H.set b .dead ++ [.row k (xs ++ ys)]) ?_ ?_
    · simp only [astep, hy, h2]
      rw [if_pos ⟨trivial, trivial, by omega, by omega, by omega⟩]
      simp
    · refine q _ _ (.inr ⟨_, by rw [List.length_append], hH.1, ?_, by simp [h0]⟩) ((hH.set h1 _).push _) rfl fun c x hc hx => ?_
      · have : (H.set b .dead).length = H.length := List.length_set
        rw [← this]; exact push_last
      · exact push_old (set_other (fun e => hc (by rw [e]; rfl)) hx)

theorem shr1 (s : Nat) : shiftBin .shr .u64 (s : Int) 1 = some (.int .u64 ((s / 2 : Nat) : Int)) := by
  simp only [shiftBin]
  rw [if_neg (by omega)]
  have : (2 : Int) ^ Nat.min (1 : Int).toNat IntKind.u64.bits = 2 := by rfl
  rw [this, Int.fdiv_eq_ediv_of_nonneg _ (by omega)]
  rfl
theorem sWu64n {x : Int} {r : Nat} {K : Int → Prop} (h : x = r) (hr : r ≤ 9223372036854775807) (k : K (r : Int)) : valP (IntKind.wrap .u64 x) K :=
  sVal (by rw [IntWalk.u64_in x (by omega), h]) k

end Go.AM

/- The abstract machine, part 27: an element behind a slice of one's own, in one step; slices beside each other. Own work. -/
set_option linter.all false
namespace Go.AM

/-- 'append(v, x)'. -/
theorem sPush (x : AV) {H0 H : Heap} {v : AV} {k bytes : Nat} {xs : List AV} {K : AV → Heap → AV → Heap → Prop} (ho : Owns H0 H v k xs) (hH : Old H0 H) (hx : x.plain = true) (he : x.elem k = true) (hb : bytes ≤ 1024) (hl : xs.length + 1 ≤ 137438953472)
    (q : ∀ s H1 v' H', Owns H0 H' v' k (xs ++ [x]) → Old H0 H' → (∀ b, v'.blk = some b → H.length ≤ b) → (∀ c y, v.blk ≠ some c → H[c]? = some y → H'[c]? = some y) → K s H1 v' H') :
    actP (.bslice k) [x] H fun s H1 => actP (.append k bytes) [v, s] H1 (K s H1) := by
  refine sBslice (vs' := [x]) (by simp only [frzL, frz_plain hx]) (by simp [he]) ?_
  refine sAppend (H0 := H0) (ho.push _) (hH.push _) view_new hb (by simpa using hl) (by simp) fun v' H' ho' hH' hb' hf => ?_
  exact q _ _ v' H' ho' hH' (fun b e => by rw [hb'] at e; cases e; simp) fun c y hc hy => hf c y hc (push_old hy)

/-- Slices of unlike things are two. -/
theorem Owns.apart {H0 H : Heap} {v w : AV} {k k' : Nat} {xs ys : List AV} (h : Owns H0 H v k xs) (g : Owns H0 H w k' ys) (hne : ∀ x y, x ∈ xs → y ∈ ys → x ≠ y) {b : Nat} (hb : w.blk = some b) : v.blk ≠ some b := by
  intro e
  rcases h with ⟨rfl, _⟩ | ⟨b1, rfl, _, h2, h3⟩
  · cases e
  · rcases g with ⟨rfl, _⟩ | ⟨b2, rfl, _, g2, g3⟩
    · cases hb
    · simp only [AV.blk, Option.some.injEq] at e hb
      subst e; subst hb
      rw [h2] at g2
      simp only [Option.some.injEq, ABlk.row.injEq] at g2
      obtain ⟨_, rfl⟩ := g2
      cases xs with
      | nil => exact h3 rfl
      | cons x xs => exact hne x x (by simp) (by simp) rfl
theorem Owns.after {H0 H H' : Heap} {v w : AV} {k : Nat} {ys : List AV} (hw : Owns H0 H w k ys) (hap : ∀ b, w.blk = some b → v.blk ≠ some b) (hfr : ∀ c x, v.blk ≠ some c → H[c]? = some x → H'[c]? = some x) : Owns H0 H' w k ys :=
  hw.keep fun b x hb hx => hfr b x (hap b hb) hx

/-- 'append(v, w)' where w is a slice of one's own too: it is handed over. -/
theorem sPushS {H0 H : Heap} {v w : AV} {k bytes : Nat} {xs ys : List AV} {K : AV → Heap → AV → Heap → Prop} (ho : Owns H0 H v 1 xs) (hw : Owns H0 H w k ys) (hy : ys ≠ []) (hap : ∀ b, v.blk = some b → w.blk ≠ some b) (hH : Old H0 H) (hb : bytes ≤ 1024) (hl : xs.length + 1 ≤ 137438953472)
    (q : ∀ s H1 v' H', Owns H0 H' v' 1 (xs ++ [lstF k ys]) → Old H0 H' → (∀ c y, v.blk ≠ some c → w.blk ≠ some c → H[c]? = some y → H'[c]? = some y) → K s H1 v' H') :
    actP (.bslice 1) [w] H fun s H1 => actP (.append 1 bytes) [v, s] H1 (K s H1) := by
  obtain ⟨b, hwb, hf, hlb⟩ : ∃ b, w.blk = some b ∧ frzV 0 w H = some (lstF k ys, H.set b (.frz k ys)) ∧ H0.length ≤ b := by
    rcases hw with ⟨_, rfl⟩ | ⟨b, rfl, h1, h2, h3⟩
    · exact absurd rfl hy
    · refine ⟨b, rfl, ?_, h1⟩
      cases ys with
      | nil => exact absurd rfl hy
      | cons x xs =>
        simp only [frzV, Nat.not_lt_zero, if_false, h2]
        simp [lstF, frzQ]
  have hel : (lstF k ys).elem 1 = true := by cases ys <;> rfl
  refine sBsliceF [lstF k ys] (H.set b (.frz k ys)) (by simp only [frzL, hf]) (by simp [hel]) ?_
  have ho2 : Owns H0 (H.set b (.frz k ys)) v 1 xs := ho.set (fun e => hap b e hwb) _
  refine sAppend (H0 := H0) (ho2.push _) ((hH.set hlb _).push _) view_new hb (by simpa using hl) (by simp) fun v' H' ho' hH' hb' hf' => ?_
  refine q _ _ v' H' ho' hH' fun c y hc hc2 hy' => hf' c y hc (push_old (set_other (fun e => hc2 (by rw [hwb, e])) hy'))

/-- 'append(v, s...)' for a string s. -/
theorem sAppStr {H0 H : Heap} {v : AV} {xs : List AV} {s : List UInt8} {K : AV → Heap → Prop} (ho : Owns H0 H v 1 xs) (hH : Old H0 H) (hl : xs.length + s.length ≤ 140737488355328)
    (q : ∀ v' H', Owns H0 H' v' 1 (xs ++ s.map byteAV) → Old H0 H' → (∀ c y, v.blk ≠ some c → H[c]? = some y → H'[c]? = some y) → K v' H') : actP .appendS [v, .str s] H K := by
  by_cases he : s = []
  · subst he
    refine sAct (v := v) (H' := H) ?_ (q v H (by simpa using ho) hH fun c y _ h => h)
    rcases ho with ⟨rfl, rfl⟩ | ⟨b, rfl, _⟩ <;> simp [astep]
  have hne : s.isEmpty = false := by simpa using he
  have h0 : s.map byteAV ≠ [] := by simpa using he
  rcases ho with ⟨rfl, rfl⟩ | ⟨b, rfl, h1, h2, _⟩
  · simp only [List.length_nil, Nat.zero_add] at hl
    refine sAct (v := .sl (some true) H.length 1 0 s.length) (H' := H ++ [.row 1 (s.map byteAV)]) ?_ ?_
    · simp only [astep, hne]
      rw [if_neg (by simp), if_pos hl]
    · have e : s.length = (s.map byteAV).length := by simp
      rw [e]
      exact q _ _ (.inr ⟨_, rfl, hH.1, push_last, h0⟩) (hH.push _) fun _ _ _ hx => push_old hx
  · refine sAct (v := .sl (some true) H.length 1 0 (xs.length + s.length)) (H' := H.set b .dead ++ [.row 1 (xs ++ s.map byteAV)]) ?_ ?_
    · simp only [astep, hne, h2]
      rw [if_neg (by simp), if_pos ⟨trivial, trivial, by omega, by omega⟩]
      simp
    · refine q _ _ (.inr ⟨_, by rw [List.length_append, List.length_map], hH.1, ?_, by simp [h0]⟩) ((hH.set h1 _).push _) fun c x hc hx => ?_
      · have : (H.set b .dead).length = H.length := List.length_set
        rw [← this]; exact push_last
      · exact push_old (set_other (fun e => hc (by rw [e]; rfl)) hx)

/-! ### Going on with a tail that is a theorem of its own -/

/-- What a code looks at first. -/
def headL : AC → Option (List Nat)
  | .reg L _ _ => some L
  | .seq a _ => headL a
  | .block _ _ c => headL c
  | .loop L _ => some L
  | .regt L _ _ _ => some L
  | .scope _ _ c _ => headL c
  | _ => none

theorem ew_head {C : CSpec} {GT : Nat → Option AV} {fr F : Fr} {H : Heap} {L : List Nat} (hr : restrictF fr L = restrictF F L) : ∀ (c : AC) (K : Post), headL c = some L → EW C GT c K F H → EW C GT c K fr H := by
  intro c
  induction c with
  | reg L' d ops =>
    intro K h g
    simp only [headL, Option.some.injEq] at h
    subst h
    replace g : EWops C GT ops [] (restrictF F L') H (fun fr' H' => K .normal fr' H') := g
    rw [← hr] at g
    exact g
  | seq a b iha ihb => intro K h g; exact iha (seqK (EW C GT b K) K) h g
  | block id L' c ih => intro K h g; exact ih (blockF id L' K) h g
  | loop L' c ih =>
    intro K h g
    simp only [headL, Option.some.injEq] at h
    subst h
    replace g : loopP C GT L' c K (restrictF F L') H := g
    rw [← hr] at g
    exact g
  | regt L' d ops t =>
    intro K h g
    simp only [headL, Option.some.injEq] at h
    subst h
    replace g : EWT C GT ops t [] (restrictF F L') H (fun fr' H' => K .normal fr' H') (fun x H' => K (.pan x) [] H') := g
    rw [← hr] at g
    exact g
  | scope L' l c r ihc ihr => intro K h g; exact ihc (jumpK l (fun fr' H' => gotoP C GT L' l r K (restrictF fr' L') H') K) h g
  | label => intro K h; cases h
  | goto => intro K h; cases h
  | skip => intro K h; cases h
  | cond => intro K h; cases h
  | exit => intro K h; cases h
  | ret => intro K h; cases h
  | stuck => intro K h; cases h

/-- Out of a block at its end. -/
theorem sBlkN {id : Nat} {L : List Nat} {K : Post} {fr : Fr} {H : Heap} (k : K .normal (restrictF fr L) H) : blockF id L K .normal fr H := k

theorem sTail {C : CSpec} {GT : Nat → Option AV} {c : AC} {K : Post} {L : List Nat} {fr F : Fr} {H : Heap} (hc : headL c = some L) (g : EW C GT c K F H) (hr : restrictF fr L = restrictF F L) : seqK (EW C GT c K) K .normal fr H :=
  ew_head hr c K hc g

end Go.AM

/- The abstract machine, part 29: a few more steps: boxes written with what is told, lists that nobody writes cut. Own work. -/
set_option linter.all false
namespace Go.AM

/-- A box is written: the cells told. -/
theorem sStoreE {b k s o : Nat} {v : AV} {cs : List AV} (cs' : List AV) {H : Heap} {K : AV → Heap → Prop} (h : H[b]? = some (.box cs)) (hl : v.cells.length = s) (h1 : v.cells.all AV.one = true) (ho : Nat.ble (o + s) cs.length = true) (he : splice cs o v.cells = cs')
    (q : K .undef (H.set b (.box cs'))) : actP (.store s) [.ref b k 0 o, v] H K :=
  sStoreBox h hl h1 (Nat.le_of_ble_eq_true ho) (by rw [he]; exact q)

theorem lst_take {v : AV} {k : Nat} {xs : List AV} (h : LstOf v k xs) {n : Nat} (hn : n ≤ xs.length) : ∃ v', aSlice (some k) v none (some (.int .i64 (n : Int))) = some v' ∧ LstOf v' k (xs.take n) := by
  obtain ⟨q, k', rfl, hk⟩ := h
  refine ⟨.lst (cutQL q 0 n) k' (xs.take n), ?_, _, _, rfl, hk.imp_right fun e => by rw [e]; simp⟩
  simp only [aSlice, aBounds, aHi, aLo]
  rw [if_pos (by rcases hk with h | h <;> simp [h])]
  have h1 : ¬ ((n : Int) < 0) := by omega
  have h2 : (n : Int).toNat = n := Int.toNat_natCast n
  simp [h1, h2, hn]
theorem lst_drop {v : AV} {k : Nat} {xs : List AV} (h : LstOf v k xs) {n : Nat} (hn : n ≤ xs.length) : ∃ v', aSlice (some k) v (some (.int .i64 (n : Int))) none = some v' ∧ LstOf v' k (xs.drop n) := by
  obtain ⟨q, k', rfl, hk⟩ := h
  refine ⟨.lst (cutQL q n xs.length) k' (xs.drop n), ?_, _, _, rfl, hk.imp_right fun e => by rw [e]; simp⟩
  simp only [aSlice, aBounds, aHi, aLo]
  rw [if_pos (by rcases hk with h | h <;> simp [h])]
  have h1 : ¬ ((n : Int) < 0) := by omega
  have h2 : (n : Int).toNat = n := Int.toNat_natCast n
  simp [h1, h2, hn]
theorem LstOf.one {v : AV} {k : Nat} {xs : List AV} (h : LstOf v k xs) : v.cells = [v] ∧ v.one = true := by obtain ⟨q, k', rfl, _⟩ := h; exact ⟨rfl, rfl⟩

/-- An aggregate whose first cell is a slice of one's own is handed over. -/
theorem frzL_own {H0 H : Heap} {v : AV} {xs : List AV} {k : Nat} {cs : List AV} (ho : Owns H0 H v k xs) (hcs : ∀ H, frzL 0 cs H = some (cs, H)) :
    ∃ H', frzL 0 [.agg (v :: cs)] H = some ([.agg (lstF k xs :: cs)], H') ∧ H'.length = H.length ∧ (∀ c y, v.blk ≠ some c → H[c]? = some y → H'[c]? = some y) ∧ (Old H0 H → Old H0 H') := by
  rcases ho with ⟨rfl, rfl⟩ | ⟨b, rfl, h1, h2, h3⟩
  · refine ⟨H, ?_, rfl, fun c y _ h => h, fun h => h⟩
    simp only [frzL, frzV, hcs, lstF]
  · refine ⟨H.set b (.frz k xs), ?_, List.length_set, fun c y hc hy => set_other (fun e => hc (by rw [e]; rfl)) hy, fun h => h.set h1 _⟩
    cases xs with
    | nil => exact absurd rfl h3
    | cons x xs =>
      simp only [frzL, frzV, Nat.not_lt_zero, if_false, h2]
      simp [lstF, frzQ, hcs]
theorem Owns.one {H0 H : Heap} {v : AV} {k : Nat} {xs : List AV} (h : Owns H0 H v k xs) : v.cells = [v] ∧ v.one = true := by
  rcases h with ⟨rfl, _⟩ | ⟨b', rfl, _⟩ <;> exact ⟨rfl, rfl⟩

/-- A result that lies in a variable. -/
theorem sRetCell {F : AF} {a s : Nat} {ag : Bool} {H H1 : Heap} {fr : Fr} {v : AV} {cs : List AV} {o : Nat} (hF : F.results = [.cell a s ag]) (hk : F.keep = false) (hp : ptrCells H1 (getF fr a) = some (cs, o)) (hpt : part cs o s ag = some v)
    (hf : frzV H.length v H1 = some (v, H1)) (hb : v.bel H.length = true) (ho : Old H H1) : retP F H fr H1 v H := by
  refine sRetV hk ?_ hf hb ho
  rw [getF_eq] at hp
  simp only [hF, resAll, resOf, hp, hpt, Option.map_some]
  rfl
end Go.AM
