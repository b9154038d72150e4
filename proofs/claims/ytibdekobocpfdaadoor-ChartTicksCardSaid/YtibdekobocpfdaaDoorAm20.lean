/- The abstract machine, part 20: what abstract code asks, event by event ('EW'). A weakest precondition whose heads are few shut words; all else goes away by unfolding. Own work. -/
import Derived.Test.YtibdekobocpfdaaDoorAm19
set_option linter.all false
namespace Go.AM

/-! ### Events -/

def condPW (b : Bool) (A B : Prop) : Prop := match b with | true => A | false => B
structure condP (b : Bool) (A B : Prop) : Prop where
  h : condPW b A B
theorem condP_def (b : Bool) (A B : Prop) : condP b A B = condPW b A B := propext ⟨fun x => x.h, fun x => ⟨x⟩⟩
def optPW {α : Type} (o : Option α) (K : α → Prop) : Prop := ∃ v, o = some v ∧ K v
structure optP {α : Type} (o : Option α) (K : α → Prop) : Prop where
  h : optPW o K
theorem optP_def {α : Type} (o : Option α) (K : α → Prop) : optP o K = optPW o K := propext ⟨fun x => x.h, fun x => ⟨x⟩⟩
def needPW (p K : Prop) : Prop := p ∧ K
structure needP (p K : Prop) : Prop where
  h : needPW p K
theorem needP_def (p K : Prop) : needP p K = needPW p K := propext ⟨fun x => x.h, fun x => ⟨x⟩⟩
def valPW (x : Int) (K : Int → Prop) : Prop := K x
structure valP (x : Int) (K : Int → Prop) : Prop where
  h : valPW x K
theorem valP_def (x : Int) (K : Int → Prop) : valP x K = valPW x K := propext ⟨fun x => x.h, fun x => ⟨x⟩⟩
def actPW (k : AK) (vs : List AV) (H : Heap) (K : AV → Heap → Prop) : Prop := ∃ v H', astep k vs H = some (v, H') ∧ K v H'
structure actP (k : AK) (vs : List AV) (H : Heap) (K : AV → Heap → Prop) : Prop where
  h : actPW k vs H K
theorem actP_def (k : AK) (vs : List AV) (H : Heap) (K : AV → Heap → Prop) : actP k vs H K = actPW k vs H K := propext ⟨fun x => x.h, fun x => ⟨x⟩⟩
def callPW (C : CSpec) (f : FuncId) (vs : List AV) (rd : Bool) (H : Heap) (K : AV → Heap → Prop) : Prop := ∃ v H', C f vs H v H' ∧ (rd = true → H' = H) ∧ K v H'
structure callP (C : CSpec) (f : FuncId) (vs : List AV) (rd : Bool) (H : Heap) (K : AV → Heap → Prop) : Prop where
  h : callPW C f vs rd H K
theorem callP_def (C : CSpec) (f : FuncId) (vs : List AV) (rd : Bool) (H : Heap) (K : AV → Heap → Prop) : callP C f vs rd H K = callPW C f vs rd H K := propext ⟨fun x => x.h, fun x => ⟨x⟩⟩
def idxPW (xs : List AV) (n : Int) (K : AV → Prop) : Prop := ∃ x, 0 ≤ n ∧ xs[n.toNat]? = some x ∧ K x
structure idxP (xs : List AV) (n : Int) (K : AV → Prop) : Prop where
  h : idxPW xs n K
theorem idxP_def (xs : List AV) (n : Int) (K : AV → Prop) : idxP xs n K = idxPW xs n K := propext ⟨fun x => x.h, fun x => ⟨x⟩⟩
def chrPW (s : List UInt8) (n : Int) (K : UInt8 → Prop) : Prop := ∃ c, 0 ≤ n ∧ s[n.toNat]? = some c ∧ K c
structure chrP (s : List UInt8) (n : Int) (K : UInt8 → Prop) : Prop where
  h : chrPW s n K
theorem chrP_def (s : List UInt8) (n : Int) (K : UInt8 → Prop) : chrP s n K = chrPW s n K := propext ⟨fun x => x.h, fun x => ⟨x⟩⟩
def retPW (F : AF) (H : Heap) (fr : Fr) (H1 : Heap) (v : AV) (H' : Heap) : Prop := retF F H fr H1 v H'
structure retP (F : AF) (H : Heap) (fr : Fr) (H1 : Heap) (v : AV) (H' : Heap) : Prop where
  h : retPW F H fr H1 v H'
theorem retP_def (F : AF) (H : Heap) (fr : Fr) (H1 : Heap) (v : AV) (H' : Heap) : retP F H fr H1 v H' = retPW F H fr H1 v H' := propext ⟨fun x => x.h, fun x => ⟨x⟩⟩

theorem sCondT {A B : Prop} (h : A) : condP true A B := by rw [condP_def]; unfold condPW; exact h
theorem sCondF {A B : Prop} (h : B) : condP false A B := by rw [condP_def]; unfold condPW; exact h
theorem sCond {b : Bool} {A B : Prop} (ht : b = true → A) (hf : b = false → B) : condP b A B := by
  rw [condP_def]; unfold condPW; cases b
  · exact hf rfl
  · exact ht rfl
theorem sOpt {α : Type} {o : Option α} {K : α → Prop} {v : α} (h : o = some v) (k : K v) : optP o K := by rw [optP_def]; unfold optPW; exact ⟨v, h, k⟩
theorem sNeed {p K : Prop} (h : p) (k : K) : needP p K := by rw [needP_def]; unfold needPW; exact ⟨h, k⟩
theorem sVal {x r : Int} {K : Int → Prop} (h : x = r) (k : K r) : valP x K := by rw [valP_def]; unfold valPW; subst h; exact k
theorem sAct {k : AK} {vs : List AV} {H H' : Heap} {K : AV → Heap → Prop} {v : AV} (h : astep k vs H = some (v, H')) (hk : K v H') : actP k vs H K := by rw [actP_def]; unfold actPW; exact ⟨v, H', h, hk⟩
theorem sCall {C : CSpec} {f : FuncId} {vs : List AV} {rd : Bool} {H H' : Heap} {K : AV → Heap → Prop} {v : AV} (h : C f vs H v H') (hr : rd = true → H' = H) (k : K v H') : callP C f vs rd H K := by rw [callP_def]; unfold callPW; exact ⟨v, H', h, hr, k⟩
theorem sCall0 {C : CSpec} {f : FuncId} {vs : List AV} {rd : Bool} {H : Heap} {K : AV → Heap → Prop} {v : AV} (h : C f vs H v H) (k : K v H) : callP C f vs rd H K := by rw [callP_def]; unfold callPW; exact ⟨v, H, h, fun _ => rfl, k⟩
theorem sIdxP {xs : List AV} {n : Int} {i : Nat} {x : AV} {K : AV → Prop} (hn : n = (i : Int)) (h : xs[i]? = some x) (k : K x) : idxP xs n K := by rw [idxP_def]; unfold idxPW; subst hn; exact ⟨x, Int.natCast_nonneg i, by simpa using h, k⟩
theorem sChr {s : List UInt8} {n : Int} {i : Nat} {c : UInt8} {K : UInt8 → Prop} (hn : n = (i : Int)) (h : s[i]? = some c) (k : K c) : chrP s n K := by rw [chrP_def]; unfold chrPW; subst hn; exact ⟨c, Int.natCast_nonneg i, by simpa using h, k⟩
theorem sRet {F : AF} {H H1 H' : Heap} {fr : Fr} {v : AV} (h : retF F H fr H1 v H') : retP F H fr H1 v H' := by rw [retP_def]; unfold retPW; exact h

/-! ### One operation -/

def intN (op : BinOp) (k : IntKind) (a b : Int) (K : AV → Prop) : Prop :=
  match op with
  | .add => valP (k.wrap (a + b)) fun r => K (.int k r)
  | .sub => valP (k.wrap (a - b)) fun r => K (.int k r)
  | .mul => valP (k.wrap (a * b)) fun r => K (.int k r)
  | .quo => needP (b ≠ 0) (valP (k.wrap (a.tdiv b)) fun r => K (.int k r))
  | .rem => needP (b ≠ 0) (valP (a.tmod b) fun r => K (.int k r))
  | .eql => K (.bool (a == b))
  | .neq => K (.bool (a != b))
  | .lss => K (.bool (decide (a < b)))
  | .leq => K (.bool (decide (a ≤ b)))
  | .gtr => K (.bool (decide (a > b)))
  | .geq => K (.bool (decide (a ≥ b)))
  | op => optP (intBin op k a b) K

def isShift : BinOp → Bool
  | .shl => true
  | .shr => true
  | _ => false

def strN (op : BinOp) (a b : List UInt8) (K : AV → Prop) : Prop :=
  match op with
  | .add => needP (a.length + b.length ≤ 9223372036854775807) (K (.str (a ++ b)))
  | .eql => K (.bool (a == b))
  | .neq => K (.bool (!(a == b)))
  | .lss => K (.bool (Op.bytesLess a b))
  | op => optP (strBin op a b) K

def sameKind (a b : IntKind) : Bool := decide (a = b)

def binN (op : BinOp) (x y : AV) (K : AV → Prop) : Prop :=
  match x with
  | .int k a => (match y with
    | .int k' b => (match isShift op with
      | true => optP (shiftBin op k a b) K
      | false => (match sameKind k k' with
        | true => intN op k a b K
        | false => False))
    | _ => False)
  | .str a => (match y with
    | .str b => strN op a b K
    | _ => False)
  | _ => False

def boolN (x : AV) (K : Bool → Prop) : Prop :=
  match x with
  | .bool b => K b
  | _ => False

def negB (neg : Bool) (b : Bool) : Bool := match neg with | true => !b | false => b

def unN (op : UnOp) (x : AV) (K : AV → Prop) : Prop :=
  match x with
  | .bool b => (match op with
    | .not => K (.bool (!b))
    | _ => False)
  | x => optP (aUn op x) K

def lenPW (x : AV) (K : Int → Prop) : Prop :=
  match x with
  | .lst _ _ xs => K (xs.length : Int)
  | .sl _ _ _ _ n => K (n : Int)
  | _ => False
structure lenP (x : AV) (K : Int → Prop) : Prop where
  h : lenPW x K
theorem lenP_def (x : AV) (K : Int → Prop) : lenP x K = lenPW x K := propext ⟨fun x => x.h, fun x => ⟨x⟩⟩

def lenN (s : Bool) (x : AV) (K : Int → Prop) : Prop :=
  match s with
  | true => (match x with
    | .str t => K (t.length : Int)
    | _ => False)
  | false => lenP x K

def toInt (x : AV) (K : Int → Prop) : Prop :=
  match x with
  | .int _ n => K n
  | _ => False

def idxNW (k : Nat) (x : AV) (n : Int) (K : AV → Prop) : Prop :=
  match x with
  | .lst _ k' xs => needP (k' = k) (idxP xs n fun x => K (.lref x 0))
  | .sl _ b k' off len => needP (k' = k ∧ 0 ≤ n ∧ n < (len : Int)) (K (.ref b k (off + n.toNat) 0))
  | _ => False
structure idxN (k : Nat) (x : AV) (n : Int) (K : AV → Prop) : Prop where
  h : idxNW k x n K
theorem idxN_def (k : Nat) (x : AV) (n : Int) (K : AV → Prop) : idxN k x n K = idxNW k x n K := propext ⟨fun x => x.h, fun x => ⟨x⟩⟩

def loadNW (s : Nat) (ag : Bool) (p : AV) (H : Heap) (K : AV → Prop) : Prop :=
  match p with
  | .lref x o => optP (part x.cells o s ag) K
  | p => optP (ptrCells H p) fun co => optP (part co.1 co.2 s ag) K
structure loadN (s : Nat) (ag : Bool) (p : AV) (H : Heap) (K : AV → Prop) : Prop where
  h : loadNW s ag p H K
theorem loadN_def (s : Nat) (ag : Bool) (p : AV) (H : Heap) (K : AV → Prop) : loadN s ag p H K = loadNW s ag p H K := propext ⟨fun x => x.h, fun x => ⟨x⟩⟩

def slcN (k : Option Nat) (lo hi : Bool) (vs : List AV) (K : AV → Prop) : Prop :=
  match vs with
  | [] => False
  | x :: ys => (match lo with
    | true => (match hi with
      | true => (match ys with
        | [l, h] => optP (aSlice k x (some l) (some h)) K
        | _ => False)
      | false => (match ys with
        | [l] => optP (aSlice k x (some l) none) K
        | _ => False))
    | false => (match hi with
      | true => (match ys with
        | [h] => optP (aSlice k x none (some h)) K
        | _ => False)
      | false => (match ys with
        | [] => optP (aSlice k x none none) K
        | _ => False)))

def offN (o : Nat) (x : AV) (K : AV → Prop) : Prop :=
  match x with
  | .ref b k i oo => K (.ref b k i (oo + o))
  | .lref x oo => K (.lref x (oo + o))
  | _ => False

def fieldN (o s : Nat) (ag : Bool) (x : AV) (K : AV → Prop) : Prop :=
  match x with
  | .agg cs => optP (part cs o s ag) K
  | _ => False

def extN (i : Nat) (x : AV) (K : AV → Prop) : Prop :=
  match x with
  | .tup vs => optP (vs[i]?) K
  | _ => False

def eqsN (neg : Bool) (sh : List Sc) (x y : AV) (K : AV → Prop) : Prop :=
  match x with
  | .agg x => (match y with
    | .agg y => optP (cellsEq sh x y) fun b => K (.bool (negB neg b))
    | _ => False)
  | _ => False

def chkN (x : AV) (K : AV → Prop) : Prop :=
  match x with
  | .ref b k i o => K (.ref b k i o)
  | .lref y o => K (.lref y o)
  | .fn f a b => K (.fn f a b)
  | _ => False

def strOf (x : AV) (K : List UInt8 → Prop) : Prop :=
  match x with
  | .str s => K s
  | _ => False

def aggN (x : AV) (K : List AV → Prop) : Prop :=
  match x with
  | .agg cs => K cs
  | _ => False

def mmN (mx : Bool) (x y : AV) (K : AV → Prop) : Prop :=
  match x with
  | .int k a => (match y with
    | .int k' b => (match sameKind k k' with
      | true => (match mx with
        | true => valP (if b > a then b else a) fun r => K (.int k r)
        | false => valP (if b < a then b else a) fun r => K (.int k r))
      | false => False)
    | _ => False)
  | _ => False

def stepN (C : CSpec) (k : AK) (vs : List AV) (H : Heap) (K : AV → Heap → Prop) : Prop :=
  match k with
  | .mv => (match vs with
    | [x] => K x H
    | _ => False)
  | .pick => (match vs with
    | [c, x, y] => boolN c fun c => condP c (K x H) (K y H)
    | _ => False)
  | .bin op => (match vs with
    | [x, y] => binN op x y fun v => K v H
    | _ => False)
  | .eqs neg sh => (match vs with
    | [x, y] => eqsN neg sh x y fun v => K v H
    | _ => False)
  | .eqb neg => (match vs with
    | [x, y] => boolN x fun a => boolN y fun b => K (.bool (negB neg (a == b))) H
    | _ => False)
  | .eqn e neg lit => (match vs with
    | [x, y] => optP (eqNil e lit x y) fun b => K (.bool (negB neg b)) H
    | _ => False)
  | .un op => (match vs with
    | [x] => unN op x fun v => K v H
    | _ => False)
  | .convInt k => (match vs with
    | [x] => toInt x fun n => valP (k.wrap n) fun r => K (.int k r) H
    | _ => False)
  | .convRune => (match vs with
    | [x] => toInt x fun n => K (.str (Utf8.encode n).data.toList) H
    | _ => False)
  | .convId => (match vs with
    | [x] => strOf x fun s => K (.str s) H
    | _ => False)
  | .mkIface t => (match vs with
    | [x] => K (.iface t x) H
    | _ => False)
  | .mkFn f m => K (.fn f (vs.take m) (vs.drop m)) H
  | .len s => (match vs with
    | [x] => lenN s x fun n => K (.int .i64 n) H
    | _ => False)
  | .slc k lo hi => slcN k lo hi vs fun v => K v H
  | .fieldAddr o => (match vs with
    | [x] => offN o x fun v => K v H
    | _ => False)
  | .field o s ag => (match vs with
    | [x] => fieldN o s ag x fun v => K v H
    | _ => False)
  | .idxAddr k => (match vs with
    | [x, n] => toInt n fun n => idxN k x n fun v => K v H
    | _ => False)
  | .idxArr k m => (match vs with
    | [x, n] => toInt n fun n => needP (0 ≤ n ∧ n < (m : Int)) (offN (n.toNat * k) x fun v => K v H)
    | _ => False)
  | .idxStr => (match vs with
    | [x, n] => strOf x fun s => toInt n fun n => chrP s n fun c => K (byteAV c) H
    | _ => False)
  | .idxAgg k m ag => (match vs with
    | [x, n] => aggN x fun cs => toInt n fun n => needP (0 ≤ n ∧ n < (m : Int)) (optP (part cs (n.toNat * k) k ag) fun v => K v H)
    | _ => False)
  | .nilchk => (match vs with
    | [x] => chkN x fun v => K v H
    | _ => False)
  | .extract i => (match vs with
    | [x] => extN i x fun v => K v H
    | _ => False)
  | .load s ag => (match vs with
    | [p] => loadN s ag p H fun v => K v H
    | _ => False)
  | .alloc z => (match vs with
    | [] => K (.ref H.length 0 0 0) (H ++ [.box z])
    | _ => False)
  | .build z pl => optP (fillAll z pl vs) fun cs => K (.agg cs) H
  | .min => (match vs with
    | [x, y] => mmN false x y fun v => K v H
    | _ => False)
  | .max => (match vs with
    | [x, y] => mmN true x y fun v => K v H
    | _ => False)
  | .call f rd => callP C f vs rd H K
  | .callv rd => (match vs with
    | [] => False
    | x :: args => (match x with
      | .fn f first caps => callP C f (first ++ args ++ caps) rd H K
      | _ => False))
  | .stuck => False
  | k => actP k vs H K

/-! ### Operations in a row; code -/

/-- What is known of the slots that guards ask. -/
def decOf : List (Nat × Option Bool) → Nat → Option Bool
  | [], _ => none
  | (j, b) :: r, i => match Nat.beq j i with
    | true => b
    | false => decOf r i

/-- What lies in the slot that a guard asks: a truth value, or nothing. -/
def guardN (x : AV) (S : Prop) (K : Bool → Prop) : Prop :=
  match x with
  | .bool b => K b
  | .tup vs => (match vs with
    | [] => S
    | _ => False)
  | _ => False

def undec (dec : List (Nat × Option Bool)) : Option Nat → List (Nat × Option Bool)
  | some d => (d, none) :: dec
  | none => dec

/-- As 'get', 'restrict', 'ev', 'blockK', for the kernel. -/
def getF : Fr → Nat → AV
  | [], _ => .undef
  | p :: r, i => match Nat.beq p.1 i with
    | true => p.2
    | false => getF r i
def restrictF (fr : Fr) : List Nat → Fr
  | [] => []
  | i :: L => (i, getF fr i) :: restrictF fr L
def evF (GT : Nat → Option AV) (fr : Fr) : Opd → AV
  | .tmp t => getF fr t
  | .const v => v
  | .glob g => match GT g with
    | some x => .lref x 0
    | none => .undef
  | .fn f => .fn f [] []
def argsF (GT : Nat → Option AV) (fr : Fr) : List Opd → List AV
  | [] => []
  | x :: xs => evF GT fr x :: argsF GT fr xs
def blockF (id : Nat) (L : List Nat) (K : Post) : Post := fun e fr H => match e with
  | .normal => K .normal (restrictF fr L) H
  | .exit j => match Nat.beq j id with
    | true => K .normal (restrictF fr L) H
    | false => K (.exit j) fr H
  | .ret => K .ret fr H
  | .goto l => K (.goto l) fr H
  | .pan x => K (.pan x) fr H

/-- One operation, guarded or not; 'next': the others. -/
def opStep (C : CSpec) (GT : Nat → Option AV) (i : AI) (next : List (Nat × Option Bool) → Fr → Heap → (Fr → Heap → Prop) → Prop) (dec : List (Nat × Option Bool)) (fr : Fr) (H : Heap) (K : Fr → Heap → Prop) : Prop :=
  match i.g with
  | none => stepN C i.k (argsF GT fr i.xs) H fun v H' => next (undec dec i.dst) (put fr i.dst v) H' K
  | some (s, want) => match decOf dec s with
    | some b => (match b == want with
      | true => stepN C i.k (argsF GT fr i.xs) H fun v H' => next (undec dec i.dst) (put fr i.dst v) H' K
      | false => next (undec dec i.dst) (put fr i.dst (.tup [])) H K)
    | none => guardN (getF fr s) (next (undec dec i.dst) (put fr i.dst (.tup [])) H K) fun b => (match want with
      | true => condP b (stepN C i.k (argsF GT fr i.xs) H fun v H' => next (undec ((s, some true) :: dec) i.dst) (put ((s, .bool true) :: fr) i.dst v) H' K)
          (next (undec ((s, some false) :: dec) i.dst) (put ((s, .bool false) :: fr) i.dst (.tup [])) H K)
      | false => condP b (next (undec ((s, some true) :: dec) i.dst) (put ((s, .bool true) :: fr) i.dst (.tup [])) H K)
          (stepN C i.k (argsF GT fr i.xs) H fun v H' => next (undec ((s, some false) :: dec) i.dst) (put ((s, .bool false) :: fr) i.dst v) H' K))

/-- Operations in a row. (By the recursor itself: the kernel then sees what the elaborator saw.) -/
def EWops (C : CSpec) (GT : Nat → Option AV) (is : List AI) : List (Nat × Option Bool) → Fr → Heap → (Fr → Heap → Prop) → Prop :=
  List.rec (motive := fun _ => List (Nat × Option Bool) → Fr → Heap → (Fr → Heap → Prop) → Prop) (fun _ fr H K => K fr H) (fun i _ ih dec fr H K => opStep C GT i ih dec fr H K) is
theorem EWops_cons {C : CSpec} {GT : Nat → Option AV} {i : AI} {is : List AI} {dec : List (Nat × Option Bool)} {fr : Fr} {H : Heap} {K : Fr → Heap → Prop} : EWops C GT (i :: is) dec fr H K = opStep C GT i (EWops C GT is) dec fr H K := rfl

/-- What holds at a frame that reads as one where K holds. -/
def closeK (K : Post) : Post := fun e f H => ∃ f', get f' = get f ∧ K e f' H

def loopPW (C : CSpec) (GT : Nat → Option AV) (L : List Nat) (c : AC) (K : Post) (fr : Fr) (H : Heap) : Prop := AWL C GT L c (closeK K) fr H
structure loopP (C : CSpec) (GT : Nat → Option AV) (L : List Nat) (c : AC) (K : Post) (fr : Fr) (H : Heap) : Prop where
  h : loopPW C GT L c K fr H
theorem loopP_def (C : CSpec) (GT : Nat → Option AV) (L : List Nat) (c : AC) (K : Post) (fr : Fr) (H : Heap) : loopP C GT L c K fr H = loopPW C GT L c K fr H := propext ⟨fun x => x.h, fun x => ⟨x⟩⟩

/-! ### Calls that may panic; trees of orders; jumps -/

def callPPW (C : CSpec) (f : FuncId) (vs : List AV) (H : Heap) (K KP : AV → Heap → Prop) : Prop := (∃ v H', C f vs H v H' ∧ K v H') ∨ (∃ x H', C f (.pan .undef :: vs) H x H' ∧ KP x H')
structure callPP (C : CSpec) (f : FuncId) (vs : List AV) (H : Heap) (K KP : AV → Heap → Prop) : Prop where
  h : callPPW C f vs H K KP
theorem callPP_def (C : CSpec) (f : FuncId) (vs : List AV) (H : Heap) (K KP : AV → Heap → Prop) : callPP C f vs H K KP = callPPW C f vs H K KP := propext ⟨fun x => x.h, fun x => ⟨x⟩⟩
def altPW (A B : Prop) : Prop := A ∧ B
structure altP (A B : Prop) : Prop where
  h : altPW A B
theorem altP_def (A B : Prop) : altP A B = altPW A B := propext ⟨fun x => x.h, fun x => ⟨x⟩⟩

/-- A call returns. -/
theorem sCallN {C : CSpec} {f : FuncId} {vs : List AV} {H H' : Heap} {K KP : AV → Heap → Prop} {v : AV} (h : C f vs H v H') (k : K v H') : callPP C f vs H K KP := by rw [callPP_def]; unfold callPPW; exact .inl ⟨v, H', h, k⟩
/-- A call panics. -/
theorem sCallX {C : CSpec} {f : FuncId} {vs : List AV} {H H' : Heap} {K KP : AV → Heap → Prop} {x : AV} (h : C f (.pan .undef :: vs) H x H') (k : KP x H') : callPP C f vs H K KP := by rw [callPP_def]; unfold callPPW; exact .inr ⟨x, H', h, k⟩
theorem sAlt {A B : Prop} (a : A) (b : B) : altP A B := by rw [altP_def]; exact ⟨a, b⟩

def stepNP (C : CSpec) (k : AK) (vs : List AV) (H : Heap) (K KP : AV → Heap → Prop) : Prop :=
  match k with
  | .callp f => callPP C f vs H K KP
  | .callvp => (match vs with
    | [] => False
    | x :: args => (match x with
      | .fn f first caps => callPP C f (first ++ args ++ caps) H K KP
      | _ => False))
  | .panic => (match vs with
    | [x] => (match x with
      | .iface t y => KP (.iface t y) H
      | _ => False)
    | _ => False)
  | k => stepN C k vs H K

def opStepT (C : CSpec) (GT : Nat → Option AV) (i : AI) (next : List (Nat × Option Bool) → Fr → Heap → (Fr → Heap → Prop) → (AV → Heap → Prop) → Prop) (dec : List (Nat × Option Bool)) (fr : Fr) (H : Heap) (K : Fr → Heap → Prop) (KP : AV → Heap → Prop) : Prop :=
  match i.g with
  | none => stepNP C i.k (argsF GT fr i.xs) H (fun v H' => next (undec dec i.dst) (put fr i.dst v) H' K KP) KP
  | some (s, want) => match decOf dec s with
    | some b => (match b == want with
      | true => stepNP C i.k (argsF GT fr i.xs) H (fun v H' => next (undec dec i.dst) (put fr i.dst v) H' K KP) KP
      | false => next (undec dec i.dst) (put fr i.dst (.tup [])) H K KP)
    | none => guardN (getF fr s) (next (undec dec i.dst) (put fr i.dst (.tup [])) H K KP) fun b => (match want with
      | true => condP b (stepNP C i.k (argsF GT fr i.xs) H (fun v H' => next (undec ((s, some true) :: dec) i.dst) (put ((s, .bool true) :: fr) i.dst v) H' K KP) KP)
          (next (undec ((s, some false) :: dec) i.dst) (put ((s, .bool false) :: fr) i.dst (.tup [])) H K KP)
      | false => condP b (next (undec ((s, some true) :: dec) i.dst) (put ((s, .bool true) :: fr) i.dst (.tup [])) H K KP)
          (stepNP C i.k (argsF GT fr i.xs) H (fun v H' => next (undec ((s, some false) :: dec) i.dst) (put ((s, .bool false) :: fr) i.dst v) H' K KP) KP))

def nthAI : List AI → Nat → Option AI
  | [], _ => none
  | i :: _, 0 => some i
  | _ :: is, n + 1 => nthAI is n

def EWT (C : CSpec) (GT : Nat → Option AV) (is : List AI) (t : OT) : List (Nat × Option Bool) → Fr → Heap → (Fr → Heap → Prop) → (AV → Heap → Prop) → Prop :=
  OT.rec (motive := fun _ => List (Nat × Option Bool) → Fr → Heap → (Fr → Heap → Prop) → (AV → Heap → Prop) → Prop) (fun _ fr H K _ => K fr H)
    (fun j _ ih dec fr H K KP => match nthAI is j with
      | none => False
      | some i => opStepT C GT i ih dec fr H K KP)
    (fun _ _ iha ihb dec fr H K KP => altP (iha dec fr H K KP) (ihb dec fr H K KP)) t

def gotoPW (C : CSpec) (GT : Nat → Option AV) (L : List Nat) (l : Nat) (r : AC) (K : Post) (fr : Fr) (H : Heap) : Prop := ∃ m, gotoW (AW C GT r) L l (closeK K) m fr H
structure gotoP (C : CSpec) (GT : Nat → Option AV) (L : List Nat) (l : Nat) (r : AC) (K : Post) (fr : Fr) (H : Heap) : Prop where
  h : gotoPW C GT L l r K fr H
theorem gotoP_def (C : CSpec) (GT : Nat → Option AV) (L : List Nat) (l : Nat) (r : AC) (K : Post) (fr : Fr) (H : Heap) : gotoP C GT L l r K fr H = gotoPW C GT L l r K fr H := propext ⟨fun x => x.h, fun x => ⟨x⟩⟩

def EW (C : CSpec) (GT : Nat → Option AV) (c : AC) : Post → Fr → Heap → Prop :=
  AC.rec (motive := fun _ => Post → Fr → Heap → Prop)
    (fun K fr H => K .normal fr H)
    (fun L _ ops K fr H => EWops C GT ops [] (restrictF fr L) H fun fr' H' => K .normal fr' H')
    (fun _ _ iha ihb K fr H => iha (seqK (ihb K) K) fr H)
    (fun c _ _ iha ihb K fr H => boolN (evF GT fr c) fun t => condP t (iha K (learn fr c true) H) (ihb K (learn fr c false) H))
    (fun id L _ ih K fr H => ih (blockF id L K) fr H)
    (fun L c _ K fr H => loopP C GT L c K (restrictF fr L) H)
    (fun id K fr H => K (.exit id) fr H)
    (fun K fr H => K .ret fr H)
    (fun _ _ _ => False)
    (fun L _ ops t K fr H => EWT C GT ops t [] (restrictF fr L) H (fun fr' H' => K .normal fr' H') (fun x H' => K (.pan x) [] H'))
    (fun K fr H => K .normal fr H)
    (fun l K fr H => K (.goto l) fr H)
    (fun L l _ r ihc _ K fr H => ihc (jumpK l (fun fr' H' => gotoP C GT L l r K (restrictF fr' L) H') K) fr H) c

end Go.AM
