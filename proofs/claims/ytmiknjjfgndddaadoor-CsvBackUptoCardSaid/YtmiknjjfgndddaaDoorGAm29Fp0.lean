/- Several texts of mine in one (Am29, Am30, Am35, Bh0, Fp0). Own work. -/
import Derived.Test.YtmiknjjfgndddaaDoorGErrAm27
import Derived.Test.YtmiknjjfgndddaaDoorGToldQAm24
set_option linter.all false
namespace Go.AM
def zHa (k : Nat) : AV:=.int .i64 k
theorem zIf {b k s o : Nat} {v : AV} {cs : List AV} (cs' : List AV) {H : Heap} {K : AV → Heap → Prop} (h : H[b]? = some (.box cs)) (hl : v.cells.length = s) (h1 : v.cells.all AV.one = true) (ho : Nat.ble (o + s) cs.length = true) (he : splice cs o v.cells = cs')
  (q : K .undef (H.set b (.box cs'))) : actP (.store s) [.ref b k 0 o,v] H K:=
 zIS h hl h1 (Nat.le_of_ble_eq_true ho) (by rw [he]; exact q)
theorem zB5.one {v : AV} {k : Nat} {xs : List AV} (h : zB5 v k xs) : v.cells = [v] ∧ v.one = true:=by obtain ⟨q,k',rfl,_⟩:=h; exact ⟨rfl,rfl⟩
theorem Owns.one {H0 H : Heap} {v : AV} {k : Nat} {xs : List AV} (h : Owns H0 H v k xs) : v.cells = [v] ∧ v.one = true:=by
 rcases h with ⟨rfl,_⟩ | ⟨b',rfl,_⟩ <;> exact ⟨rfl,rfl⟩
end Go.AM
namespace Go.AM
def Wk (x x' : AV) : Prop:=∀ (w : World) (M : AMap) (I : Nat → Prop) (n : Nat) (v : Value),Rel w M I n x v → Rel w M I n x' v
theorem Wk.refl (x : AV) : Wk x x:=fun _ _ _ _ _ h=>h
theorem Wk.undef (x : AV) : Wk x .undef:=fun _ _ _ _ _ _=>.undef _
theorem Wk.iface {t : TypeId} {x x' : AV} (h : Wk x x') : Wk (.iface t x) (.iface t x'):=fun w M I n v hr=>by
 cases hr with
 | iface _ _ u hu=>exact .iface t x' u (h w M I n u hu)
def WkL (cs cs' : List AV) : Prop:=cs'.length = cs.length ∧ ∀ (j : Nat) (c c' : AV),cs[j]? = some c → cs'[j]? = some c' → Wk c c'
theorem WkL.refl (cs : List AV) : WkL cs cs:=⟨rfl,fun j c c' h h'=>by rw [h] at h'; cases h'; exact .refl c⟩
theorem WkL.nil : WkL [] []:=.refl []
theorem WkL.cons {x x' : AV} {cs cs' : List AV} (h : Wk x x') (k : WkL cs cs') : WkL (x :: cs) (x' :: cs'):=by
 refine ⟨by simp [k.1],fun j c c' hc hc'=>?_⟩
 cases j with
 | zero=>simp at hc hc'; subst hc hc'; exact h
 | succ j=>exact k.2 j c c' (by simpa using hc) (by simpa using hc')
theorem Wk.agg {cs cs' : List AV} (h : WkL cs cs') : Wk (.agg cs) (.agg cs'):=fun w M I n v hr=>by
 cases hr with
 | agg _ vs hl hv=>
  refine .agg cs' vs (by rw [h.1,hl]) fun i c u hc hu=>?_
  have hi:=(zg hc).1
  have hi2 : i < cs.length:=by rw [← h.1]; exact hi
  exact h.2 i _ c (List.getElem?_eq_getElem hi2) hc w M I n u (hv i _ u (List.getElem?_eq_getElem hi2) hu)
section
variable {GT : Nat → Option AV} {w w0 : World} {M M0 : AMap} {I I0 : Nat → Prop} {H H0 : Heap} {b : Nat} {cs cs' : List AV}
end
theorem zBK {b : Bool} {A B : Prop} (h : b = true) (a : A) : condP b A B:=by subst h; exact zO a
theorem zA8 {b : Bool} {A B : Prop} (h : b = false) (a : B) : condP b A B:=by subst h; exact zD a
theorem zIg {H : Heap} {b : Nat} {x : ABlk} (h : b < H.length) : (H.set b x)[b]? = some x:=List.getElem?_set_self h
theorem hP {P : Prop} (h : P:=by first | (with_reducible (repeat' (first | assumption | exact zc | refine zM ?_ | (apply zIg; exact tC) | refine zV tA ?_)); done) | ((repeat' (first | assumption | exact zc | exact zIg tC | refine zM ?_ | refine zV tA ?_)); done)) : P:=h
theorem zJb {H : Heap} {b : Nat} {B : ABlk} (h : H[b]? = some B) : H.set b B = H:=by
 apply List.ext_getElem?
 intro c
 by_cases e : b = c
 ·subst e; rw [List.getElem?_set_self (zg h).1,h]
 ·rw [List.getElem?_set_ne e]
structure OldB (H : Heap) (b : Nat) (B : ABlk) (H1 : Heap) : Prop where
 lt : b < H.length
 old : Old (H.set b B) H1
theorem OldB.start {H : Heap} {b : Nat} {B : ABlk} (h : H[b]? = some B) : OldB H b B H:=by
 obtain ⟨h1,h2⟩:=zg h
 refine ⟨h1,by rw [List.length_set]; exact Nat.le_refl _,fun c _=>?_⟩
 by_cases e : b = c
 ·subst e; rw [List.getElem?_set_self h1]; exact h
 ·rw [List.getElem?_set_ne e]
theorem OldB.push {H H1 : Heap} {b : Nat} {B : ABlk} (h : OldB H b B H1) (x : List ABlk) : OldB H b B (H1 ++ x):=⟨h.lt,h.old.push x⟩
theorem OldB.set {H H1 : Heap} {b : Nat} {B : ABlk} (h : OldB H b B H1) {c : Nat} (hc : H.length ≤ c) (x : ABlk) : OldB H b B (H1.set c x):=⟨h.lt,h.old.set (by rw [List.length_set]; exact hc) x⟩
theorem OldB.setB {H H1 : Heap} {b : Nat} {B : ABlk} (h : OldB H b B H1) (B' : ABlk) : OldB H b B' (H1.set b B'):=by
 have hl:=h.old.1
 rw [List.length_set] at hl
 refine ⟨h.lt,by rw [List.length_set,List.length_set]; exact hl,fun c hc=>?_⟩
 rw [List.length_set] at hc
 by_cases e : b = c
 ·subst e; rw [List.getElem?_set_self h.lt,List.getElem?_set_self (by have:=h.lt; omega)]
 ·have:=h.old.2 c (by rw [List.length_set]; exact hc)
  rw [List.getElem?_set_ne e] at this
  rw [List.getElem?_set_ne e,List.getElem?_set_ne e,this]
theorem OldB.ok {H H1 : Heap} {b : Nat} {B : ABlk} (h : OldB H b B H1) (hc : zHb H.length B = true) : zI3 H H1:=fun c hc'=>by
 have:=h.old.2 c (by rw [List.length_set]; exact hc')
 by_cases e : b = c
 ·subst e
  rw [List.getElem?_set_self hc'] at this
  exact .inr ⟨B,this,hc⟩
 ·rw [List.getElem?_set_ne e] at this
  exact .inl this
theorem OldB.take {H H1 : Heap} {b : Nat} {B : ABlk} (h : OldB H b B H1) : H1.take H.length = H.set b B:=by
 have:=h.old.take
 rwa [List.length_set] at this
structure retR (F : AF) (H : Heap) (fr : Fr) (H1 : Heap) (b : Nat) (r : Option (AV × ABlk)) : Prop where
 h : ∃ v B,r = some (v,B) ∧ zEk F H fr H1 v (H.set b B)
structure panR (F : AF) (H : Heap) (b : Nat) (cs' : List AV) (x' : AV) (r : Option (AV × ABlk)) (x0 : AV) (H1 : Heap) : Prop where
 h : r = none ∧ ∃ x cs,panF F H x0 H1 x (H.set b (.box cs)) ∧ b < H.length ∧ WkL cs cs' ∧ Wk x x'
end Go.AM
namespace Go.AM
def zEe (H : Heap) (b : Nat) (H1 : Heap) : Prop:=∃ B,OldB H b B H1
theorem zEe.start {H : Heap} {b : Nat} {B : ABlk} (h : H[b]? = some B) : zEe H b H:=⟨B,OldB.start h⟩
theorem zEe.of {H : Heap} {b : Nat} {B : ABlk} {H1 : Heap} (h : OldB H b B H1) : zEe H b H1:=⟨B,h⟩
theorem zEe.push {H H1 : Heap} {b : Nat} (h : zEe H b H1) (x : List ABlk) : zEe H b (H1 ++ x):=⟨h.choose,h.choose_spec.push x⟩
theorem zEe.set {H H1 : Heap} {b : Nat} (h : zEe H b H1) {c : Nat} (hc : H.length ≤ c) (x : ABlk) : zEe H b (H1.set c x):=⟨h.choose,h.choose_spec.set hc x⟩
theorem zEe.setB {H H1 : Heap} {b : Nat} (h : zEe H b H1) (x : ABlk) : zEe H b (H1.set b x):=⟨x,h.choose_spec.setB x⟩
theorem OldB.setZ {H H1 : Heap} {b : Nat} {B : ABlk} (h : zEe H b H1) : OldB H b B (H1.set b B):=h.choose_spec.setB B
theorem hO {P : Prop} (h : P:=by (repeat' (first | assumption | exact Old.refl _ | exact OldB.start hP | exact zEe.start hP | exact zEe.of (by assumption) | refine Old.push ?_ _ | refine OldB.push ?_ _ | refine zEe.push ?_ _ | refine OldB.setZ ?_ | refine zEe.setB ?_ _ | refine Old.set ?_ tA _ | refine OldB.set ?_ tA _ | refine zEe.set ?_ tA _)); done) : P:=h
structure HidQ (Q : Prop) : Prop where
 go : Q
end Go.AM
set_option maxRecDepth 20000
namespace Go.AM
section
variable {C : CSpec} {GT : Nat → Option AV}
theorem sRetK {F : AF} {H H1 : Heap} {fr : Fr} {v : AV} (hk : F.keep = true) (hr : (zAA fr H1 F.results).map tupled = some v) : retP F H fr H1 v H1:=by
 refine sRet ?_
 unfold zEk
 cases hs : zAA fr H1 F.results with
 | none=>rw [hs] at hr; cases hr
 | some vs=>
  rw [hs] at hr
  simp only [Option.map_some,Option.some.injEq] at hr
  subst hr
  simp only [hk,if_true]
  exact ⟨trivial,trivial⟩
end
end Go.AM
set_option maxRecDepth 20000
namespace Go.AM
abbrev Bs:=List UInt8
def zKm : Bs → Nat
 | []=>0
 | c :: r=>if c = 32 then zKm r + 1 else 0
def skip (s : Bs) (a : Nat) : Nat:=a + zKm (s.drop a)
def zIh (c : UInt8) : Bool:=c.toNat == 36 || (decide (48 ≤ c.toNat) && decide (c.toNat ≤ 57)) || (decide (65 ≤ c.toNat) && decide (c.toNat ≤ 90)) || (decide (97 ≤ c.toNat) && decide (c.toNat ≤ 122))
def runL : Bs → Nat
 | []=>0
 | c :: r=>if zIh c = true then runL r + 1 else 0
def runW (s : Bs) (a : Nat) : Nat:=a + runL (s.drop a)
def sub (s : Bs) (a b : Nat) : Bs:=(s.drop a).take (b - a)
def quo : Bs → Nat → Option (Bs × Nat)
 | [],_=>none
 | [c],i=>if c = 34 then some ([],i + 1) else none
 | c :: d :: r,i=>if c = 34 then (if d = 34 then (quo r (i + 2)).map fun p=>(34 :: p.1,p.2) else some ([],i + 1)) else (quo (d :: r) (i + 1)).map fun p=>(c :: p.1,p.2)
def wrongs : List Bs:=[[35,68,73,86,33],[35,86,65,76,85,69,33],[35,82,69,70,33],[35,78,65,77,69,33],[35,78,85,77,33],[35,78,79,78,69,33]]
def badL (l : Bs) : List Bs → Nat → Option (Nat × Nat)
 | [],_=>none
 | t :: ts,k=>if l.take t.length = t then some (k,t.length) else badL l ts (k + 1)
inductive Tok where
 | fin
 | word (e : Nat) (t : Bs)
 | txt (e : Nat) (t : Bs)
 | bad (e k : Nat)
 | sign (e : Nat) (t : Bs)
 | none
 deriving Inhabited
def zKn (s : Bs) (a : Nat) : Tok:=
 match s[a]? with
 | .none=>.fin
 | some c=>
  if zIh c = true then .word (runW s a) (sub s a (runW s a))
  else if c = 34 then (match quo (s.drop (a + 1)) (a + 1) with
   | some (t,e)=>.txt e t
   | .none=>.none)
  else if c = 35 then (match badL (s.drop a) wrongs 1 with
   | some (k,n)=>.bad (a + n) k
   | .none=>.none)
  else match s[a + 1]? with
   | some d=>if (c = 60 ∧ d = 62) ∨ (c = 60 ∧ d = 61) ∨ (c = 62 ∧ d = 61) then .sign (a + 2) [c,d] else .sign (a + 1) [c]
   | .none=>.sign (a + 1) [c]
def tok (s : Bs) (a : Nat) : Tok:=zKn s (skip s a)
structure RefP where
 col : Int
 row : Int
 fc : Bool
 fr : Bool
 deriving DecidableEq,Inhabited
def noRef : RefP:=⟨0,0,false,false⟩
inductive Nd where
 | mk (kind num : Int) (text : Bs) (ref to : RefP) (kids : List Nd)
 deriving Inhabited
namespace Nd
def kind : Nd → Int | mk a _ _ _ _ _=>a
def num : Nd → Int | mk _ a _ _ _ _=>a
def text : Nd → Bs | mk _ _ a _ _ _=>a
def ref : Nd → RefP | mk _ _ _ a _ _=>a
def to : Nd → RefP | mk _ _ _ _ a _=>a
def kids : Nd → List Nd | mk _ _ _ _ _ a=>a
def kk : Nd → Nat | mk _ _ _ _ _ []=>0 | mk _ _ _ _ _ (_ :: _)=>12
end Nd
def numN (n : Int) : Nd:=.mk 1 n [] noRef noRef []
def txtN (t : Bs) : Nd:=.mk 2 0 t noRef noRef []
def truN (b : Bool) : Nd:=.mk 3 (if b then 1 else 0) [] noRef noRef []
def badN (k : Nat) : Nd:=.mk 4 k [] noRef noRef []
def refN (r : RefP) : Nd:=.mk 5 0 [] r noRef []
def boxN (a b : RefP) : Nd:=.mk 6 0 [] a b []
def negN (n : Nd) : Nd:=.mk 7 0 [] noRef noRef [n]
def twoN (op : Nat) (a b : Nd) : Nd:=.mk 8 op [] noRef noRef [a,b]
def zKo (name : Bs) (ks : List Nd) : Nd:=.mk 9 0 name noRef noRef ks
def digB (c : UInt8) : Bool:=decide (48 ≤ c.toNat) && decide (c.toNat ≤ 57)
def decV (l : Bs) : Nat:=l.foldl (fun n c=>n * 10 + (c.toNat - 48)) 0
def zJv (t : Bs) : Option Int:=
 if t = [] ∨ (t.head? = some 48 ∧ t ≠ [48]) then none
 else if t.all digB = true then (if decV t ≤ 9223372036854775807 then some (decV t : Int) else none) else none
def capB (c : UInt8) : Bool:=decide (65 ≤ c.toNat) && decide (c.toNat ≤ 90)
def dollar : Bs → Bool × Bs
 | []=>(false,[])
 | c :: r=>if c = 36 then (true,r) else (false,c :: r)
def rowP (fc : Bool) (col : Int) (p : Bool × Bs) : Option RefP:=
 match zJv p.2 with
 | some n=>if 1 ≤ n ∧ n ≤ 99 then some ⟨col,n,fc,p.1⟩ else none
 | none=>none
def colP (p : Bool × Bs) : Option RefP:=
 match p.2 with
 | []=>none
 | c :: r=>if capB c = true then rowP p.1 ((c.toNat : Int) - 64) (dollar r) else none
def refP (t : Bs) : Option RefP:=colP (dollar t)
def trueW : Bs:=[84,82,85,69]
def zKp : Bs:=[70,65,76,83,69]
def atomP (t : Bs) : Option Nd:=
 match zJv t with
 | some n=>some (numN n)
 | none=>if t = trueW then some (truN true) else if t = zKp then some (truN false) else (refP t).map refN
def zKL (t : Bs) : Bool:=decide (2 ≤ t.length) && decide (t.length ≤ 10) && t.all capB
def opNo (t : Bs) : Nat:=
 if t = [61] then 1 else if t = [60,62] then 2 else if t = [60] then 3 else if t = [60,61] then 4 else if t = [62] then 5 else if t = [62,61] then 6
 else if t = [38] then 7 else if t = [43] then 8 else if t = [45] then 9 else if t = [42] then 10 else if t = [47] then 11 else 0
def tight (op : Nat) : Nat:=if op ≤ 6 then 1 else if op = 7 then 2 else if op ≤ 9 then 3 else 4
def opAt (s : Bs) (a : Nat) : Option (Nat × Nat):=
 match tok s a with
 | .sign e t=>if opNo t = 0 then none else some (opNo t,e)
 | _=>none
structure Ps where
 one : Nat → Nat → Option (Nd × Nat)
 loose : Nat → Nat → Nat → Option (Nd × Nat)
 ll : Nat → Nd → Nat → Nat → Option (Nd × Nat)
 args : Bs → List Nd → Nat → Nat → Option (Nd × Nat)
def boxAt (s : Bs) (a : Nat) : Option (Option (Nd × Nat)):=
 match tok s a with
 | .word e t=>match refP t with
  | some r=>if s[e]? = some 58 then
    (match zKn s (e + 1) with
     | .word e2 t2=>some ((refP t2).map fun r2=>(boxN r r2,e2))
     | _=>some none)
    else none
  | none=>none
 | _=>none
def psOne (s : Bs) (q : Ps) (a d : Nat) : Option (Nd × Nat):=
 match tok s a with
 | .word e t=>
  if zKL t = true ∧ s[e]? = some 40 then
   (if d = 30 then none else match tok s (e + 1) with
    | .sign e2 [41]=>some (zKo t [],e2)
    | _=>q.args t [] (e + 1) (d + 1))
  else (atomP t).map fun n=>(n,e)
 | .txt e t=>some (txtN t,e)
 | .bad e k=>some (badN k,e)
 | .sign e [45]=>if d = 30 then none else (q.one e (d + 1)).map fun p=>(negN p.1,p.2)
 | .sign e [40]=>if d = 30 then none else (q.loose 1 e (d + 1)).bind fun p=>match tok s p.2 with
  | .sign e2 [41]=>some (p.1,e2)
  | _=>none
 | _=>none
def zKM (q : Ps) (least a d : Nat) : Option (Nd × Nat):=(q.one a d).bind fun p=>q.ll least p.1 p.2 d
def psLl (s : Bs) (q : Ps) (least : Nat) (n : Nd) (a d : Nat) : Option (Nd × Nat):=
 match opAt s a with
 | none=>some (n,a)
 | some (op,e)=>if tight op < least then some (n,a) else (q.loose (tight op + 1) e d).bind fun p=>q.ll least (twoN op n p.1) p.2 d
def psArg (s : Bs) (q : Ps) (a d : Nat) : Option (Nd × Nat):=
 match boxAt s a with
 | some r=>r
 | none=>q.loose 1 a d
def zKq (s : Bs) (q : Ps) (name : Bs) (ks : List Nd) (a d : Nat) : Option (Nd × Nat):=
 (psArg s q a d).bind fun p=>match tok s p.2 with
  | .sign e [44]=>q.args name (ks ++ [p.1]) e d
  | .sign e [41]=>some (zKo name (ks ++ [p.1]),e)
  | _=>none
def ps (s : Bs) : Nat → Ps
 | 0=>⟨fun _ _=>none,fun _ _ _=>none,fun _ _ _ _=>none,fun _ _ _ _=>none⟩
 | n + 1=>⟨psOne s (ps s n),zKM (ps s n),psLl s (ps s n),zKq s (ps s n)⟩
structure Ends (s : Bs) (q : Ps) : Prop where
 one : ∀ a d p,a ≤ s.length → q.one a d = some p → a < p.2 ∧ p.2 ≤ s.length
 loose : ∀ l a d p,a ≤ s.length → q.loose l a d = some p → a < p.2 ∧ p.2 ≤ s.length
 ll : ∀ l n a d p,a ≤ s.length → q.ll l n a d = some p → a ≤ p.2 ∧ p.2 ≤ s.length
 args : ∀ nm ks a d p,a ≤ s.length → q.args nm ks a d = some p → a < p.2 ∧ p.2 ≤ s.length
end Go.AM
