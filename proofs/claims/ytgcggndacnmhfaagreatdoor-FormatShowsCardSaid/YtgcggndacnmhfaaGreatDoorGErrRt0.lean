/- Several texts of mine in one (Err, Fp0, Fp1, Dec, Rt0). Own work. -/
import Derived.Test.YtgcggndacnmhfaaGreatDoorGAm23Bc
import Derived.Test.YtgcggndacnmhfaaGreatDoorGAm22Am30
set_option linter.all false
namespace Go.AM
def zIx (n : Int) : AV:=.iface zBI (.int .i64 n)
def zEK (n : Int) : AV:=.int .i64 n
def ErrIs (x : AV) (n : Int) : Prop:=(x = .nili ∧ n = 0) ∨ x = zIx n
end Go.AM
set_option maxRecDepth 20000
namespace Go.AM
abbrev Bs:=List UInt8
def zNO : Bs → Nat
 | []=>0
 | c :: r=>if c = 32 then zNO r + 1 else 0
def skip (s : Bs) (a : Nat) : Nat:=a + zNO (s.drop a)
def zJ6 (c : UInt8) : Bool:=c.toNat == 36 || (decide (48 ≤ c.toNat) && decide (c.toNat ≤ 57)) || (decide (65 ≤ c.toNat) && decide (c.toNat ≤ 90)) || (decide (97 ≤ c.toNat) && decide (c.toNat ≤ 122))
def runL : Bs → Nat
 | []=>0
 | c :: r=>if zJ6 c = true then runL r + 1 else 0
def runW (s : Bs) (a : Nat) : Nat:=a + runL (s.drop a)
def sub (s : Bs) (a b : Nat) : Bs:=(s.drop a).take (b - a)
def quo : Bs → Nat → Option (Bs × Nat)
 | [],_=>none
 | [c],i=>if c = 34 then some ([],i + 1) else none
 | c :: d :: r,i=>if c = 34 then (if d = 34 then (quo r (i + 2)).map fun p=>(34 :: p.1,p.2) else some ([],i + 1)) else (quo (d :: r) (i + 1)).map fun p=>(c :: p.1,p.2)
def wrongs : List Bs:=[[35,68,73,86,33],[35,86,65,76,85,69,33],[35,82,69,70,33],[35,78,65,77,69,33],[35,78,85,77,33],[35,78,79,78,69,33]]
def badL (l : Bs) : List Bs → Nat → Option (Nat × Nat)
 | [],_=>none
 | t :: ts,k=>if l.take t.length = t then some (k,t.length) else badL l ts (k + 1)
inductive Tok where
 | fin
 | word (e : Nat) (t : Bs)
 | txt (e : Nat) (t : Bs)
 | bad (e k : Nat)
 | sign (e : Nat) (t : Bs)
 | none
 deriving Inhabited
def zNP (s : Bs) (a : Nat) : Tok:=
 match s[a]? with
 | .none=>.fin
 | some c=>
  if zJ6 c = true then .word (runW s a) (sub s a (runW s a))
  else if c = 34 then (match quo (s.drop (a + 1)) (a + 1) with
   | some (t,e)=>.txt e t
   | .none=>.none)
  else if c = 35 then (match badL (s.drop a) wrongs 1 with
   | some (k,n)=>.bad (a + n) k
   | .none=>.none)
  else match s[a + 1]? with
   | some d=>if (c = 60 ∧ d = 62) ∨ (c = 60 ∧ d = 61) ∨ (c = 62 ∧ d = 61) then .sign (a + 2) [c,d] else .sign (a + 1) [c]
   | .none=>.sign (a + 1) [c]
def tok (s : Bs) (a : Nat) : Tok:=zNP s (skip s a)
structure RefP where
 col : Int
 row : Int
 fc : Bool
 fr : Bool
 deriving DecidableEq,Inhabited
def noRef : RefP:=⟨0,0,false,false⟩
inductive Nd where
 | mk (kind num : Int) (text : Bs) (ref to : RefP) (kids : List Nd)
 deriving Inhabited
namespace Nd
def kind : Nd → Int | mk a _ _ _ _ _=>a
def num : Nd → Int | mk _ a _ _ _ _=>a
def text : Nd → Bs | mk _ _ a _ _ _=>a
def ref : Nd → RefP | mk _ _ _ a _ _=>a
def to : Nd → RefP | mk _ _ _ _ a _=>a
def kids : Nd → List Nd | mk _ _ _ _ _ a=>a
def kk : Nd → Nat | mk _ _ _ _ _ []=>0 | mk _ _ _ _ _ (_ :: _)=>12
end Nd
def numN (n : Int) : Nd:=.mk 1 n [] noRef noRef []
def txtN (t : Bs) : Nd:=.mk 2 0 t noRef noRef []
def truN (b : Bool) : Nd:=.mk 3 (if b then 1 else 0) [] noRef noRef []
def badN (k : Nat) : Nd:=.mk 4 k [] noRef noRef []
def refN (r : RefP) : Nd:=.mk 5 0 [] r noRef []
def boxN (a b : RefP) : Nd:=.mk 6 0 [] a b []
def negN (n : Nd) : Nd:=.mk 7 0 [] noRef noRef [n]
def twoN (op : Nat) (a b : Nd) : Nd:=.mk 8 op [] noRef noRef [a,b]
def zMT (name : Bs) (ks : List Nd) : Nd:=.mk 9 0 name noRef noRef ks
def digB (c : UInt8) : Bool:=decide (48 ≤ c.toNat) && decide (c.toNat ≤ 57)
def decV (l : Bs) : Nat:=l.foldl (fun n c=>n * 10 + (c.toNat - 48)) 0
def zL3 (t : Bs) : Option Int:=
 if t = [] ∨ (t.head? = some 48 ∧ t ≠ [48]) then none
 else if t.all digB = true then (if decV t ≤ 9223372036854775807 then some (decV t : Int) else none) else none
def capB (c : UInt8) : Bool:=decide (65 ≤ c.toNat) && decide (c.toNat ≤ 90)
def dollar : Bs → Bool × Bs
 | []=>(false,[])
 | c :: r=>if c = 36 then (true,r) else (false,c :: r)
def rowP (fc : Bool) (col : Int) (p : Bool × Bs) : Option RefP:=
 match zL3 p.2 with
 | some n=>if 1 ≤ n ∧ n ≤ 99 then some ⟨col,n,fc,p.1⟩ else none
 | none=>none
def colP (p : Bool × Bs) : Option RefP:=
 match p.2 with
 | []=>none
 | c :: r=>if capB c = true then rowP p.1 ((c.toNat : Int) - 64) (dollar r) else none
def refP (t : Bs) : Option RefP:=colP (dollar t)
def zMU : Bs:=[84,82,85,69]
def zJ7 : Bs:=[70,65,76,83,69]
def atomP (t : Bs) : Option Nd:=
 match zL3 t with
 | some n=>some (numN n)
 | none=>if t = zMU then some (truN true) else if t = zJ7 then some (truN false) else (refP t).map refN
def zJ8 (t : Bs) : Bool:=decide (2 ≤ t.length) && decide (t.length ≤ 10) && t.all capB
def opNo (t : Bs) : Nat:=
 if t = [61] then 1 else if t = [60,62] then 2 else if t = [60] then 3 else if t = [60,61] then 4 else if t = [62] then 5 else if t = [62,61] then 6
 else if t = [38] then 7 else if t = [43] then 8 else if t = [45] then 9 else if t = [42] then 10 else if t = [47] then 11 else 0
def tight (op : Nat) : Nat:=if op ≤ 6 then 1 else if op = 7 then 2 else if op ≤ 9 then 3 else 4
def opAt (s : Bs) (a : Nat) : Option (Nat × Nat):=
 match tok s a with
 | .sign e t=>if opNo t = 0 then none else some (opNo t,e)
 | _=>none
structure Ps where
 one : Nat → Nat → Option (Nd × Nat)
 loose : Nat → Nat → Nat → Option (Nd × Nat)
 ll : Nat → Nd → Nat → Nat → Option (Nd × Nat)
 args : Bs → List Nd → Nat → Nat → Option (Nd × Nat)
def boxAt (s : Bs) (a : Nat) : Option (Option (Nd × Nat)):=
 match tok s a with
 | .word e t=>match refP t with
  | some r=>if s[e]? = some 58 then
    (match zNP s (e + 1) with
     | .word e2 t2=>some ((refP t2).map fun r2=>(boxN r r2,e2))
     | _=>some none)
    else none
  | none=>none
 | _=>none
def psOne (s : Bs) (q : Ps) (a d : Nat) : Option (Nd × Nat):=
 match tok s a with
 | .word e t=>
  if zJ8 t = true ∧ s[e]? = some 40 then
   (if d = 30 then none else match tok s (e + 1) with
    | .sign e2 [41]=>some (zMT t [],e2)
    | _=>q.args t [] (e + 1) (d + 1))
  else (atomP t).map fun n=>(n,e)
 | .txt e t=>some (txtN t,e)
 | .bad e k=>some (badN k,e)
 | .sign e [45]=>if d = 30 then none else (q.one e (d + 1)).map fun p=>(negN p.1,p.2)
 | .sign e [40]=>if d = 30 then none else (q.loose 1 e (d + 1)).bind fun p=>match tok s p.2 with
  | .sign e2 [41]=>some (p.1,e2)
  | _=>none
 | _=>none
def zMV (q : Ps) (least a d : Nat) : Option (Nd × Nat):=(q.one a d).bind fun p=>q.ll least p.1 p.2 d
def psLl (s : Bs) (q : Ps) (least : Nat) (n : Nd) (a d : Nat) : Option (Nd × Nat):=
 match opAt s a with
 | none=>some (n,a)
 | some (op,e)=>if tight op < least then some (n,a) else (q.loose (tight op + 1) e d).bind fun p=>q.ll least (twoN op n p.1) p.2 d
def psArg (s : Bs) (q : Ps) (a d : Nat) : Option (Nd × Nat):=
 match boxAt s a with
 | some r=>r
 | none=>q.loose 1 a d
def zNQ (s : Bs) (q : Ps) (name : Bs) (ks : List Nd) (a d : Nat) : Option (Nd × Nat):=
 (psArg s q a d).bind fun p=>match tok s p.2 with
  | .sign e [44]=>q.args name (ks ++ [p.1]) e d
  | .sign e [41]=>some (zMT name (ks ++ [p.1]),e)
  | _=>none
def ps (s : Bs) : Nat → Ps
 | 0=>⟨fun _ _=>none,fun _ _ _=>none,fun _ _ _ _=>none,fun _ _ _ _=>none⟩
 | n + 1=>⟨psOne s (ps s n),zMV (ps s n),psLl s (ps s n),zNQ s (ps s n)⟩
structure Ends (s : Bs) (q : Ps) : Prop where
 one : ∀ a d p,a ≤ s.length → q.one a d = some p → a < p.2 ∧ p.2 ≤ s.length
 loose : ∀ l a d p,a ≤ s.length → q.loose l a d = some p → a < p.2 ∧ p.2 ≤ s.length
 ll : ∀ l n a d p,a ≤ s.length → q.ll l n a d = some p → a ≤ p.2 ∧ p.2 ≤ s.length
 args : ∀ nm ks a d p,a ≤ s.length → q.args nm ks a d = some p → a < p.2 ∧ p.2 ≤ s.length
end Go.AM
set_option maxRecDepth 20000
namespace Go.AM
structure Agree (s : Bs) (q r : Ps) (K : Nat) : Prop where
 one : ∀ a d,a ≤ s.length → 4 * (s.length - a) + 1 ≤ K → q.one a d = r.one a d
 loose : ∀ l a d,a ≤ s.length → 4 * (s.length - a) + 2 ≤ K → q.loose l a d = r.loose l a d
 ll : ∀ l n a d,a ≤ s.length → 4 * (s.length - a) + 1 ≤ K → q.ll l n a d = r.ll l n a d
 args : ∀ nm ks a d,a ≤ s.length → 4 * (s.length - a) + 3 ≤ K → q.args nm ks a d = r.args nm ks a d
def fuelP (s : Bs) : Nat:=4 * s.length + 3
def P (s : Bs) : Ps:=ps s (fuelP s + 1)
end Go.AM
set_option maxRecDepth 20000
namespace Go.AM
def dcF : Nat → Nat → List UInt8
 | 0,_=>[]
 | f + 1,n=>if n = 0 then [] else UInt8.ofNat (48 + n % 10) :: dcF f (n / 10)
def zIB (n : Nat) : List UInt8:=dcF n n
theorem zIC : ∀ f g n,n ≤ f → n ≤ g → dcF f n = dcF g n
 | 0,0,_,_,_=>rfl
 | 0,g + 1,n,h,_=>by
  have : n = 0:=by omega
  subst this; rfl
 | f + 1,0,n,_,h=>by
  have : n = 0:=by omega
  subst this; rfl
 | f + 1,g + 1,n,h,k=>by
  simp only [dcF]
  split
  ·rfl
  ·rw [zIC f g (n / 10) tO tO]
theorem zDU : zIB 0 = []:=rfl
theorem zEL {n : Nat} (h : n ≠ 0) : zIB n = UInt8.ofNat (48 + n % 10) :: zIB (n / 10):=by
 unfold zIB
 obtain ⟨m,rfl⟩ : ∃ m,n = m + 1:=⟨n - 1,by omega⟩
 rw [dcF,if_neg h,zIC m ((m + 1) / 10) _ tO (Nat.le_refl _)]
theorem zGB : ∀ (k n : Nat),n < 10 ^ k → (zIB n).length ≤ k
 | 0,n,h=>by
  have : n = 0:=by simpa using h
  subst this; exact Nat.le_refl _
 | k + 1,n,h=>by
  by_cases h0 : n = 0
  ·subst h0; simp [zDU]
  ·rw [zEL h0,List.length_cons]
   have:=zGB k (n / 10) (by rw [Nat.pow_succ] at h; omega)
   omega
def signed (v : Int) : List UInt8:=if v < 0 then zIB v.natAbs ++ [45] else zIB v.natAbs
def zHB (v : Int) : List UInt8:=if v = 0 then [48] else (signed v).reverse
end Go.AM
set_option maxRecDepth 20000
namespace Go.AM
def zBe (n : Nat) : Bs:=if n = 0 then [48] else (zIB n).reverse
def esc : Bs → Bs
 | []=>[]
 | c :: r=>if c = 34 then 34 :: 34 :: esc r else c :: esc r
def refT (r : RefP) : Bs:=(if r.fc then [36] else []) ++ [UInt8.ofNat (64 + r.col.toNat)] ++ (if r.fr then [36] else []) ++ zBe r.row.toNat
def opT (op : Nat) : Bs:=[[],[61],[60,62],[60],[60,61],[62],[62,61],[38],[43],[45],[42],[47]].getD op []
def zL4 (n : Nd) : Nat:=if n.kind = 8 then tight n.num.toNat else 9
def brk (need : Bool) (t : Bs) : Bs:=if need then 40 :: t ++ [41] else t
def zNR : List Bs → Bs
 | []=>[]
 | [t]=>t
 | t :: u :: r=>t ++ 44 :: zNR (u :: r)
def txtK (k num : Int) (t : Bs) (r o : RefP) (ks : List (Nat × Bs)) : Bs:=
 if k = 1 then zBe num.toNat
 else if k = 2 then 34 :: esc t ++ [34]
 else if k = 3 then (if num = 1 then zMU else zJ7)
 else if k = 4 then wrongs.getD (num.toNat - 1) []
 else if k = 5 then refT r
 else if k = 6 then refT r ++ 58 :: refT o
 else if k = 7 then (match ks with
  | [a]=>45 :: brk (decide (a.1 < 9)) a.2
  | _=>[])
 else if k = 8 then (match ks with
  | [a,b]=>brk (decide (a.1 < tight num.toNat)) a.2 ++ opT num.toNat ++ brk (decide (b.1 ≤ tight num.toNat)) b.2
  | _=>[])
 else t ++ 40 :: zNR (ks.map (·.2)) ++ [41]
mutual
def txt : Nd → Bs
 | .mk k num t r o ks=>txtK k num t r o (txts ks)
def txts : List Nd → List (Nat × Bs)
 | []=>[]
 | n :: r=>(zL4 n,txt n) :: txts r
end
def okR (r : RefP) : Prop:=1 ≤ r.col ∧ r.col ≤ 26 ∧ 1 ≤ r.row ∧ r.row ≤ 99
inductive Wf : Bool → Nd → Prop where
 | num (x : Bool) (n : Nat) (h : n ≤ 9223372036854775807) : Wf x (numN n)
 | txt (x : Bool) (t : Bs) : Wf x (txtN t)
 | tru (x b : Bool) : Wf x (truN b)
 | bad (x : Bool) (k : Nat) (h : 1 ≤ k ∧ k ≤ 6) : Wf x (badN k)
 | ref (x : Bool) (r : RefP) (h : okR r) : Wf x (refN r)
 | box (r o : RefP) (h : okR r) (k : okR o) : Wf true (boxN r o)
 | neg (x : Bool) (n : Nd) (h : Wf false n) : Wf x (negN n)
 | two (x : Bool) (op : Nat) (a b : Nd) (h : 1 ≤ op ∧ op ≤ 11) (ha : Wf false a) (hb : Wf false b) : Wf x (twoN op a b)
 | call (x : Bool) (t : Bs) (ks : List Nd) (h : zJ8 t = true) (hk : ∀ k ∈ ks,Wf true k) : Wf x (zMT t ks)
def needK (k num : Int) (ks : List (Nat × Nat)) : Nat:=
 if k = 7 then (match ks with
  | [a]=>1 + (a.2 + if a.1 < 9 then 1 else 0)
  | _=>0)
 else if k = 8 then (match ks with
  | [a,b]=>max (a.2 + if a.1 < tight num.toNat then 1 else 0) (b.2 + if b.1 ≤ tight num.toNat then 1 else 0)
  | _=>0)
 else if k = 9 then 1 + (ks.map (·.2)).foldr max 0
 else 0
mutual
def need : Nd → Nat
 | .mk k num _ _ _ ks=>needK k num (needs ks)
def needs : List Nd → List (Nat × Nat)
 | []=>[]
 | n :: r=>(zL4 n,need n) :: needs r
end
theorem zJ9 {k : Nat} (h : k < 10) : (UInt8.ofNat (48 + k)).toNat = 48 + k:=by simp; omega
theorem zKA : ∀ n : Nat,n ≠ 0 → (zIB n).getLast? ≠ some 48 ∧ (zIB n) ≠ []:=by
 intro n
 induction n using Nat.strongRecOn with
 | ind n ih=>
  intro h
  rw [zEL h]
  refine ⟨?_,by simp⟩
  by_cases h1 : n / 10 = 0
  ·rw [h1,zDU]
   intro e
   have e : UInt8.ofNat (48 + n % 10) = 48:=Option.some.inj e
   have:=zJ9 (k:=n % 10) tO
   rw [e] at this
   simp at this
   omega
  ·obtain ⟨h2,h3⟩:=ih (n / 10) tO h1
   obtain ⟨x,r,hx⟩:=List.exists_cons_of_ne_nil h3
   rw [hx] at h2 ⊢
   simpa using h2
theorem zMW (n : Nat) : zBe n ≠ []:=by
 unfold zBe
 split
 ·simp
 ·rename_i h; simpa using (zKA n h).2
end Go.AM
