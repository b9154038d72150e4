/- Several texts of mine in one (Fp0, Fp1, Am30, Fq0, Trm). Own work. -/
import Derived.Test.YthllabjbdobpgaaGreatDoorGAm23Am29
set_option linter.all false
set_option maxRecDepth 20000
namespace Go.AM
abbrev Bs:=List UInt8
def skipL : Bs → Nat
 | []=>0
 | c :: r=>if c = 32 then skipL r + 1 else 0
def skip (s : Bs) (a : Nat) : Nat:=a + skipL (s.drop a)
def z6 (c : UInt8) : Bool:=c.toNat == 36 || (decide (48 ≤ c.toNat) && decide (c.toNat ≤ 57)) || (decide (65 ≤ c.toNat) && decide (c.toNat ≤ 90)) || (decide (97 ≤ c.toNat) && decide (c.toNat ≤ 122))
def runL : Bs → Nat
 | []=>0
 | c :: r=>if z6 c = true then runL r + 1 else 0
def zCJ (s : Bs) (a : Nat) : Nat:=a + runL (s.drop a)
def sub (s : Bs) (a b : Nat) : Bs:=(s.drop a).take (b - a)
theorem zBD {s : Bs} {a : Nat} {c : UInt8} (h : s[a]? = some c) : s.drop a = c :: s.drop (a + 1):=by
 obtain ⟨h1,h2⟩:=zg h
 rw [zN8 h1,h2]
theorem zHW {s : Bs} {a : Nat} (h : s[a]? = none) : s.drop a = []:=zNx (zO7.1 h)
theorem zJ6 {s : Bs} {a : Nat} (h : s[a]? = some 32) : skip s a = skip s (a + 1):=by
 unfold skip; rw [zBD h,skipL,zMg rfl]; omega
theorem zDl {s : Bs} {a : Nat} (h : s[a]? ≠ some 32) : skip s a = a:=by
 unfold skip
 cases e : s[a]? with
 | none=>rw [zHW e]; rfl
 | some c=>rw [zBD e,skipL,zMe (fun h'=>h (by rw [e,h']))]; rfl
theorem zEg (s : Bs) (a : Nat) : a ≤ skip s a:=Nat.le_add_right _ _
theorem skipL_le : ∀ l : Bs,skipL l ≤ l.length
 | []=>zMh _
 | c :: r=>by
  simp only [skipL]
  have:=skipL_le r
  split <;> simp only [zMi] <;> omega
theorem zBo {s : Bs} {a : Nat} (h : a ≤ s.length) : skip s a ≤ s.length:=by
 unfold skip
 have:=skipL_le (s.drop a)
 rw [zNQ] at this
 omega
theorem skipL_at : ∀ l : Bs,l[skipL l]? ≠ some 32
 | []=>by simp [skipL]
 | c :: r=>by
  by_cases h : c = 32
  ·rw [skipL,zMg h,zOh]; exact skipL_at r
  ·rw [skipL,zMe h]; simpa using h
theorem skip_at (s : Bs) (a : Nat) : s[skip s a]? ≠ some 32:=by
 have:=skipL_at (s.drop a)
 rwa [zNF] at this
theorem zEh (s : Bs) (a : Nat) : skip s (skip s a) = skip s a:=zDl (skip_at s a)
theorem zFz {s : Bs} {a : Nat} {c : UInt8} (h : s[a]? = some c) (hc : z6 c = true) : zCJ s a = zCJ s (a + 1):=by
 unfold zCJ; rw [zBD h,runL,zMg hc]; omega
theorem zF0 {s : Bs} {a : Nat} (h : ∀ c,s[a]? = some c → z6 c = false) : zCJ s a = a:=by
 unfold zCJ
 cases e : s[a]? with
 | none=>rw [zHW e]; rfl
 | some c=>rw [zBD e,runL,zMe (by rw [h c e]; simp)]; rfl
theorem zJ7 (s : Bs) (a : Nat) : a ≤ zCJ s a:=Nat.le_add_right _ _
theorem runL_le : ∀ l : Bs,runL l ≤ l.length
 | []=>zMh _
 | c :: r=>by
  simp only [runL]
  have:=runL_le r
  split <;> simp only [zMi] <;> omega
theorem zHX {s : Bs} {a : Nat} (h : a ≤ s.length) : zCJ s a ≤ s.length:=by
 unfold zCJ
 have:=runL_le (s.drop a)
 rw [zNQ] at this
 omega
def quo : Bs → Nat → Option (Bs × Nat)
 | [],_=>none
 | [c],i=>if c = 34 then some ([],i + 1) else none
 | c :: d :: r,i=>if c = 34 then (if d = 34 then (quo r (i + 2)).map fun p=>(34 :: p.1,p.2) else some ([],i + 1)) else (quo (d :: r) (i + 1)).map fun p=>(c :: p.1,p.2)
def wrongs : List Bs:=[[35,68,73,86,33],[35,86,65,76,85,69,33],[35,82,69,70,33],[35,78,65,77,69,33],[35,78,85,77,33],[35,78,79,78,69,33]]
def zJ8 (l : Bs) : List Bs → Nat → Option (Nat × Nat)
 | [],_=>none
 | t :: ts,k=>if l.take t.length = t then some (k,t.length) else zJ8 l ts (k + 1)
inductive Tok where
 | fin
 | word (e : Nat) (t : Bs)
 | txt (e : Nat) (t : Bs)
 | bad (e k : Nat)
 | sign (e : Nat) (t : Bs)
 | none
 deriving Inhabited
def zCX (s : Bs) (a : Nat) : Tok:=
 match s[a]? with
 | .none=>.fin
 | some c=>
  if z6 c = true then .word (zCJ s a) (sub s a (zCJ s a))
  else if c = 34 then (match quo (s.drop (a + 1)) (a + 1) with
   | some (t,e)=>.txt e t
   | .none=>.none)
  else if c = 35 then (match zJ8 (s.drop a) wrongs 1 with
   | some (k,n)=>.bad (a + n) k
   | .none=>.none)
  else match s[a + 1]? with
   | some d=>if (c = 60 ∧ d = 62) ∨ (c = 60 ∧ d = 61) ∨ (c = 62 ∧ d = 61) then .sign (a + 2) [c,d] else .sign (a + 1) [c]
   | .none=>.sign (a + 1) [c]
def tok (s : Bs) (a : Nat) : Tok:=zCX s (skip s a)
theorem zJX (s : Bs) (a : Nat) : tok s (skip s a) = tok s a:=by unfold tok; rw [zEh]
def Tok.endsBy (a : Nat) : Tok → Nat → Prop
 | .word e _,n=>a < e ∧ e ≤ n
 | .txt e _,n=>a < e ∧ e ≤ n
 | .bad e _,n=>a < e ∧ e ≤ n
 | .sign e _,n=>a < e ∧ e ≤ n
 | _,_=>True
theorem quo_ends : ∀ (l : Bs) (i : Nat) (t : Bs) (e : Nat),quo l i = some (t,e) → i < e ∧ e ≤ i + l.length
 | [],_,_,_,h=>by simp [quo] at h
 | [c],i,t,e,h=>by
  simp only [quo] at h
  split at h
  ·simp only [zMc,zMj] at h; obtain ⟨_,rfl⟩:=h; simp
  ·cases h
 | c :: d :: r,i,t,e,h=>by
  simp only [quo] at h
  split at h
  ·split at h
   ·rw [zMk] at h
    obtain ⟨⟨t',e'⟩,h1,h2⟩:=h
    simp only [zMj] at h2
    have:=quo_ends r (i + 2) t' e' h1
    simp only [zMi]
    omega
   ·simp only [zMc,zMj] at h; obtain ⟨_,rfl⟩:=h; simp
  ·rw [zMk] at h
   obtain ⟨⟨t',e'⟩,h1,h2⟩:=h
   simp only [zMj] at h2
   have:=quo_ends (d :: r) (i + 1) t' e' h1
   simp only [zMi] at this ⊢
   omega
theorem zMN (l : Bs) : ∀ (ts : List Bs) (k : Nat) (p : Nat × Nat),zJ8 l ts k = some p → (∀ t ∈ ts,t ≠ []) → 0 < p.2 ∧ p.2 ≤ l.length
 | [],_,_,h,_=>by simp [zJ8] at h
 | t :: ts,k,p,h,ht=>by
  simp only [zJ8] at h
  split at h
  ·rename_i he
   simp only [zMc] at h
   subst h
   have h1:=ht t (by simp)
   have h2 : t.length ≠ 0:=by simpa using h1
   have h3:=zM1 List.length he
   rw [zMy] at h3
   omega
  ·exact zMN l ts _ p h fun t h=>ht t (by simp [h])
theorem tokAt_ends {s : Bs} {a : Nat} : (zCX s a).endsBy a s.length:=by
 unfold zCX
 cases e : s[a]? with
 | none=>trivial
 | some c=>
  have ha:=(zg e).1
  simp only
  split
  ·rename_i hw
   have h1:=zFz e hw
   have h2:=zJ7 s (a + 1)
   have h3:=zHX (s:=s) (a:=a) tO
   show a < zCJ s a ∧ zCJ s a ≤ s.length
   omega
  ·split
   ·split
    ·rename_i t e' hq
     have:=quo_ends _ _ _ _ hq
     rw [zNQ] at this
     show a < e' ∧ e' ≤ s.length
     omega
    ·trivial
   ·split
    ·split
     ·rename_i k n hb
      have:=zMN _ _ _ _ hb (by decide)
      rw [zNQ] at this
      simp only at this
      show a < a + n ∧ a + n ≤ s.length
      omega
     ·trivial
    ·cases e2 : s[a + 1]? with
     | none=>show a < a + 1 ∧ a + 1 ≤ s.length; omega
     | some d=>
      have ha2:=(zg e2).1
      simp only
      split
      ·show a < a + 2 ∧ a + 2 ≤ s.length; omega
      ·show a < a + 1 ∧ a + 1 ≤ s.length; omega
theorem zBr (s : Bs) (a : Nat) : (tok s a).endsBy a s.length:=by
 have h:=tokAt_ends (s:=s) (a:=skip s a)
 have h2:=zEg s a
 unfold tok
 revert h
 cases zCX s (skip s a) <;> simp only [Tok.endsBy] <;> first | exact fun _=>trivial | (intro h; omega)
structure RefP where
 col : Int
 row : Int
 fc : Bool
 fr : Bool
 deriving DecidableEq,Inhabited
def noRef : RefP:=⟨0,0,false,false⟩
inductive Nd where
 | mk (kind num : Int) (text : Bs) (ref to : RefP) (kids : List Nd)
 deriving Inhabited
namespace Nd
def kind : Nd → Int | mk a _ _ _ _ _=>a
def num : Nd → Int | mk _ a _ _ _ _=>a
def text : Nd → Bs | mk _ _ a _ _ _=>a
def ref : Nd → RefP | mk _ _ _ a _ _=>a
def to : Nd → RefP | mk _ _ _ _ a _=>a
def kids : Nd → List Nd | mk _ _ _ _ _ a=>a
def kq : Nd → Bool | mk _ _ _ _ _ []=>true | mk _ _ _ _ _ (_ :: _)=>false
def kk : Nd → Nat | mk _ _ _ _ _ []=>0 | mk _ _ _ _ _ (_ :: _)=>12
end Nd
mutual
def kxs : Nd → List AV
 | .mk _ _ _ _ _ ks=>kidL ks
def kidL : List Nd → List AV
 | []=>[]
 | k :: r=>.agg [.int .i64 k.kind,.int .i64 k.num,.str k.text,.int .i64 k.ref.col,.int .i64 k.ref.row,.bool k.ref.fc,.bool k.ref.fr,.int .i64 k.to.col,.int .i64 k.to.row,.bool k.to.fc,.bool k.to.fr,.lst (some k.kq) k.kk (kxs k)] :: kidL r
end
def ndC (k : Nd) : List AV:=[.int .i64 k.kind,.int .i64 k.num,.str k.text,.int .i64 k.ref.col,.int .i64 k.ref.row,.bool k.ref.fc,.bool k.ref.fr,.int .i64 k.to.col,.int .i64 k.to.row,.bool k.to.fc,.bool k.to.fr,.lst (some k.kq) k.kk (kxs k)]
def ndV (k : Nd) : AV:=.agg (ndC k)
theorem kidL_map : ∀ ks : List Nd,kidL ks = ks.map ndV
 | []=>rfl
 | k :: r=>by rw [kidL,zMp,kidL_map r]; rfl
def numN (n : Int) : Nd:=.mk 1 n [] noRef noRef []
def txtN (t : Bs) : Nd:=.mk 2 0 t noRef noRef []
def truN (b : Bool) : Nd:=.mk 3 (if b then 1 else 0) [] noRef noRef []
def badN (k : Nat) : Nd:=.mk 4 k [] noRef noRef []
def refN (r : RefP) : Nd:=.mk 5 0 [] r noRef []
def boxN (a b : RefP) : Nd:=.mk 6 0 [] a b []
def negN (n : Nd) : Nd:=.mk 7 0 [] noRef noRef [n]
def zHY (op : Nat) (a b : Nd) : Nd:=.mk 8 op [] noRef noRef [a,b]
def zEi (name : Bs) (ks : List Nd) : Nd:=.mk 9 0 name noRef noRef ks
def zY : Nd:=.mk 0 0 [] noRef noRef []
def zH4 (c : UInt8) : Bool:=decide (48 ≤ c.toNat) && decide (c.toNat ≤ 57)
def zCt (l : Bs) : Nat:=l.foldl (fun n c=>n * 10 + (c.toNat - 48)) 0
def zBE (t : Bs) : Option Int:=
 if t = [] ∨ (t.head? = some 48 ∧ t ≠ [48]) then none
 else if t.all zH4 = true then (if zCt t ≤ 9223372036854775807 then some (zCt t : Int) else none) else none
def capB (c : UInt8) : Bool:=decide (65 ≤ c.toNat) && decide (c.toNat ≤ 90)
def dollar : Bs → Bool × Bs
 | []=>(false,[])
 | c :: r=>if c = 36 then (true,r) else (false,c :: r)
def rowP (fc : Bool) (col : Int) (p : Bool × Bs) : Option RefP:=
 match zBE p.2 with
 | some n=>if 1 ≤ n ∧ n ≤ 99 then some ⟨col,n,fc,p.1⟩ else none
 | none=>none
def colP (p : Bool × Bs) : Option RefP:=
 match p.2 with
 | []=>none
 | c :: r=>if capB c = true then rowP p.1 ((c.toNat : Int) - 64) (dollar r) else none
def zCu (t : Bs) : Option RefP:=colP (dollar t)
def trueW : Bs:=[84,82,85,69]
def zKZ : Bs:=[70,65,76,83,69]
def zMO (t : Bs) : Option Nd:=
 match zBE t with
 | some n=>some (numN n)
 | none=>if t = trueW then some (truN true) else if t = zKZ then some (truN false) else (zCu t).map refN
def zBX (t : Bs) : Bool:=decide (2 ≤ t.length) && decide (t.length ≤ 10) && t.all capB
def zBK (t : Bs) : Nat:=
 if t = [61] then 1 else if t = [60,62] then 2 else if t = [60] then 3 else if t = [60,61] then 4 else if t = [62] then 5 else if t = [62,61] then 6
 else if t = [38] then 7 else if t = [43] then 8 else if t = [45] then 9 else if t = [42] then 10 else if t = [47] then 11 else 0
def tight (op : Nat) : Nat:=if op ≤ 6 then 1 else if op = 7 then 2 else if op ≤ 9 then 3 else 4
def zIg (s : Bs) (a : Nat) : Option (Nat × Nat):=
 match tok s a with
 | .sign e t=>if zBK t = 0 then none else some (zBK t,e)
 | _=>none
structure Ps where
 one : Nat → Nat → Option (Nd × Nat)
 loose : Nat → Nat → Nat → Option (Nd × Nat)
 ll : Nat → Nd → Nat → Nat → Option (Nd × Nat)
 args : Bs → List Nd → Nat → Nat → Option (Nd × Nat)
def zEB (s : Bs) (a : Nat) : Option (Option (Nd × Nat)):=
 match tok s a with
 | .word e t=>match zCu t with
  | some r=>if s[e]? = some 58 then
    (match zCX s (e + 1) with
     | .word e2 t2=>some ((zCu t2).map fun r2=>(boxN r r2,e2))
     | _=>some none)
    else none
  | none=>none
 | _=>none
def zCD (s : Bs) (q : Ps) (a d : Nat) : Option (Nd × Nat):=
 match tok s a with
 | .word e t=>
  if zBX t = true ∧ s[e]? = some 40 then
   (if d = 30 then none else match tok s (e + 1) with
    | .sign e2 [41]=>some (zEi t [],e2)
    | _=>q.args t [] (e + 1) (d + 1))
  else (zMO t).map fun n=>(n,e)
 | .txt e t=>some (txtN t,e)
 | .bad e k=>some (badN k,e)
 | .sign e [45]=>if d = 30 then none else (q.one e (d + 1)).map fun p=>(negN p.1,p.2)
 | .sign e [40]=>if d = 30 then none else (q.loose 1 e (d + 1)).bind fun p=>match tok s p.2 with
  | .sign e2 [41]=>some (p.1,e2)
  | _=>none
 | _=>none
def zEC (q : Ps) (least a d : Nat) : Option (Nd × Nat):=(q.one a d).bind fun p=>q.ll least p.1 p.2 d
def psLl (s : Bs) (q : Ps) (least : Nat) (n : Nd) (a d : Nat) : Option (Nd × Nat):=
 match zIg s a with
 | none=>some (n,a)
 | some (op,e)=>if tight op < least then some (n,a) else (q.loose (tight op + 1) e d).bind fun p=>q.ll least (zHY op n p.1) p.2 d
def zEj (s : Bs) (q : Ps) (a d : Nat) : Option (Nd × Nat):=
 match zEB s a with
 | some r=>r
 | none=>q.loose 1 a d
def zF1 (s : Bs) (q : Ps) (name : Bs) (ks : List Nd) (a d : Nat) : Option (Nd × Nat):=
 (zEj s q a d).bind fun p=>match tok s p.2 with
  | .sign e [44]=>q.args name (ks ++ [p.1]) e d
  | .sign e [41]=>some (zEi name (ks ++ [p.1]),e)
  | _=>none
def ps (s : Bs) : Nat → Ps
 | 0=>⟨fun _ _=>none,fun _ _ _=>none,fun _ _ _ _=>none,fun _ _ _ _=>none⟩
 | n + 1=>⟨zCD s (ps s n),zEC (ps s n),psLl s (ps s n),zF1 s (ps s n)⟩
structure Ends (s : Bs) (q : Ps) : Prop where
 one : ∀ a d p,a ≤ s.length → q.one a d = some p → a < p.2 ∧ p.2 ≤ s.length
 loose : ∀ l a d p,a ≤ s.length → q.loose l a d = some p → a < p.2 ∧ p.2 ≤ s.length
 ll : ∀ l n a d p,a ≤ s.length → q.ll l n a d = some p → a ≤ p.2 ∧ p.2 ≤ s.length
 args : ∀ nm ks a d p,a ≤ s.length → q.args nm ks a d = some p → a < p.2 ∧ p.2 ≤ s.length
theorem zC2 {s : Bs} {a op e : Nat} (h : zIg s a = some (op,e)) : a < e ∧ e ≤ s.length:=by
 have ht:=zBr s a
 unfold zIg at h
 split at h
 ·rename_i e' t hk
  rw [hk] at ht
  split at h
  ·cases h
  ·simp only [zMc,zMj] at h
   obtain ⟨_,rfl⟩:=h
   exact ht
 ·cases h
theorem boxAt_ends {s : Bs} {a : Nat} {p : Nd × Nat} (h : zEB s a = some (some p)) : a < p.2 ∧ p.2 ≤ s.length:=by
 have ht:=zBr s a
 unfold zEB at h
 split at h
 ·rename_i e t hk
  rw [hk] at ht
  simp only [Tok.endsBy] at ht
  split at h
  ·rename_i r hr
   split at h
   ·rename_i hc
    have h2:=tokAt_ends (s:=s) (a:=e + 1)
    split at h
    ·rename_i e2 t2 hk2
     rw [hk2] at h2
     simp only [Tok.endsBy] at h2
     simp only [zMc,zMk] at h
     obtain ⟨r2,_,rfl⟩:=h
     exact ⟨by show a < e2; omega,h2.2⟩
    ·cases h
   ·cases h
  ·cases h
 ·cases h
theorem psOne_ends {s : Bs} {q : Ps} (hq : Ends s q) (a d : Nat) (p : Nd × Nat) (ha : a ≤ s.length) (h : zCD s q a d = some p) : a < p.2 ∧ p.2 ≤ s.length:=by
 have ht:=zBr s a
 unfold zCD at h
 split at h
 ·rename_i e t hk
  rw [hk] at ht
  simp only [Tok.endsBy] at ht
  split at h
  ·rename_i hc
   have he:=(zg hc.2).1
   split at h
   ·cases h
   ·have ht2:=zBr s (e + 1)
    split at h
    ·rename_i e2 hk2
     rw [hk2] at ht2
     simp only [Tok.endsBy] at ht2
     cases h
     exact ⟨by show a < e2; omega,ht2.2⟩
    ·have:=hq.args _ _ _ _ p tO h
     omega
  ·simp only [zMk] at h
   obtain ⟨_,_,rfl⟩:=h
   exact ht
 ·rename_i e t hk
  rw [hk] at ht
  cases h; exact ht
 ·rename_i e t hk
  rw [hk] at ht
  cases h; exact ht
 ·rename_i e hk
  rw [hk] at ht
  simp only [Tok.endsBy] at ht
  split at h
  ·cases h
  ·simp only [zMk] at h
   obtain ⟨p',h1,rfl⟩:=h
   have:=hq.one e (d + 1) p' tO h1
   exact ⟨by show a < p'.2; omega,this.2⟩
 ·rename_i e hk
  rw [hk] at ht
  simp only [Tok.endsBy] at ht
  split at h
  ·cases h
  ·rw [zNH] at h
   obtain ⟨p',h1,h2⟩:=h
   have:=hq.loose 1 e (d + 1) p' tO h1
   have ht2:=zBr s p'.2
   split at h2
   ·rename_i e2 hk2
    rw [hk2] at ht2
    simp only [Tok.endsBy] at ht2
    cases h2
    exact ⟨by show a < e2; omega,ht2.2⟩
   ·cases h2
 ·cases h
theorem zHl {s : Bs} {q : Ps} (hq : Ends s q) (a d : Nat) (p : Nd × Nat) (ha : a ≤ s.length) (h : zEj s q a d = some p) : a < p.2 ∧ p.2 ≤ s.length:=by
 unfold zEj at h
 split at h
 ·rename_i r hb
  subst h
  exact boxAt_ends hb
 ·exact hq.loose 1 a d p ha h
theorem ps_ends (s : Bs) : ∀ n,Ends s (ps s n)
 | 0=>⟨fun _ _ _ _ h=>by simp [ps] at h,fun _ _ _ _ _ h=>by simp [ps] at h,fun _ _ _ _ _ _ h=>by simp [ps] at h,fun _ _ _ _ _ _ h=>by simp [ps] at h⟩
 | n + 1=>by
  have ih:=ps_ends s n
  refine ⟨fun a d p ha h=>psOne_ends ih a d p ha h,fun l a d p ha h=>?_,fun l nd a d p ha h=>?_,fun nm ks a d p ha h=>?_⟩
  ·change zEC (ps s n) l a d = some p at h
   unfold zEC at h
   rw [zNH] at h
   obtain ⟨p',h1,h2⟩:=h
   have e1:=ih.one a d p' ha h1
   have e2:=ih.ll l p'.1 p'.2 d p tO h2
   omega
  ·change psLl s (ps s n) l nd a d = some p at h
   unfold psLl at h
   split at h
   ·cases h; exact ⟨zMh _,ha⟩
   ·rename_i op e ho
    have he:=zC2 ho
    split at h
    ·cases h; exact ⟨zMh _,ha⟩
    ·rw [zNH] at h
     obtain ⟨p',h1,h2⟩:=h
     have e1:=ih.loose _ e d p' tO h1
     have e2:=ih.ll l _ p'.2 d p tO h2
     omega
  ·change zF1 s (ps s n) nm ks a d = some p at h
   unfold zF1 at h
   rw [zNH] at h
   obtain ⟨p',h1,h2⟩:=h
   have e1:=zHl ih a d p' ha h1
   have ht:=zBr s p'.2
   split at h2
   ·rename_i e hk
    rw [hk] at ht
    simp only [Tok.endsBy] at ht
    have:=ih.args _ _ e d p tO h2
    omega
   ·rename_i e hk
    rw [hk] at ht
    simp only [Tok.endsBy] at ht
    cases h2
    exact ⟨by show a < e; omega,ht.2⟩
   ·cases h2
end Go.AM
set_option maxRecDepth 20000
namespace Go.AM
structure Agree (s : Bs) (q r : Ps) (K : Nat) : Prop where
 one : ∀ a d,a ≤ s.length → 4 * (s.length - a) + 1 ≤ K → q.one a d = r.one a d
 loose : ∀ l a d,a ≤ s.length → 4 * (s.length - a) + 2 ≤ K → q.loose l a d = r.loose l a d
 ll : ∀ l n a d,a ≤ s.length → 4 * (s.length - a) + 1 ≤ K → q.ll l n a d = r.ll l n a d
 args : ∀ nm ks a d,a ≤ s.length → 4 * (s.length - a) + 3 ≤ K → q.args nm ks a d = r.args nm ks a d
theorem zDF {α β : Type} {x y : Option α} {f g : α → Option β} (h : x = y) (hf : ∀ p,y = some p → f p = g p) : x.bind f = y.bind g:=by
 subst h
 cases x with
 | none=>rfl
 | some p=>exact hf p rfl
theorem zMP {s : Bs} {q r : Ps} {K : Nat} (h : Agree s q r K) {a : Nat} (d : Nat) (ha : a ≤ s.length) (hK : 4 * (s.length - a) + 1 ≤ K + 1) : zCD s q a d = zCD s r a d:=by
 have ht:=zBr s a
 unfold zCD
 cases hk : tok s a with
 | word e t=>
  rw [hk] at ht
  simp only [Tok.endsBy] at ht
  simp only
  split
  ·rename_i hc
   have he:=(zg hc.2).1
   split
   ·rfl
   ·rw [h.args t [] (e + 1) (d + 1) tO tO]
  ·rfl
 | sign e t=>
  rw [hk] at ht
  simp only [Tok.endsBy] at ht
  have e1:=h.one e (d + 1) tO tO
  have e2:=h.loose 1 e (d + 1) tO tO
  by_cases h1 : t = [45]
  ·subst h1; simp only [e1]
  ·by_cases h2 : t = [40]
   ·subst h2; simp only [e2]
   ·split <;> first | rfl | (rename_i heq; cases heq <;> first | exact absurd rfl h1 | exact absurd rfl h2)
 | _=>rfl
theorem psLl_congr {s : Bs} {q r : Ps} {K : Nat} (h : Agree s q r K) (hr : Ends s r) (l : Nat) (n : Nd) {a : Nat} (d : Nat) (ha : a ≤ s.length) (hK : 4 * (s.length - a) + 1 ≤ K + 1) : psLl s q l n a d = psLl s r l n a d:=by
 unfold psLl
 split
 ·rfl
 ·rename_i op e ho
  have he:=zC2 ho
  split
  ·rfl
  ·refine zDF (h.loose _ e d tO tO) fun p hp=>?_
   have:=hr.loose _ e d p tO hp
   exact h.ll _ _ _ _ tO tO
theorem zKa {s : Bs} {q r : Ps} {K : Nat} (h : Agree s q r K) (hr : Ends s r) (nm : Bs) (ks : List Nd) {a : Nat} (d : Nat) (ha : a ≤ s.length) (hK : 4 * (s.length - a) + 3 ≤ K + 1) : zF1 s q nm ks a d = zF1 s r nm ks a d:=by
 unfold zF1
 have e1 : zEj s q a d = zEj s r a d:=by
  unfold zEj
  split
  ·rfl
  ·exact h.loose _ _ _ ha tO
 refine zDF e1 fun p hp=>?_
 have h1:=zHl hr a d p ha hp
 have ht:=zBr s p.2
 split
 ·rename_i e hk
  rw [hk] at ht
  simp only [Tok.endsBy] at ht
  exact h.args _ _ _ _ tO tO
 ·rfl
 ·rfl
theorem zJY {s : Bs} {q r : Ps} {K : Nat} (h : Agree s q r K) (hr : Ends s r) (l : Nat) {a : Nat} (d : Nat) (ha : a ≤ s.length) (hK : 4 * (s.length - a) + 2 ≤ K + 1) : zEC q l a d = zEC r l a d:=by
 unfold zEC
 refine zDF (h.one a d ha tO) fun p hp=>?_
 have:=hr.one a d p ha hp
 exact h.ll _ _ _ _ tO tO
theorem ps_agree (s : Bs) : ∀ K N M,K ≤ N → K ≤ M → Agree s (ps s N) (ps s M) K
 | 0,_,_,_,_=>⟨fun _ _ _ h=>by omega,fun _ _ _ _ h=>by omega,fun _ _ _ _ _ h=>by omega,fun _ _ _ _ _ h=>by omega⟩
 | K + 1,N,M,hN,hM=>by
  obtain ⟨n,rfl⟩ : ∃ n,N = n + 1:=⟨N - 1,by omega⟩
  obtain ⟨m,rfl⟩ : ∃ m,M = m + 1:=⟨M - 1,by omega⟩
  have ih:=ps_agree s K n m tO tO
  have hr:=ps_ends s m
  exact ⟨fun a d ha h=>zMP ih d ha h,fun l a d ha h=>zJY ih hr l d ha h,fun l nd a d ha h=>psLl_congr ih hr l nd d ha h,fun nm ks a d ha h=>zKa ih hr nm ks d ha h⟩
def fuelP (s : Bs) : Nat:=4 * s.length + 3
def P (s : Bs) : Ps:=ps s (fuelP s + 1)
theorem zCE (s : Bs) : Ends s (P s):=ps_ends s _
theorem P_agree (s : Bs) : Agree s (ps s (fuelP s)) (P s) (fuelP s):=ps_agree s _ _ _ (zMh _) (Nat.le_succ _)
theorem P_one {s : Bs} {a : Nat} (d : Nat) (ha : a ≤ s.length) : (P s).one a d = zCD s (P s) a d:=zMP (P_agree s) d ha (by unfold fuelP; omega)
theorem zIb {s : Bs} {a : Nat} (l d : Nat) (ha : a ≤ s.length) : (P s).loose l a d = zEC (P s) l a d:=zJY (P_agree s) (zCE s) l d ha (by unfold fuelP; omega)
theorem P_ll {s : Bs} {a : Nat} (l : Nat) (n : Nd) (d : Nat) (ha : a ≤ s.length) : (P s).ll l n a d = psLl s (P s) l n a d:=psLl_congr (P_agree s) (zCE s) l n d ha (by unfold fuelP; omega)
theorem zMQ {s : Bs} {a : Nat} (nm : Bs) (ks : List Nd) (d : Nat) (ha : a ≤ s.length) : (P s).args nm ks a d = zF1 s (P s) nm ks a d:=zKa (P_agree s) (zCE s) nm ks d ha (by unfold fuelP; omega)
def zEG (s : Bs) : Option Nd:=
 if s.length ≤ 200 ∧ s.head? = some 61 then ((P s).loose 1 1 0).bind fun p=>match tok s p.2 with
  | .fin=>some p.1
  | _=>none
 else none
theorem zMR (s : Bs) (a : Nat) : zIg s (skip s a) = zIg s a:=by unfold zIg; rw [zJX]
theorem one_skip {s : Bs} {a : Nat} (d : Nat) (ha : a ≤ s.length) : (P s).one (skip s a) d = (P s).one a d:=by
 rw [P_one d (zBo ha),P_one d ha]; unfold zCD; rw [zJX]
theorem loose_skip {s : Bs} {a : Nat} (l d : Nat) (ha : a ≤ s.length) : (P s).loose l (skip s a) d = (P s).loose l a d:=by
 rw [zIb l d (zBo ha),zIb l d ha]; unfold zEC; rw [one_skip d ha]
def bl (s : Bs) (r : Option (Nd × Nat)) : Option (Nd × Nat):=r.map fun p=>(p.1,skip s p.2)
theorem ll_skip {s : Bs} {a : Nat} (l : Nat) (n : Nd) (d : Nat) (ha : a ≤ s.length) : bl s ((P s).ll l n (skip s a) d) = bl s ((P s).ll l n a d):=by
 rw [P_ll l n d (zBo ha),P_ll l n d ha]; unfold psLl; rw [zMR]
 split
 ·simp only [bl,zMv,zEh]
 ·split
  ·simp only [bl,zMv,zEh]
  ·rfl
theorem ll_split {s : Bs} (l d : Nat) : ∀ (k : Nat) (n : Nd) (a : Nat),a ≤ s.length → s.length - a ≤ k → (P s).ll l n a d = ((P s).ll (l + 1) n a d).bind fun p=>(P s).ll l p.1 p.2 d:=by
 intro k
 induction k with
 | zero=>
  intro n a ha hk
  have h0 : zIg s a = none:=by
   cases h : zIg s a with
   | none=>rfl
   | some p=>obtain ⟨op,e⟩:=p; have:=zC2 h; omega
  have h1 : (P s).ll (l + 1) n a d = some (n,a):=by rw [P_ll _ n d ha]; unfold psLl; rw [h0]
  rw [h1]; rfl
 | succ k ih=>
  intro n a ha hk
  cases h : zIg s a with
  | none=>
   have h1 : (P s).ll (l + 1) n a d = some (n,a):=by rw [P_ll _ n d ha]; unfold psLl; rw [h]
   rw [h1]; rfl
  | some p=>
   obtain ⟨op,e⟩:=p
   have he:=zC2 h
   by_cases ht : tight op < l + 1
   ·have h1 : (P s).ll (l + 1) n a d = some (n,a):=by rw [P_ll _ n d ha]; unfold psLl; rw [h]; simp only; rw [zMg ht]
    rw [h1]; rfl
   ·have h1 : ∀ l',l' ≤ l + 1 → (P s).ll l' n a d = ((P s).loose (tight op + 1) e d).bind fun p=>(P s).ll l' (zHY op n p.1) p.2 d:=fun l' hl=>by
     rw [P_ll _ n d ha]; unfold psLl; rw [h]; simp only; rw [zMe tO]
    rw [h1 l tO,h1 (l + 1) (zMh _),Option.bind_assoc]
    refine zDF rfl fun p hp=>?_
    have:=(zCE s).loose _ e d p tO hp
    exact ih _ _ tO tO
theorem ll_exit {s : Bs} (l d : Nat) : ∀ (k : Nat) (n : Nd) (a : Nat) (p : Nd × Nat),a ≤ s.length → s.length - a ≤ k → (P s).ll l n a d = some p → ∀ op e,zIg s p.2 = some (op,e) → tight op < l:=by
 intro k
 induction k with
 | zero=>
  intro n a p ha hk h op e ho
  have:=(zCE s).ll _ _ _ _ p ha h
  have:=zC2 ho
  omega
 | succ k ih=>
  intro n a p ha hk h op e ho
  rw [P_ll _ n d ha] at h
  unfold psLl at h
  split at h
  ·rename_i h0
   cases h
   rw [h0] at ho; cases ho
  ·rename_i op' e' h0
   have he:=zC2 h0
   split at h
   ·rename_i ht
    cases h
    rw [h0] at ho; cases ho; exact ht
   ·rw [zNH] at h
    obtain ⟨p',h1,h2⟩:=h
    have:=(zCE s).loose _ e' d p' tO h1
    exact ih _ _ p tO tO h2 op e ho
theorem loose_split {s : Bs} {a : Nat} (l d : Nat) (ha : a ≤ s.length) : (P s).loose l a d = ((P s).loose (l + 1) a d).bind fun p=>(P s).ll l p.1 p.2 d:=by
 rw [zIb l d ha,zIb (l + 1) d ha]
 unfold zEC
 rw [Option.bind_assoc]
 refine zDF rfl fun p hp=>?_
 have:=(zCE s).one a d p ha hp
 exact ll_split l d _ _ _ this.2 (zMh _)
theorem loose_exit {s : Bs} {a : Nat} (l d : Nat) (ha : a ≤ s.length) {p : Nd × Nat} (h : (P s).loose l a d = some p) : ∀ op e,zIg s p.2 = some (op,e) → tight op < l:=by
 rw [zIb l d ha] at h
 unfold zEC at h
 rw [zNH] at h
 obtain ⟨p',h1,h2⟩:=h
 have:=(zCE s).one a d p' ha h1
 exact ll_exit l d _ _ _ p this.2 (zMh _) h2
theorem tight_le (op : Nat) : 1 ≤ tight op ∧ tight op ≤ 4:=by unfold tight; split; omega; split; omega; split <;> omega
theorem loose_top {s : Bs} {a : Nat} (d : Nat) (ha : a ≤ s.length) : (P s).loose 5 a d = (P s).one a d:=by
 rw [zIb 5 d ha]
 unfold zEC
 cases h : (P s).one a d with
 | none=>rfl
 | some p=>
  have:=(zCE s).one a d p ha h
  show (P s).ll 5 p.1 p.2 d = some p
  rw [P_ll _ _ d this.2]
  unfold psLl
  split
  ·rfl
  ·rename_i op e ho
   rw [zMg (by have:=(tight_le op).2; omega)]
end Go.AM
namespace Go.AM
def Wk (x x' : AV) : Prop:=∀ (w : World) (M : AMap) (I : Nat → Prop) (n : Nat) (v : Value),Rel w M I n x v → Rel w M I n x' v
theorem Wk.refl (x : AV) : Wk x x:=fun _ _ _ _ _ h=>h
theorem Wk.undef (x : AV) : Wk x .undef:=fun _ _ _ _ _ _=>.undef _
theorem Wk.iface {t : TypeId} {x x' : AV} (h : Wk x x') : Wk (.iface t x) (.iface t x'):=fun w M I n v hr=>by
 cases hr with
 | iface _ _ u hu=>exact .iface t x' u (h w M I n u hu)
def WkL (cs cs' : List AV) : Prop:=cs'.length = cs.length ∧ ∀ (j : Nat) (c c' : AV),cs[j]? = some c → cs'[j]? = some c' → Wk c c'
theorem WkL.refl (cs : List AV) : WkL cs cs:=⟨rfl,fun j c c' h h'=>by rw [h] at h'; cases h'; exact .refl c⟩
theorem WkL.nil : WkL [] []:=.refl []
theorem WkL.cons {x x' : AV} {cs cs' : List AV} (h : Wk x x') (k : WkL cs cs') : WkL (x :: cs) (x' :: cs'):=by
 refine ⟨by simp [k.1],fun j c c' hc hc'=>?_⟩
 cases j with
 | zero=>simp at hc hc'; subst hc hc'; exact h
 | succ j=>exact k.2 j c c' (by simpa using hc) (by simpa using hc')
theorem Wk.agg {cs cs' : List AV} (h : WkL cs cs') : Wk (.agg cs) (.agg cs'):=fun w M I n v hr=>by
 cases hr with
 | agg _ vs hl hv=>
  refine .agg cs' vs (by rw [h.1,hl]) fun i c u hc hu=>?_
  have hi:=(zg hc).1
  have hi2 : i < cs.length:=by rw [← h.1]; exact hi
  exact h.2 i _ c (zMf hi2) hc w M I n u (hv i _ u (zMf hi2) hu)
section
variable {GT : Nat → Option AV} {w w0 : World} {M M0 : AMap} {I I0 : Nat → Prop} {H H0 : Heap} {b : Nat} {cs cs' : List AV}
theorem mut_weak (hb : H[b]? = some (.box cs)) {c : Nat} {x : ABlk} (h : (H.set b (.box cs'))[c]? = some x) (hm : x.mut = true) : ∃ y,H[c]? = some y ∧ y.mut = true:=by
 by_cases e : b = c
 ·subst e; exact ⟨_,hb,rfl⟩
 ·rw [zM4 e] at h; exact ⟨x,h,hm⟩
theorem Sim.weak (h : Sim GT w M I H) (hb : H[b]? = some (.box cs)) (hk : WkL cs cs') : Sim GT w M I (H.set b (.box cs')):=by
 refine ⟨h.glob,h.idom,fun c x hc=>?_,fun c c' x x' g o o' h1 m1 h2 m2 e1 e2=>?_,h.shp⟩
 ·rw [zMs]
  by_cases e : b = c
  ·subst e
   rw [zMz (zg hb).1] at hc
   cases hc
   obtain ⟨g,o,cur,h1,h2,h3,h4,h5⟩:=h.blk b _ hb
   refine ⟨g,o,cur,h1,h2,h3,by rw [hk.1]; exact h4,fun j c hj=>?_⟩
   have hi : j < cs.length:=by rw [← hk.1]; exact (zg hj).1
   obtain ⟨v,hv,hr⟩:=h5 j _ (zMf hi)
   exact ⟨v,hv,hk.2 j _ c (zMf hi) hj _ _ _ _ _ hr⟩
  ·rw [zM4 e] at hc
   exact h.blk c x hc
 ·obtain ⟨y,h3,m3⟩:=mut_weak hb h1 m1
  obtain ⟨y',h4,m4⟩:=mut_weak hb h2 m2
  exact h.inj c c' y y' g o o' h3 m3 h4 m4 e1 e2
theorem Grow.weak (h : Grow w0 M0 I0 H0 w M I H) (hb : H[b]? = some (.box cs)) : Grow w0 M0 I0 H0 w M I (H.set b (.box cs')):=
 ⟨h.os,h.tape,h.output,h.size,h.map,h.imm,h.imm',h.frame,fun k hk ⟨c,x,o,h1,h2,h3⟩=>by
  obtain ⟨y,h4,m4⟩:=mut_weak hb h1 h2
  exact h.live k hk ⟨c,y,o,h4,m4,h3⟩,h.shape,by rw [zMs]; exact h.len⟩
end
theorem zP {b : Bool} {A B : Prop} (h : b = true) (a : A) : condP b A B:=by subst h; exact zH a
theorem zO {b : Bool} {A B : Prop} (h : b = false) (a : B) : condP b A B:=by subst h; exact zG a
theorem set_atL {H : Heap} {b : Nat} {x : ABlk} (h : b < H.length) : (H.set b x)[b]? = some x:=zMz h
theorem hP {P : Prop} (h : P:=by (repeat' (first | assumption | exact zD | exact set_atL tC | refine zC ?_ | refine zA tA ?_)); done) : P:=h
theorem zLH {H : Heap} {b : Nat} {B : ABlk} (h : H[b]? = some B) : H.set b B = H:=by
 apply zOo
 intro c
 by_cases e : b = c
 ·subst e; rw [zMz (zg h).1,h]
 ·rw [zM4 e]
theorem zR {F : AF} {a s t : Nat} {ag : Bool} {H H1 : Heap} {fr : Fr} {v v1 : AV} {cs : List AV} {o : Nat} (hF : F.results = [.cell a s ag,.tmp t]) (hk : F.keep = false) (hp : zAC H1 (getF fr a) = some (cs,o)) (hpt : part cs o s ag = some v) (ht : getF fr t = v1)
  (hf : zDR H.length (.tup [v,v1]) H1 = some (.tup [v,v1],H1)) (hb : (AV.tup [v,v1]).bel H.length = true) (ho : Old H H1) : retP F H fr H1 (.tup [v,v1]) H:=by
 refine zBO hk ?_ hf hb ho
 rw [zGF] at hp ht
 simp only [hF,zBa,zLN,hp,hpt,ht,zMv]
 rfl
theorem sLoadG {GT : Nat → Option AV} {fr : Fr} {g : Nat} {x : AV} {H : Heap} {s : Nat} {ag : Bool} {K : AV → Prop} (r : AV) (h : GT g = some x) (hr : part x.cells 0 s ag = some r) (k : K r) : loadN s ag (evF GT fr (.glob g)) H K:=by
 have e : evF GT fr (.glob g) = .lref x 0:=by simp only [evF,h]
 rw [e]; exact zk r hr k
structure OldB (H : Heap) (b : Nat) (B : ABlk) (H1 : Heap) : Prop where
 lt : b < H.length
 old : Old (H.set b B) H1
theorem OldB.start {H : Heap} {b : Nat} {B : ABlk} (h : H[b]? = some B) : OldB H b B H:=by
 obtain ⟨h1,h2⟩:=zg h
 refine ⟨h1,by rw [zMs]; exact zMh _,fun c _=>?_⟩
 by_cases e : b = c
 ·subst e; rw [zMz h1]; exact h
 ·rw [zM4 e]
theorem OldB.push {H H1 : Heap} {b : Nat} {B : ABlk} (h : OldB H b B H1) (x : List ABlk) : OldB H b B (H1 ++ x):=⟨h.lt,h.old.push x⟩
theorem OldB.set {H H1 : Heap} {b : Nat} {B : ABlk} (h : OldB H b B H1) {c : Nat} (hc : H.length ≤ c) (x : ABlk) : OldB H b B (H1.set c x):=⟨h.lt,h.old.set (by rw [zMs]; exact hc) x⟩
theorem OldB.setB {H H1 : Heap} {b : Nat} {B : ABlk} (h : OldB H b B H1) (B' : ABlk) : OldB H b B' (H1.set b B'):=by
 have hl:=h.old.1
 rw [zMs] at hl
 refine ⟨h.lt,by rw [zMs,zMs]; exact hl,fun c hc=>?_⟩
 rw [zMs] at hc
 by_cases e : b = c
 ·subst e; rw [zMz h.lt,zMz (by have:=h.lt; omega)]
 ·have:=h.old.2 c (by rw [zMs]; exact hc)
  rw [zM4 e] at this
  rw [zM4 e,zM4 e,this]
theorem OldB.ok {H H1 : Heap} {b : Nat} {B : ABlk} (h : OldB H b B H1) (hc : zFZ H.length B = true) : OldOK H H1:=fun c hc'=>by
 have:=h.old.2 c (by rw [zMs]; exact hc')
 by_cases e : b = c
 ·subst e
  rw [zMz hc'] at this
  exact .inr ⟨B,this,hc⟩
 ·rw [zM4 e] at this
  exact .inl this
theorem OldB.take {H H1 : Heap} {b : Nat} {B : ABlk} (h : OldB H b B H1) : H1.take H.length = H.set b B:=by
 have:=h.old.take
 rwa [zMs] at this
structure retR (F : AF) (H : Heap) (fr : Fr) (H1 : Heap) (b : Nat) (r : Option (AV × ABlk)) : Prop where
 h : ∃ v B,r = some (v,B) ∧ zGn F H fr H1 v (H.set b B)
structure panR (F : AF) (H : Heap) (b : Nat) (cs' : List AV) (x' : AV) (r : Option (AV × ABlk)) (x0 : AV) (H1 : Heap) : Prop where
 h : r = none ∧ ∃ x cs,panF F H x0 H1 x (H.set b (.box cs)) ∧ b < H.length ∧ WkL cs cs' ∧ Wk x x'
def zH5 (F : AF) (H : Heap) (b : Nat) (cs' : List AV) (x' : AV) (r : Option (AV × ABlk)) : Post:=fun e fr H1=>match e with
 | .normal=>retR F H fr H1 b r
 | .ret=>retR F H fr H1 b r
 | .pan x0=>panR F H b cs' x' r x0 H1
 | _=>False
def zCA (C : CSpec) (GT : Nat → Option AV) (F : AF) (args : List AV) (H : Heap) (b : Nat) (cs' : List AV) (x' : AV) (r : Option (AV × ABlk)) : Prop:=EW C GT F.body (zH5 F H b cs' x' r) (zFa 0 args) H
theorem zAE {C : CSpec} {GT : Nat → Option AV} {F : AF} {args : List AV} {H : Heap} {b : Nat} {cs' : List AV} {x' : AV} {r : Option (AV × ABlk)} (h : EW C GT F.body (zH5 F H b cs' x' r) (zFa 0 args) H) : zCA C GT F args H b cs' x' r:=h
theorem zF2 {F : AF} {H H1 H2 : Heap} {fr : Fr} {b : Nat} {r : Option (AV × ABlk)} (v0 : AV) {v : AV} {B : ABlk} (hr : r = some (v,B)) (hk : F.keep = false) (hs : (zBa fr H1 F.results).map tupled = some v0) (hf : zDR H.length v0 H1 = some (v,H2))
  (hb : v.bel H.length = true) (ho : OldB H b B H2) (hc : zFZ H.length B = true) : retR F H fr H1 b r:=by
 refine ⟨v,B,hr, ?_⟩
 unfold zGn
 cases hs' : zBa fr H1 F.results with
 | none=>rw [hs'] at hs; cases hs
 | some vs=>
  rw [hs'] at hs
  simp only [zMv,zMc] at hs
  subst hs
  simp only [hk,hf,zMm,zNB]
  exact ⟨hb,ho.ok hc,trivial,ho.take.symm⟩
theorem z8 {F : AF} {a s : Nat} {ag : Bool} {H H1 H2 : Heap} {fr : Fr} {b : Nat} {r : Option (AV × ABlk)} (v0 : AV) {v : AV} {B : ABlk} (hr : r = some (v,B)) (hF : F.results = [.cell a s ag]) (hk : F.keep = false) {cs : List AV} {o : Nat} (hp : zAC H1 (getF fr a) = some (cs,o)) (hpt : part cs o s ag = some v0)
  (hf : zDR H.length v0 H1 = some (v,H2)) (hb : v.bel H.length = true) (ho : OldB H b B H2) (hc : zFZ H.length B = true) : retR F H fr H1 b r:=by
 refine zF2 v0 hr hk ?_ hf hb ho hc
 rw [zGF] at hp
 simp only [hF,zBa,zLN,hp,hpt,zMv]
 rfl
theorem zB1 {F : AF} {H H1 : Heap} {b : Nat} {cs cs' : List AV} {x x' : AV} {r : Option (AV × ABlk)} (hr : r = none) (hk : F.keep = false) (hf : zDR H.length x H1 = some (x,H1)) (hb : x.bel H.length = true) (ho : OldB H b (.box cs) H1) (hc : zFZ H.length (.box cs) = true)
  (hw : WkL cs cs') (hx : Wk x x') : panR F H b cs' x' r x H1:=by
 refine ⟨hr,x,cs, ?_,ho.lt,hw,hx⟩
 unfold panF
 simp only [hk,hf,zMm,zNB]
 exact ⟨hb,ho.ok hc,trivial,ho.take.symm⟩
theorem zAc {P : Program} {GT : Nat → Option AV} (hm : P.follows .mixedOrders = true) {f : FuncId} {F : AF} (hc : zAH P f F = true) {args : List AV} {H : Heap} {b : Nat} {cs' : List AV} {x' : AV} {r : Option (AV × ABlk)} (h : zCA (Good P GT) GT F args H b cs' x' r) (hn : zHr args = true:=by rfl) :
  (∀ v B,r = some (v,B) → Good P GT f args H v (H.set b B)) ∧ (r = none → Good P GT f (.pan .undef :: args) H x' (H.set b (.box cs'))):=by
 constructor
 ·intro v B hr
  subst hr
  refine zLi hm hc ?_ hn
  unfold AFun
  refine zEz _ _ _ _ _ H rfl (fun e f f' H1 hf h=>?_) h
  have : retR F H f H1 b (some (v,B)) → zGn F H f' H1 v (H.set b B):=fun ⟨v',B',e,h⟩=>by
   cases e
   unfold zGn at h ⊢
   rw [← zE0 hf]; exact h
  cases e with
  | normal=>exact this h
  | ret=>exact this h
  | pan x=>exact absurd h.h.1 (by simp)
  | _=>exact h
 ·intro hr
  subst hr
  have h1 : AW (Good P GT) GT F.body (fun e fr H1=>match e with
    | .pan x0=>panR F H b cs' x' none x0 H1
    | _=>False) (zFa 0 args) H:=by
   refine zEz _ _ _ _ _ H rfl (fun e f f' H1 hf h=>?_) h
   have : retR F H f H1 b none → False:=fun ⟨v',B',e,h⟩=>by cases e
   cases e with
   | normal=>exact this h
   | ret=>exact this h
   | pan x=>exact h
   | _=>exact h
  unfold zAH at hc
  split at hc
  case h_2=>cases hc
  rename_i fn hfn
  simp only [zMd,zNV] at hc
  obtain ⟨hname,hc⟩:=hc
  split at hc
  case h_2=>cases hc
  rename_i c hbody
  simp only [zMd] at hc
  show GoodP P GT f args H x' (H.set b (.box cs'))
  intro w M I cargs hS hA
  have h2 : fn.name ≠ "runtime.NumGoroutine" := by simpa using hname
  have hrun : (callFunc f cargs.toArray).run P w = .ok (.enter f cargs.toArray) w:=by simp [callFunc,hfn,h2,hbody]
  rw [hrun]
  refine calls_of_wp hfn hbody ?_; refine zIu hm F.body c _ _ w M I H (zFa 0 args) _ hc.1 hS (zIv hS hA) h1 ?_
  intro e E fr' H1 a' w' M' I' hG hS' hF' hE hK
  cases e with
  | pan x0=>
   obtain ⟨xv,rfl,hr⟩:=hE
   obtain ⟨_,x,cs,hp,hlt,hw,hx⟩:=hK.h
   obtain ⟨I2,h3,h4,h5⟩:=panF_sound hS hG hS' hr hp
   have hbk : (H.set b (.box cs))[b]? = some (.box cs):=zMz hlt
   have h6:=h4.weak hbk hw
   have h7:=h3.weak (cs':=cs') hbk
   rw [zOJ] at h6 h7
   refine ⟨hF'.defers,xv,rfl,M',I2,h7,h6, ?_⟩
   rw [zMs] at h5 ⊢
   exact hx _ _ _ _ _ h5
  | _=>exact hK.elim
end Go.AM
set_option maxRecDepth 20000
namespace Go.AM
abbrev rdB (s : Bs) (p d : Nat) : ABlk:=.box [.str s,zJ p,zJ d]
abbrev pR (b : Nat) : AV:=.ref b 0 0 0
abbrev wkC (s : Bs) : List AV:=[.str s,.undef,.undef]
abbrev byV (c : UInt8) : AV:=.int .u8 c.toNat
def zFB : AV:=.iface zDd (.agg [.sca,.iface zT .undef])
theorem wkSca (k : IntKind) (n : Int) : Wk (.int k n) .sca:=fun _ _ _ _ _ h=>by cases h; exact .sca _ rfl
theorem zGA (s : Bs) (p d : Nat) : WkL [.str s,zJ p,zJ d] (wkC s):=.cons (.refl _) (.cons (.undef _) (.cons (.undef _) .nil))
theorem zB2 (a : Int) (y : AV) : Wk (.iface zDd (.agg [.int .i64 a,.iface zT y])) zFB:=.iface (.agg (.cons (wkSca _ _) (.cons (.iface (.undef _)) .nil)))
theorem zC3 (s : Bs) (a b : Nat) (h : a ≤ b) (hb : b ≤ s.length) : zAy none (.str s) (some (.int .i64 (a : Int))) (some (.int .i64 (b : Int))) = some (.str (sub s a b)):=by
 simp only [zAy,zDA,aHi,aLo]
 have h1 : ¬ ((a : Int) < 0):=by omega
 have h2 : ¬ ((b : Int) < 0):=by omega
 have e1 : (a : Int).toNat = a:=zNt a
 have e2 : (b : Int).toNat = b:=zNt b
 simp [h1,h2,e1,e2,h,hb,sub,List.drop_take]
theorem zC9 (s : Bs) (a : Nat) (h : a ≤ s.length) : zAy none (.str s) (some (.int .i64 (a : Int))) none = some (.str (s.drop a)):=by
 simp only [zAy,zDA,aHi,aLo]
 have h1 : ¬ ((a : Int) < 0):=by omega
 have e1 : (a : Int).toNat = a:=zNt a
 simp [h1,e1,h]
theorem slice_up (s : Bs) (b : Nat) (hb : b ≤ s.length) : zAy none (.str s) none (some (.int .i64 (b : Int))) = some (.str (s.take b)):=by
 simp only [zAy,zDA,aHi,aLo]
 have h2 : ¬ ((b : Int) < 0):=by omega
 have e2 : (b : Int).toNat = b:=zNt b
 simp [h2,e2,hb]
section
variable {C : CSpec} {GT : Nat → Option AV}
theorem fwordly_ev (c : UInt8) (H : Heap) : EFun C GT zC8 [byV c] H (.bool (z6 c)) H:=by
 obtain ⟨r,hr⟩ : ∃ r,z6 c = r:=⟨_,rfl⟩
 rw [hr]
 unfold z6 at hr
 have hc : c.toNat < 256:=zNu c
 change EFun C GT zC8 [.int .u8 (c.toNat : Int)] H (.bool r) H
 generalize c.toNat = n at *
 refine zc ?_
 by_cases h365 : n = 36
 ·have : r = true:=by rw [← hr]; simp; omega
  subst this
  refine zP tT <| zH <| zH <| zH <| zH <| zH ?_
  exact sRr
 by_cases h618 : n < 48
 ·have : r = false:=by rw [← hr]; simp; omega
  subst this
  refine zO tF <| zO tF <| zG <| zG <| zG <| zO tF <| zG <| zG ?_; refine zG <| zO tF <| zG <| zG ?_
  exact sRr
 by_cases h872 : n ≤ 57
 ·have : r = true:=by rw [← hr]; simp; omega
  subst this
  refine zO tF <| zP tT <| zH <| zG <| zP tT <| zH <| zH <| zH ?_
  exact sRr
 by_cases h1125 : n < 65
 ·have : r = false:=by rw [← hr]; simp; omega
  subst this
  refine zO tF <| zP tT <| zH <| zG <| zO tF <| zO tF <| zG <| zG ?_; refine zG <| zO tF <| zG <| zG ?_
  exact sRr
 by_cases h1380 : n ≤ 90
 ·have : r = true:=by rw [← hr]; simp; omega
  subst this
  refine zO tF <| zP tT <| zH <| zG <| zO tF <| zP tT <| zH <| zG ?_; refine zP tT <| zH ?_
  exact sRr
 by_cases h1634 : n < 97
 ·have : r = false:=by rw [← hr]; simp; omega
  subst this
  refine zO tF <| zP tT <| zH <| zG <| zO tF <| zP tT <| zH <| zG ?_; refine zO tF <| zO tF <| zG <| zG ?_
  exact sRr
 by_cases h1889 : n ≤ 122
 ·have : r = true:=by rw [← hr]; simp; omega
  subst this
  refine zO tF <| zP tT <| zH <| zG <| zO tF <| zP tT <| zH <| zG ?_; refine zO tF <| zP tT <| zH <| zG ?_
  exact sRetE (v0:=.bool (decide ((n : Int) ≤ 122))) (zM1 AV.bool (tT).symm) rfl rfl rfl rfl (Old.refl _)
 ·have : r = false:=by rw [← hr]; simp; omega
  subst this
  refine zO tF <| zP tT <| zH <| zG <| zO tF <| zP tT <| zH <| zG ?_; refine zO tF <| zP tT <| zH <| zG ?_
  exact sRetE (v0:=.bool (decide ((n : Int) ≤ 122))) (zM1 AV.bool (tF).symm) rfl rfl rfl rfl (Old.refl _)
theorem ffail_ev (b : Nat) (s : Bs) (p d : Nat) (a : Int) (e : Int) (H : Heap) (hb : H[b]? = some (rdB s p d)) : zCA C GT zCK [pR b,.int .i64 a,zFX e] H b (wkC s) zFB none:=by
 refine zAE ?_; refine zS (v:=[.int .i64 a,zFX e]) rfl ?_
 exact zB1 (by first | rfl | assumption) rfl rfl rfl (OldB.start hb) rfl (by first | exact WkL.refl _ | exact zGA _ _ _) (by first | exact Wk.refl _ | exact zB2 _ _)
theorem blanks_ev (b : Nat) (s : Bs) (p d : Nat) (H : Heap) (hb : H[b]? = some (rdB s p d)) (hp : p ≤ s.length) (hl : s.length ≤ 200) :
  zCA C GT zBv [pR b] H b (wkC s) zFB (some (.tup [],rdB s (skip s p) d)):=by
 obtain ⟨q,hq⟩ : ∃ q,skip s p = q:=⟨_,rfl⟩
 rw [hq]
 refine zAE ?_; refine zBB (fun k : Nat=>[(0,pR b)]) (fun k H'=>H' = H.set b (rdB s k d) ∧ k ≤ s.length ∧ skip s k = q) (fun k=>s.length - k) p rfl ⟨(zLH hb).symm,hp,hq⟩ (fun k H1 ⟨e,hk,hs⟩=>?_)
 subst e
 by_cases hlt : k < s.length
 ·obtain ⟨c,hc⟩ : ∃ c,s[k]? = some c:=⟨_,zMf hlt⟩
  refine zB (zJ k) (zE hb) rfl <| zB (AV.str s) (zE hb) rfl <| zP tT <| zB (AV.str s) (zE hb) rfl <| zB (zJ k) (zE hb) rfl <| zn rfl hc ?_; refine zH ?_
  by_cases h32 : c = 32
  ·subst h32
   rw [zJ6 hc] at hs
   refine zH <| zB (zJ k) (zE hb) rfl <| zM (r:=k + 1) rfl tO <| zF (v:=.int .i64 ↑(k + 1)) [AV.str s,.int .i64 ↑(k + 1),zJ d] (zE hb) rfl rfl rfl rfl ?_
   exact zAA (k + 1) rfl ⟨zOJ ..,by omega,hs⟩ tO
  ·rw [zDl (by rw [hc]; intro h; exact h32 (zM5 h))] at hs
   subst hs
   have h33 : c.toNat ≠ 32:=fun h=>h32 (zM0.1 h)
   refine zO tN ?_
   exact zF2 _ (by first | rfl | assumption) rfl rfl rfl rfl ((OldB.start hb).setB _) rfl
 ·rw [zDl (by rw [zNY tO]; simp)] at hs
  subst hs
  refine zB (zJ k) (zE hb) rfl <| zB (AV.str s) (zE hb) rfl <| zO tF <| zG <| zG ?_
  exact zF2 _ (by first | rfl | assumption) rfl rfl rfl rfl ((OldB.start hb).setB _) rfl
theorem word_ev (hW : ∀ c H,C zAU [byV c] H (.bool (z6 c)) H) (b : Nat) (s : Bs) (p d : Nat) (H : Heap) (hb : H[b]? = some (rdB s p d)) (hp : p ≤ s.length) (hl : s.length ≤ 200) :
  zCA C GT zCN [pR b] H b (wkC s) zFB (some (.str (sub s p (zCJ s p)),rdB s (zCJ s p) d)):=by
 obtain ⟨q,hq⟩ : ∃ q,zCJ s p = q:=⟨_,rfl⟩
 have hpq:=zJ7 s p
 have hql:=zHX hp
 rw [hq] at hpq hql ⊢
 refine zAE ?_; refine zB (zJ p) hb rfl ?_; refine zBB (fun k : Nat=>[(0,pR b),(3,zJ p)]) (fun k H'=>H' = H.set b (rdB s k d) ∧ k ≤ s.length ∧ zCJ s k = q) (fun k=>s.length - k) p rfl ⟨(zLH hb).symm,hp,hq⟩ (fun k H1 ⟨e,hk,hs⟩=>?_)
 subst e
 dsimp only
 by_cases hlt : k < s.length
 ·obtain ⟨c,hc⟩ : ∃ c,s[k]? = some c:=⟨_,zMf hlt⟩
  have hw:=hW c
  by_cases hwc : z6 c = true
  ·rw [zFz hc hwc] at hs
   rw [hwc] at hw
   clear hW
   refine zB (zJ k) (zE hb) rfl <| zB (AV.str s) (zE hb) rfl <| zP tT <| zB (AV.str s) (zE hb) rfl <| zB (zJ k) (zE hb) rfl <| zn rfl hc ?_; refine zI (hw _) <| zH <| zH <| zB (zJ k) (zE hb) rfl <| zM (r:=k + 1) rfl tO <| zF (v:=.int .i64 ↑(k + 1)) [AV.str s,.int .i64 ↑(k + 1),zJ d] (zE hb) rfl rfl rfl rfl ?_
   exact zAA (k + 1) rfl ⟨zOJ ..,by omega,hs⟩ tO
  ·have hwc:=zNL.2 hwc
   rw [zF0 (fun c' h=>by rw [hc] at h; cases h; exact hwc)] at hs
   subst hs
   rw [hwc] at hw
   clear hW
   refine zB (zJ k) (zE hb) rfl <| zB (AV.str s) (zE hb) rfl <| zP tT <| zB (AV.str s) (zE hb) rfl <| zB (zJ k) (zE hb) rfl <| zn rfl hc ?_; refine zI (hw _) <| zH <| zG <| zB (AV.str s) (zE hb) rfl <| zB (zJ k) (zE hb) rfl <| zS (v:=.str (sub s p k)) (zC3 s p k tO tO) ?_
   exact zF2 _ (by first | rfl | assumption) rfl rfl rfl rfl ((OldB.start hb).setB _) rfl
 ·rw [zF0 (fun c' h=>by rw [zNY tO] at h; cases h)] at hs
  subst hs
  clear hW
  refine zB (zJ k) (zE hb) rfl <| zB (AV.str s) (zE hb) rfl <| zO tF <| zG <| zG <| zB (AV.str s) (zE hb) rfl ?_; refine zB (zJ k) (zE hb) rfl <| zS (v:=.str (sub s p k)) (zC3 s p k tO tO) ?_
  exact zF2 _ (by first | rfl | assumption) rfl rfl rfl rfl ((OldB.start hb).setB _) rfl
end
end Go.AM
set_option maxRecDepth 20000
namespace Go.AM
def zH6 (g : Nat → Bool) : List AV:=rowF 256 (fB g)
def zG8 (cs : Bs) (i : Nat) : Bool:=cs.any fun c=>c.toNat == i
def zK4 (s cs : Bs) : Bs:=(s.reverse.dropWhile (fun c=>zG8 cs c.toNat)).reverse
def trimS (s cs : Bs) : Bs:=(zK4 s cs).dropWhile (fun c=>zG8 cs c.toNat)
theorem splice_one {cs : List AV} {o : Nat} {v : AV} (h : o < cs.length) : splice cs o [v] = cs.set o v:=by
 unfold splice
 rw [List.set_eq_take_append_cons_drop,zMg h]
 simp
theorem zFC (g : Nat → Bool) : (zH6 g).length = 256:=rowF_len _ _
theorem setV_get {g : Nat → Bool} {i : Nat} (h : i < 256) : (zH6 g)[i]? = some (.bool (g i)):=rowF_get h
theorem setV_step {cs : Bs} {k : Nat} {c : UInt8} (h : cs[k]? = some c) : splice (zH6 (zG8 (cs.take k))) c.toNat [.bool true] = zH6 (zG8 (cs.take (k + 1))):=by
 have hc : c.toNat < 256:=zNu c
 rw [splice_one (by rw [zFC]; exact hc)]
 unfold zH6
 rw [rowF_set]
 refine rowF_congr fun i hi=>?_
 obtain ⟨h1,h2⟩:=zg h
 have e : cs.take (k + 1) = cs.take k ++ [c]:=by rw [zOH h1,h2]
 unfold upd fB zG8
 rw [e,List.any_append]
 by_cases he : i = c.toNat
 ·subst he; simp
 ·rw [zMe he]; simp [zNa he]
theorem off0 {cs cs' : List AV} {n : Nat} {v : List AV} (h : splice cs n v = cs') : splice cs (0 + ((n : Int)).toNat * 1) v = cs':=by
 have e : 0 + ((n : Int)).toNat * 1 = n:=by omega
 rw [e]; exact h
theorem part_all (g : Nat → Bool) : part (zH6 g) 0 256 true = some (.agg (zH6 g)):=by
 simp only [part,zND,zFC,zOs]
 rw [zM7 (by rw [zFC]; exact zMh _)]
 simp
theorem setV_frz (n : Nat) (g : Nat → Bool) (b : Bool) (H : Heap) : zDR n (.tup [.agg (zH6 g),.bool b]) H = some (.tup [.agg (zH6 g),.bool b],H):=by
 have h : ∀ l : List Nat,zIi n (l.map fun i=>AV.bool (g i)) H = some (l.map fun i=>AV.bool (g i),H):=by
  intro l
  induction l with
  | nil=>rfl
  | cons x l ih=>simp only [zMp,zIi,zDR,ih]
 have h2 : zIi n (List.map (fB g) (List.range 256)) H = some (List.map (fB g) (List.range 256),H):=h (List.range 256)
 simp only [zDR,zIi,zH6,rowF,h2]
theorem setV_bel (n : Nat) (g : Nat → Bool) (b : Bool) : (AV.tup [.agg (zH6 g),.bool b]).bel n = true:=by
 have h : AV.belL n (zH6 g) = true:=by
  rw [AV.belL_iff]
  intro c hc
  unfold zH6 rowF fB at hc
  obtain ⟨i,_,rfl⟩:=zM9.1 hc
  rfl
 simp [AV.bel,AV.belL,h]
section
variable {C : CSpec} {GT : Nat → Option AV}
theorem contains_ev (b : Nat) (g : Nat → Bool) (c : UInt8) (H : Heap) (hb : H[b]? = some (.box (zH6 g))) : EFun C GT zA4 [pR b,byV c] H (.bool (g c.toNat)) H:=by
 have hc : c.toNat < 256:=zNu c
 refine zc ?_; refine zGE ⟨by omega,by omega⟩ <| zB (.bool (g c.toNat)) hb (by simpa [part] using setV_get hc) ?_
 exact sRr
theorem mkSet_ev (cs : Bs) (H : Heap) (hcs : ∀ c ∈ cs,c.toNat < 128) (hl : cs.length ≤ 1000) : EFun C GT zCO [.str cs] H (.tup [.agg (zH6 (zG8 cs)),.bool true]) H:=by
 refine zc ?_; refine zBB (fun k : Nat=>[(2,pR H.length),(4,zJ k),(0,.str cs)]) (fun k H'=>H' = H ++ [.box (zH6 (zG8 (cs.take k)))] ∧ k ≤ cs.length) (fun k=>cs.length - k) 0 rfl ⟨rfl,zNX _⟩ (fun k H1 ⟨e,hk⟩=>?_)
 subst e
 by_cases hlt : k < cs.length
 ·obtain ⟨c,hc⟩ : ∃ c,cs[k]? = some c:=⟨_,zMf hlt⟩
  have h128:=hcs c (zM3 hc)
  have hst:=setV_step hc
  refine zP tT <| zn rfl hc <| zO tF <| zGE ⟨by omega,by omega⟩ <| zF (v:=.bool true) (zH6 (zG8 (cs.take (k + 1)))) zD rfl rfl (Nat.ble_eq_true_of_le (by rw [zFC]; omega)) (off0 hst) <| zM (r:=k + 1) rfl tO ?_; refine zAA (k + 1) rfl ⟨?_,by omega⟩ tO
  rw [zOW _ _ (zMh _),Nat.sub_self]; rfl
 ·have : k = cs.length:=by omega
  subst this
  rw [zOz]
  refine zO tF <| zB (.agg (zH6 (zG8 cs))) zD (part_all _) <| zF (v:=.agg (zH6 (zG8 cs))) (zH6 (zG8 cs)) zD (zFC _) rfl rfl (by simp [splice,AV.cells,zFC]) ?_
  exact zR (o:=0) rfl rfl (zL (zE zD)) (part_all _) rfl (setV_frz _ _ _ _) (setV_bel _ _ _) ((Old.push (Old.refl _) _).set (zMh _) _)
theorem trimR_ev (hC : ∀ b g c H,H[b]? = some (.box (zH6 g)) → C zt [pR b,byV c] H (.bool (g c.toNat)) H) (s cs : Bs) (b : Nat) (H : Heap) (hb : H[b]? = some (.box (zH6 (zG8 cs)))) (hl : s.length ≤ 1000) :
  EFun C GT zBz [.str s,pR b] H (.str (zK4 s cs)) H:=by
 obtain ⟨r,hr⟩ : ∃ r,zK4 s cs = r:=⟨_,rfl⟩
 rw [hr]
 refine zc ?_; refine zBB (fun t : Bs=>[(0,.str t),(1,pR b)]) (fun t H'=>H' = H ∧ t.length ≤ 1000 ∧ zK4 t cs = r) (fun t=>t.length) s rfl ⟨rfl,hl,hr⟩ (fun t H1 ⟨e,htl,ht⟩=>?_)
 subst e
 by_cases h0 : t = []
 ·subst h0
  unfold zK4 at ht
  simp only [List.reverse_nil,List.dropWhile_nil] at ht
  subst ht
  refine zO (tF (by simp)) ?_
  exact sRr
 ·obtain ⟨u,c,rfl⟩ : ∃ u c,t = u ++ [c]:=⟨t.dropLast,t.getLast h0,(List.dropLast_concat_getLast h0).symm⟩
  have hlen : (u ++ [c]).length = u.length + 1:=by simp
  have hg : (u ++ [c])[u.length]? = some c:=by simp
  have hcc:=hC b (zG8 cs) c H1 hb
  unfold zK4 at ht
  rw [List.reverse_append,List.reverse_singleton,zOX,zO2] at ht
  by_cases hc : zG8 cs c.toNat = true
  ·rw [zMg hc] at ht
   rw [hc] at hcc
   clear hC
   refine zP tT <| zM (r:=u.length) tO tO <| zn rfl hg <| zI (hcc) <| zG <| zM (r:=u.length) tO tO ?_; refine zS (v:=.str ((u ++ [c]).take u.length)) (slice_up _ _ tO) ?_; refine zAA u ?_ ⟨rfl,by omega,ht⟩ tO
   rw [List.take_left]; rfl
  ·have hc:=zNL.2 hc
   rw [hc] at hcc ht
   simp only [zMm,zNB,List.reverse_cons,List.reverse_reverse] at ht
   subst ht
   clear hC
   refine zP tT <| zM (r:=u.length) tO tO <| zn rfl hg <| zI (hcc) <| zH ?_
   exact sRr
theorem trimL_ev (hC : ∀ b g c H,H[b]? = some (.box (zH6 g)) → C zt [pR b,byV c] H (.bool (g c.toNat)) H) (s cs : Bs) (b : Nat) (H : Heap) (hb : H[b]? = some (.box (zH6 (zG8 cs)))) (hl : s.length ≤ 1000) :
  EFun C GT zB9 [.str s,pR b] H (.str (s.dropWhile fun c=>zG8 cs c.toNat)) H:=by
 obtain ⟨r,hr⟩ : ∃ r,(s.dropWhile fun c=>zG8 cs c.toNat) = r:=⟨_,rfl⟩
 rw [hr]
 refine zc ?_; refine zBB (fun t : Bs=>[(0,.str t),(1,pR b)]) (fun t H'=>H' = H ∧ t.length ≤ 1000 ∧ (t.dropWhile fun c=>zG8 cs c.toNat) = r) (fun t=>t.length) s rfl ⟨rfl,hl,hr⟩ (fun t H1 ⟨e,htl,ht⟩=>?_)
 subst e
 cases t with
 | nil=>
  simp only [List.dropWhile_nil] at ht
  subst ht
  refine zO (tF (by simp)) ?_
  exact sRr
 | cons c u=>
  have hcc:=hC b (zG8 cs) c H1 hb
  rw [zO2] at ht
  have hlen : (c :: u).length = u.length + 1:=zMi
  by_cases hc : zG8 cs c.toNat = true
  ·rw [zMg hc] at ht
   rw [hc] at hcc
   clear hC
   refine zP tT <| zn (i:=0) rfl rfl <| zI (hcc) <| zG <| zS (v:=.str ((c :: u).drop 1)) (zC9 _ 1 tO) ?_
   exact zAA u rfl ⟨rfl,by omega,ht⟩ tO
  ·have hc:=zNL.2 hc
   rw [hc] at hcc ht
   simp only [zMm,zNB] at ht
   subst ht
   clear hC
   refine zP tT <| zn (i:=0) rfl rfl <| zI (hcc) <| zH ?_
   exact sRr
theorem dropW_nil (p : UInt8 → Bool) : ∀ l : Bs,(l.dropWhile p = []) ↔ l.all p = true
 | []=>by simp
 | c :: r=>by
  rw [zO2,zOD]
  by_cases h : p c = true
  ·rw [zMg h,h,zNz]; exact dropW_nil p r
  ·have h:=zNL.2 h
   rw [h]; simp
theorem dropW_all (p : UInt8 → Bool) : ∀ l : Bs,(l.dropWhile p).all p = l.all p
 | []=>rfl
 | c :: r=>by
  rw [zO2]
  by_cases h : p c = true
  ·rw [zMg h,zOD,h,zNz]; exact dropW_all p r
  ·have h:=zNL.2 h
   rw [h]; simp
theorem trim_nil (s cs : Bs) : (trimS s cs = []) ↔ s.all (fun c=>zG8 cs c.toNat) = true:=by
 unfold trimS zK4
 rw [dropW_nil,List.all_reverse,dropW_all,List.all_reverse]
theorem trim_ev' (hM : ∀ cs H,(∀ c ∈ cs,c.toNat < 128) → cs.length ≤ 1000 → C zAx [.str cs] H (.tup [.agg (zH6 (zG8 cs)),.bool true]) H)
  (hR : ∀ s cs b H,H[b]? = some (.box (zH6 (zG8 cs))) → s.length ≤ 1000 → C zAf [.str s,pR b] H (.str (zK4 s cs)) H)
  (hL : ∀ s cs b H,H[b]? = some (.box (zH6 (zG8 cs))) → s.length ≤ 1000 → C zAp [.str s,pR b] H (.str (s.dropWhile fun c=>zG8 cs c.toNat)) H)
  (s cs : Bs) (H : Heap) (hcs : ∀ c ∈ cs,c.toNat < 128) (hc2 : 2 ≤ cs.length) (hcl : cs.length ≤ 1000) (hl : s.length ≤ 1000) : EFun C GT zFS [.str s,.str cs] H (.str (trimS s cs)) H:=by
 refine zc ?_
 have hne : cs ≠ []:=fun e=>by subst e; simp at hc2
 have hml:=hM cs H hcs hcl
 have hle : (zK4 s cs).length ≤ s.length:=by
  unfold zK4
  rw [List.length_reverse]
  have:=(List.dropWhile_suffix (l:=s.reverse) (fun c=>zG8 cs c.toNat)).length_le
  rwa [List.length_reverse] at this
 by_cases h0 : s = []
 ·subst h0
  refine zH <| zH <| zH ?_
  exact sRr
 have hst : ∀ (H : Heap),H[H.length]? = none:=fun H=>by simp
 have hrr:=hR s cs H.length
 have hll:=hL (zK4 s cs) cs H.length
 clear hM hR hL
 refine zO (tN h0) <| zG <| zO (tN hne) <| zO tN <| zG <| zG ?_; refine zI (hml) <| zS rfl <| zS rfl <| zF (v:=.agg (zH6 (zG8 cs))) (zH6 (zG8 cs)) zD (zFC _) rfl rfl (by simp [splice,AV.cells,zFC]) <| zH <| zI (hrr _ (zE zD) hl) ?_; refine zI (hll _ (zE zD) tO) ?_
 exact zBO rfl rfl rfl rfl (((Old.refl _).push _).set (by first | assumption | exact zMh _ | simp | omega) _)
end
end Go.AM
