/- Several texts of mine in one (Am29, Fp0, Fp1, Am30, Fq0). Own work. -/
import Derived.Test.YtmmbcogejaofpaaGreatDoorGMkAm27
set_option linter.all false
namespace Go.AM
def zR (k : Nat) : AV:=.int .i64 k
theorem zH {b k s o : Nat} {v : AV} {cs : List AV} (cs' : List AV) {H : Heap} {K : AV → Heap → Prop} (h : H[b]? = some (.box cs)) (hl : v.cells.length = s) (h1 : v.cells.all AV.one = true) (ho : Nat.ble (o + s) cs.length = true) (he : splice cs o v.cells = cs')
  (q : K .undef (H.set b (.box cs'))) : actP (.store s) [.ref b k 0 o,v] H K:=
 sStoreBox h hl h1 (Nat.le_of_ble_eq_true ho) (by rw [he]; exact q)
theorem zAE.one {v : AV} {k : Nat} {xs : List AV} (h : zAE v k xs) : v.cells = [v] ∧ v.one = true:=by obtain ⟨q,k',rfl,_⟩:=h; exact ⟨rfl,rfl⟩
theorem Owns.one {H0 H : Heap} {v : AV} {k : Nat} {xs : List AV} (h : Owns H0 H v k xs) : v.cells = [v] ∧ v.one = true:=by
 rcases h with ⟨rfl,_⟩ | ⟨b',rfl,_⟩ <;> exact ⟨rfl,rfl⟩
theorem zIQ {F : AF} {a s : Nat} {ag : Bool} {H H1 : Heap} {fr : Fr} {v : AV} {cs : List AV} {o : Nat} (hF : F.results = [.cell a s ag]) (hk : F.keep = false) (hp : zw H1 (getF fr a) = some (cs,o)) (hpt : part cs o s ag = some v)
  (hf : zCh H.length v H1 = some (v,H1)) (hb : v.bel H.length = true) (ho : Old H H1) : retP F H fr H1 v H:=by
 refine zBv hk ?_ hf hb ho
 rw [zFP] at hp
 simp only [hF,zBs,resOf,hp,hpt,Option.map_some]
 rfl
end Go.AM
set_option maxRecDepth 20000
namespace Go.AM
abbrev Bs:=List UInt8
def skipL : Bs → Nat
 | []=>0
 | c :: r=>if c = 32 then skipL r + 1 else 0
def skip (s : Bs) (a : Nat) : Nat:=a + skipL (s.drop a)
def zz (c : UInt8) : Bool:=c.toNat == 36 || (decide (48 ≤ c.toNat) && decide (c.toNat ≤ 57)) || (decide (65 ≤ c.toNat) && decide (c.toNat ≤ 90)) || (decide (97 ≤ c.toNat) && decide (c.toNat ≤ 122))
def runL : Bs → Nat
 | []=>0
 | c :: r=>if zz c = true then runL r + 1 else 0
def zBx (s : Bs) (a : Nat) : Nat:=a + runL (s.drop a)
def sub (s : Bs) (a b : Nat) : Bs:=(s.drop a).take (b - a)
theorem zCE {s : Bs} {a : Nat} {c : UInt8} (h : s[a]? = some c) : s.drop a = c :: s.drop (a + 1):=by
 obtain ⟨h1,h2⟩:=zg h
 rw [List.drop_eq_getElem_cons h1,h2]
theorem zFY {s : Bs} {a : Nat} (h : s[a]? = none) : s.drop a = []:=List.drop_eq_nil_of_le (List.getElem?_eq_none_iff.1 h)
theorem skip_blank {s : Bs} {a : Nat} (h : s[a]? = some 32) : skip s a = skip s (a + 1):=by
 unfold skip; rw [zCE h,skipL,if_pos rfl]; omega
theorem zEQ {s : Bs} {a : Nat} (h : s[a]? ≠ some 32) : skip s a = a:=by
 unfold skip
 cases e : s[a]? with
 | none=>rw [zFY e]; rfl
 | some c=>rw [zCE e,skipL,if_neg (fun h'=>h (by rw [e,h']))]; rfl
theorem zEm (s : Bs) (a : Nat) : a ≤ skip s a:=Nat.le_add_right _ _
theorem skipL_le : ∀ l : Bs,skipL l ≤ l.length
 | []=>Nat.le_refl _
 | c :: r=>by
  simp only [skipL]
  have:=skipL_le r
  split <;> simp only [List.length_cons] <;> omega
theorem zBT {s : Bs} {a : Nat} (h : a ≤ s.length) : skip s a ≤ s.length:=by
 unfold skip
 have:=skipL_le (s.drop a)
 rw [List.length_drop] at this
 omega
theorem skipL_at : ∀ l : Bs,l[skipL l]? ≠ some 32
 | []=>by simp [skipL]
 | c :: r=>by
  by_cases h : c = 32
  ·rw [skipL,if_pos h,List.getElem?_cons_succ]; exact skipL_at r
  ·rw [skipL,if_neg h]; simpa using h
theorem skip_at (s : Bs) (a : Nat) : s[skip s a]? ≠ some 32:=by
 have:=skipL_at (s.drop a)
 rwa [List.getElem?_drop] at this
theorem zDQ (s : Bs) (a : Nat) : skip s (skip s a) = skip s a:=zEQ (skip_at s a)
theorem zFZ {s : Bs} {a : Nat} {c : UInt8} (h : s[a]? = some c) (hc : zz c = true) : zBx s a = zBx s (a + 1):=by
 unfold zBx; rw [zCE h,runL,if_pos hc]; omega
theorem zG2 {s : Bs} {a : Nat} (h : ∀ c,s[a]? = some c → zz c = false) : zBx s a = a:=by
 unfold zBx
 cases e : s[a]? with
 | none=>rw [zFY e]; rfl
 | some c=>rw [zCE e,runL,if_neg (by rw [h c e]; simp)]; rfl
theorem zJJ (s : Bs) (a : Nat) : a ≤ zBx s a:=Nat.le_add_right _ _
theorem runL_le : ∀ l : Bs,runL l ≤ l.length
 | []=>Nat.le_refl _
 | c :: r=>by
  simp only [runL]
  have:=runL_le r
  split <;> simp only [List.length_cons] <;> omega
theorem zGJ {s : Bs} {a : Nat} (h : a ≤ s.length) : zBx s a ≤ s.length:=by
 unfold zBx
 have:=runL_le (s.drop a)
 rw [List.length_drop] at this
 omega
def quo : Bs → Nat → Option (Bs × Nat)
 | [],_=>none
 | [c],i=>if c = 34 then some ([],i + 1) else none
 | c :: d :: r,i=>if c = 34 then (if d = 34 then (quo r (i + 2)).map fun p=>(34 :: p.1,p.2) else some ([],i + 1)) else (quo (d :: r) (i + 1)).map fun p=>(c :: p.1,p.2)
def wrongs : List Bs:=[[35,68,73,86,33],[35,86,65,76,85,69,33],[35,82,69,70,33],[35,78,65,77,69,33],[35,78,85,77,33],[35,78,79,78,69,33]]
def badL (l : Bs) : List Bs → Nat → Option (Nat × Nat)
 | [],_=>none
 | t :: ts,k=>if l.take t.length = t then some (k,t.length) else badL l ts (k + 1)
inductive Tok where
 | fin
 | word (e : Nat) (t : Bs)
 | txt (e : Nat) (t : Bs)
 | bad (e k : Nat)
 | sign (e : Nat) (t : Bs)
 | none
 deriving Inhabited
def zDd (s : Bs) (a : Nat) : Tok:=
 match s[a]? with
 | .none=>.fin
 | some c=>
  if zz c = true then .word (zBx s a) (sub s a (zBx s a))
  else if c = 34 then (match quo (s.drop (a + 1)) (a + 1) with
   | some (t,e)=>.txt e t
   | .none=>.none)
  else if c = 35 then (match badL (s.drop a) wrongs 1 with
   | some (k,n)=>.bad (a + n) k
   | .none=>.none)
  else match s[a + 1]? with
   | some d=>if (c = 60 ∧ d = 62) ∨ (c = 60 ∧ d = 61) ∨ (c = 62 ∧ d = 61) then .sign (a + 2) [c,d] else .sign (a + 1) [c]
   | .none=>.sign (a + 1) [c]
def tok (s : Bs) (a : Nat) : Tok:=zDd s (skip s a)
theorem zG3 (s : Bs) (a : Nat) : tok s (skip s a) = tok s a:=by unfold tok; rw [zDQ]
def Tok.endsBy (a : Nat) : Tok → Nat → Prop
 | .word e _,n=>a < e ∧ e ≤ n
 | .txt e _,n=>a < e ∧ e ≤ n
 | .bad e _,n=>a < e ∧ e ≤ n
 | .sign e _,n=>a < e ∧ e ≤ n
 | _,_=>True
theorem quo_ends : ∀ (l : Bs) (i : Nat) (t : Bs) (e : Nat),quo l i = some (t,e) → i < e ∧ e ≤ i + l.length
 | [],_,_,_,h=>by simp [quo] at h
 | [c],i,t,e,h=>by
  simp only [quo] at h
  split at h
  ·simp only [Option.some.injEq,Prod.mk.injEq] at h; obtain ⟨_,rfl⟩:=h; simp
  ·cases h
 | c :: d :: r,i,t,e,h=>by
  simp only [quo] at h
  split at h
  ·split at h
   ·rw [Option.map_eq_some_iff] at h
    obtain ⟨⟨t',e'⟩,h1,h2⟩:=h
    simp only [Prod.mk.injEq] at h2
    have:=quo_ends r (i + 2) t' e' h1
    simp only [List.length_cons]
    omega
   ·simp only [Option.some.injEq,Prod.mk.injEq] at h; obtain ⟨_,rfl⟩:=h; simp
  ·rw [Option.map_eq_some_iff] at h
   obtain ⟨⟨t',e'⟩,h1,h2⟩:=h
   simp only [Prod.mk.injEq] at h2
   have:=quo_ends (d :: r) (i + 1) t' e' h1
   simp only [List.length_cons] at this ⊢
   omega
theorem zJK (l : Bs) : ∀ (ts : List Bs) (k : Nat) (p : Nat × Nat),badL l ts k = some p → (∀ t ∈ ts,t ≠ []) → 0 < p.2 ∧ p.2 ≤ l.length
 | [],_,_,h,_=>by simp [badL] at h
 | t :: ts,k,p,h,ht=>by
  simp only [badL] at h
  split at h
  ·rename_i he
   simp only [Option.some.injEq] at h
   subst h
   have h1:=ht t (by simp)
   have h2 : t.length ≠ 0:=by simpa using h1
   have h3:=congrArg List.length he
   rw [List.length_take] at h3
   omega
  ·exact zJK l ts _ p h fun t h=>ht t (by simp [h])
theorem tokAt_ends {s : Bs} {a : Nat} : (zDd s a).endsBy a s.length:=by
 unfold zDd
 cases e : s[a]? with
 | none=>trivial
 | some c=>
  have ha:=(zg e).1
  simp only
  split
  ·rename_i hw
   have h1:=zFZ e hw
   have h2:=zJJ s (a + 1)
   have h3:=zGJ (s:=s) (a:=a) tO
   show a < zBx s a ∧ zBx s a ≤ s.length
   omega
  ·split
   ·split
    ·rename_i t e' hq
     have:=quo_ends _ _ _ _ hq
     rw [List.length_drop] at this
     show a < e' ∧ e' ≤ s.length
     omega
    ·trivial
   ·split
    ·split
     ·rename_i k n hb
      have:=zJK _ _ _ _ hb (by decide)
      rw [List.length_drop] at this
      simp only at this
      show a < a + n ∧ a + n ≤ s.length
      omega
     ·trivial
    ·cases e2 : s[a + 1]? with
     | none=>show a < a + 1 ∧ a + 1 ≤ s.length; omega
     | some d=>
      have ha2:=(zg e2).1
      simp only
      split
      ·show a < a + 2 ∧ a + 2 ≤ s.length; omega
      ·show a < a + 1 ∧ a + 1 ≤ s.length; omega
theorem zDn (s : Bs) (a : Nat) : (tok s a).endsBy a s.length:=by
 have h:=tokAt_ends (s:=s) (a:=skip s a)
 have h2:=zEm s a
 unfold tok
 revert h
 cases zDd s (skip s a) <;> simp only [Tok.endsBy] <;> first | exact fun _=>trivial | (intro h; omega)
structure RefP where
 col : Int
 row : Int
 fc : Bool
 fr : Bool
 deriving DecidableEq,Inhabited
def noRef : RefP:=⟨0,0,false,false⟩
inductive Nd where
 | mk (kind num : Int) (text : Bs) (ref to : RefP) (kids : List Nd)
 deriving Inhabited
namespace Nd
def kind : Nd → Int | mk a _ _ _ _ _=>a
def num : Nd → Int | mk _ a _ _ _ _=>a
def text : Nd → Bs | mk _ _ a _ _ _=>a
def ref : Nd → RefP | mk _ _ _ a _ _=>a
def to : Nd → RefP | mk _ _ _ _ a _=>a
def kids : Nd → List Nd | mk _ _ _ _ _ a=>a
def kq : Nd → Bool | mk _ _ _ _ _ []=>true | mk _ _ _ _ _ (_ :: _)=>false
def kk : Nd → Nat | mk _ _ _ _ _ []=>0 | mk _ _ _ _ _ (_ :: _)=>12
end Nd
mutual
def kxs : Nd → List AV
 | .mk _ _ _ _ _ ks=>kidL ks
def kidL : List Nd → List AV
 | []=>[]
 | k :: r=>.agg [.int .i64 k.kind,.int .i64 k.num,.str k.text,.int .i64 k.ref.col,.int .i64 k.ref.row,.bool k.ref.fc,.bool k.ref.fr,.int .i64 k.to.col,.int .i64 k.to.row,.bool k.to.fc,.bool k.to.fr,.lst (some k.kq) k.kk (kxs k)] :: kidL r
end
def ndC (k : Nd) : List AV:=[.int .i64 k.kind,.int .i64 k.num,.str k.text,.int .i64 k.ref.col,.int .i64 k.ref.row,.bool k.ref.fc,.bool k.ref.fr,.int .i64 k.to.col,.int .i64 k.to.row,.bool k.to.fc,.bool k.to.fr,.lst (some k.kq) k.kk (kxs k)]
def ndV (k : Nd) : AV:=.agg (ndC k)
theorem kidL_map : ∀ ks : List Nd,kidL ks = ks.map ndV
 | []=>rfl
 | k :: r=>by rw [kidL,List.map_cons,kidL_map r]; rfl
def numN (n : Int) : Nd:=.mk 1 n [] noRef noRef []
def txtN (t : Bs) : Nd:=.mk 2 0 t noRef noRef []
def truN (b : Bool) : Nd:=.mk 3 (if b then 1 else 0) [] noRef noRef []
def badN (k : Nat) : Nd:=.mk 4 k [] noRef noRef []
def refN (r : RefP) : Nd:=.mk 5 0 [] r noRef []
def boxN (a b : RefP) : Nd:=.mk 6 0 [] a b []
def negN (n : Nd) : Nd:=.mk 7 0 [] noRef noRef [n]
def twoN (op : Nat) (a b : Nd) : Nd:=.mk 8 op [] noRef noRef [a,b]
def zHW (name : Bs) (ks : List Nd) : Nd:=.mk 9 0 name noRef noRef ks
def z6 : Nd:=.mk 0 0 [] noRef noRef []
def digB (c : UInt8) : Bool:=decide (48 ≤ c.toNat) && decide (c.toNat ≤ 57)
def zDo (l : Bs) : Nat:=l.foldl (fun n c=>n * 10 + (c.toNat - 48)) 0
def zHt (t : Bs) : Option Int:=
 if t = [] ∨ (t.head? = some 48 ∧ t ≠ [48]) then none
 else if t.all digB = true then (if zDo t ≤ 9223372036854775807 then some (zDo t : Int) else none) else none
def capB (c : UInt8) : Bool:=decide (65 ≤ c.toNat) && decide (c.toNat ≤ 90)
def dollar : Bs → Bool × Bs
 | []=>(false,[])
 | c :: r=>if c = 36 then (true,r) else (false,c :: r)
def rowP (fc : Bool) (col : Int) (p : Bool × Bs) : Option RefP:=
 match zHt p.2 with
 | some n=>if 1 ≤ n ∧ n ≤ 99 then some ⟨col,n,fc,p.1⟩ else none
 | none=>none
def colP (p : Bool × Bs) : Option RefP:=
 match p.2 with
 | []=>none
 | c :: r=>if capB c = true then rowP p.1 ((c.toNat : Int) - 64) (dollar r) else none
def refP (t : Bs) : Option RefP:=colP (dollar t)
def trueW : Bs:=[84,82,85,69]
def zJL : Bs:=[70,65,76,83,69]
def atomP (t : Bs) : Option Nd:=
 match zHt t with
 | some n=>some (numN n)
 | none=>if t = trueW then some (truN true) else if t = zJL then some (truN false) else (refP t).map refN
def zDR (t : Bs) : Bool:=decide (2 ≤ t.length) && decide (t.length ≤ 10) && t.all capB
def zCj (t : Bs) : Nat:=
 if t = [61] then 1 else if t = [60,62] then 2 else if t = [60] then 3 else if t = [60,61] then 4 else if t = [62] then 5 else if t = [62,61] then 6
 else if t = [38] then 7 else if t = [43] then 8 else if t = [45] then 9 else if t = [42] then 10 else if t = [47] then 11 else 0
def tight (op : Nat) : Nat:=if op ≤ 6 then 1 else if op = 7 then 2 else if op ≤ 9 then 3 else 4
def zJM (s : Bs) (a : Nat) : Option (Nat × Nat):=
 match tok s a with
 | .sign e t=>if zCj t = 0 then none else some (zCj t,e)
 | _=>none
structure Ps where
 one : Nat → Nat → Option (Nd × Nat)
 loose : Nat → Nat → Nat → Option (Nd × Nat)
 ll : Nat → Nd → Nat → Nat → Option (Nd × Nat)
 args : Bs → List Nd → Nat → Nat → Option (Nd × Nat)
def boxAt (s : Bs) (a : Nat) : Option (Option (Nd × Nat)):=
 match tok s a with
 | .word e t=>match refP t with
  | some r=>if s[e]? = some 58 then
    (match zDd s (e + 1) with
     | .word e2 t2=>some ((refP t2).map fun r2=>(boxN r r2,e2))
     | _=>some none)
    else none
  | none=>none
 | _=>none
def zBr (s : Bs) (q : Ps) (a d : Nat) : Option (Nd × Nat):=
 match tok s a with
 | .word e t=>
  if zDR t = true ∧ s[e]? = some 40 then
   (if d = 30 then none else match tok s (e + 1) with
    | .sign e2 [41]=>some (zHW t [],e2)
    | _=>q.args t [] (e + 1) (d + 1))
  else (atomP t).map fun n=>(n,e)
 | .txt e t=>some (txtN t,e)
 | .bad e k=>some (badN k,e)
 | .sign e [45]=>if d = 30 then none else (q.one e (d + 1)).map fun p=>(negN p.1,p.2)
 | .sign e [40]=>if d = 30 then none else (q.loose 1 e (d + 1)).bind fun p=>match tok s p.2 with
  | .sign e2 [41]=>some (p.1,e2)
  | _=>none
 | _=>none
def zDS (q : Ps) (least a d : Nat) : Option (Nd × Nat):=(q.one a d).bind fun p=>q.ll least p.1 p.2 d
def psLl (s : Bs) (q : Ps) (least : Nat) (n : Nd) (a d : Nat) : Option (Nd × Nat):=
 match zJM s a with
 | none=>some (n,a)
 | some (op,e)=>if tight op < least then some (n,a) else (q.loose (tight op + 1) e d).bind fun p=>q.ll least (twoN op n p.1) p.2 d
def psArg (s : Bs) (q : Ps) (a d : Nat) : Option (Nd × Nat):=
 match boxAt s a with
 | some r=>r
 | none=>q.loose 1 a d
def zG4 (s : Bs) (q : Ps) (name : Bs) (ks : List Nd) (a d : Nat) : Option (Nd × Nat):=
 (psArg s q a d).bind fun p=>match tok s p.2 with
  | .sign e [44]=>q.args name (ks ++ [p.1]) e d
  | .sign e [41]=>some (zHW name (ks ++ [p.1]),e)
  | _=>none
def ps (s : Bs) : Nat → Ps
 | 0=>⟨fun _ _=>none,fun _ _ _=>none,fun _ _ _ _=>none,fun _ _ _ _=>none⟩
 | n + 1=>⟨zBr s (ps s n),zDS (ps s n),psLl s (ps s n),zG4 s (ps s n)⟩
structure Ends (s : Bs) (q : Ps) : Prop where
 one : ∀ a d p,a ≤ s.length → q.one a d = some p → a < p.2 ∧ p.2 ≤ s.length
 loose : ∀ l a d p,a ≤ s.length → q.loose l a d = some p → a < p.2 ∧ p.2 ≤ s.length
 ll : ∀ l n a d p,a ≤ s.length → q.ll l n a d = some p → a ≤ p.2 ∧ p.2 ≤ s.length
 args : ∀ nm ks a d p,a ≤ s.length → q.args nm ks a d = some p → a < p.2 ∧ p.2 ≤ s.length
theorem zDT {s : Bs} {a op e : Nat} (h : zJM s a = some (op,e)) : a < e ∧ e ≤ s.length:=by
 have ht:=zDn s a
 unfold zJM at h
 split at h
 ·rename_i e' t hk
  rw [hk] at ht
  split at h
  ·cases h
  ·simp only [Option.some.injEq,Prod.mk.injEq] at h
   obtain ⟨_,rfl⟩:=h
   exact ht
 ·cases h
theorem boxAt_ends {s : Bs} {a : Nat} {p : Nd × Nat} (h : boxAt s a = some (some p)) : a < p.2 ∧ p.2 ≤ s.length:=by
 have ht:=zDn s a
 unfold boxAt at h
 split at h
 ·rename_i e t hk
  rw [hk] at ht
  simp only [Tok.endsBy] at ht
  split at h
  ·rename_i r hr
   split at h
   ·rename_i hc
    have h2:=tokAt_ends (s:=s) (a:=e + 1)
    split at h
    ·rename_i e2 t2 hk2
     rw [hk2] at h2
     simp only [Tok.endsBy] at h2
     simp only [Option.some.injEq,Option.map_eq_some_iff] at h
     obtain ⟨r2,_,rfl⟩:=h
     exact ⟨by show a < e2; omega,h2.2⟩
    ·cases h
   ·cases h
  ·cases h
 ·cases h
theorem psOne_ends {s : Bs} {q : Ps} (hq : Ends s q) (a d : Nat) (p : Nd × Nat) (ha : a ≤ s.length) (h : zBr s q a d = some p) : a < p.2 ∧ p.2 ≤ s.length:=by
 have ht:=zDn s a
 unfold zBr at h
 split at h
 ·rename_i e t hk
  rw [hk] at ht
  simp only [Tok.endsBy] at ht
  split at h
  ·rename_i hc
   have he:=(zg hc.2).1
   split at h
   ·cases h
   ·have ht2:=zDn s (e + 1)
    split at h
    ·rename_i e2 hk2
     rw [hk2] at ht2
     simp only [Tok.endsBy] at ht2
     cases h
     exact ⟨by show a < e2; omega,ht2.2⟩
    ·have:=hq.args _ _ _ _ p tO h
     omega
  ·simp only [Option.map_eq_some_iff] at h
   obtain ⟨_,_,rfl⟩:=h
   exact ht
 ·rename_i e t hk
  rw [hk] at ht
  cases h; exact ht
 ·rename_i e t hk
  rw [hk] at ht
  cases h; exact ht
 ·rename_i e hk
  rw [hk] at ht
  simp only [Tok.endsBy] at ht
  split at h
  ·cases h
  ·simp only [Option.map_eq_some_iff] at h
   obtain ⟨p',h1,rfl⟩:=h
   have:=hq.one e (d + 1) p' tO h1
   exact ⟨by show a < p'.2; omega,this.2⟩
 ·rename_i e hk
  rw [hk] at ht
  simp only [Tok.endsBy] at ht
  split at h
  ·cases h
  ·rw [Option.bind_eq_some_iff] at h
   obtain ⟨p',h1,h2⟩:=h
   have:=hq.loose 1 e (d + 1) p' tO h1
   have ht2:=zDn s p'.2
   split at h2
   ·rename_i e2 hk2
    rw [hk2] at ht2
    simp only [Tok.endsBy] at ht2
    cases h2
    exact ⟨by show a < e2; omega,ht2.2⟩
   ·cases h2
 ·cases h
theorem psArg_ends {s : Bs} {q : Ps} (hq : Ends s q) (a d : Nat) (p : Nd × Nat) (ha : a ≤ s.length) (h : psArg s q a d = some p) : a < p.2 ∧ p.2 ≤ s.length:=by
 unfold psArg at h
 split at h
 ·rename_i r hb
  subst h
  exact boxAt_ends hb
 ·exact hq.loose 1 a d p ha h
theorem ps_ends (s : Bs) : ∀ n,Ends s (ps s n)
 | 0=>⟨fun _ _ _ _ h=>by simp [ps] at h,fun _ _ _ _ _ h=>by simp [ps] at h,fun _ _ _ _ _ _ h=>by simp [ps] at h,fun _ _ _ _ _ _ h=>by simp [ps] at h⟩
 | n + 1=>by
  have ih:=ps_ends s n
  refine ⟨fun a d p ha h=>psOne_ends ih a d p ha h,fun l a d p ha h=>?_,fun l nd a d p ha h=>?_,fun nm ks a d p ha h=>?_⟩
  ·change zDS (ps s n) l a d = some p at h
   unfold zDS at h
   rw [Option.bind_eq_some_iff] at h
   obtain ⟨p',h1,h2⟩:=h
   have e1:=ih.one a d p' ha h1
   have e2:=ih.ll l p'.1 p'.2 d p tO h2
   omega
  ·change psLl s (ps s n) l nd a d = some p at h
   unfold psLl at h
   split at h
   ·cases h; exact ⟨Nat.le_refl _,ha⟩
   ·rename_i op e ho
    have he:=zDT ho
    split at h
    ·cases h; exact ⟨Nat.le_refl _,ha⟩
    ·rw [Option.bind_eq_some_iff] at h
     obtain ⟨p',h1,h2⟩:=h
     have e1:=ih.loose _ e d p' tO h1
     have e2:=ih.ll l _ p'.2 d p tO h2
     omega
  ·change zG4 s (ps s n) nm ks a d = some p at h
   unfold zG4 at h
   rw [Option.bind_eq_some_iff] at h
   obtain ⟨p',h1,h2⟩:=h
   have e1:=psArg_ends ih a d p' ha h1
   have ht:=zDn s p'.2
   split at h2
   ·rename_i e hk
    rw [hk] at ht
    simp only [Tok.endsBy] at ht
    have:=ih.args _ _ e d p tO h2
    omega
   ·rename_i e hk
    rw [hk] at ht
    simp only [Tok.endsBy] at ht
    cases h2
    exact ⟨by show a < e; omega,ht.2⟩
   ·cases h2
end Go.AM
set_option maxRecDepth 20000
namespace Go.AM
structure Agree (s : Bs) (q r : Ps) (K : Nat) : Prop where
 one : ∀ a d,a ≤ s.length → 4 * (s.length - a) + 1 ≤ K → q.one a d = r.one a d
 loose : ∀ l a d,a ≤ s.length → 4 * (s.length - a) + 2 ≤ K → q.loose l a d = r.loose l a d
 ll : ∀ l n a d,a ≤ s.length → 4 * (s.length - a) + 1 ≤ K → q.ll l n a d = r.ll l n a d
 args : ∀ nm ks a d,a ≤ s.length → 4 * (s.length - a) + 3 ≤ K → q.args nm ks a d = r.args nm ks a d
theorem zCL {α β : Type} {x y : Option α} {f g : α → Option β} (h : x = y) (hf : ∀ p,y = some p → f p = g p) : x.bind f = y.bind g:=by
 subst h
 cases x with
 | none=>rfl
 | some p=>exact hf p rfl
theorem zJN {s : Bs} {q r : Ps} {K : Nat} (h : Agree s q r K) {a : Nat} (d : Nat) (ha : a ≤ s.length) (hK : 4 * (s.length - a) + 1 ≤ K + 1) : zBr s q a d = zBr s r a d:=by
 have ht:=zDn s a
 unfold zBr
 cases hk : tok s a with
 | word e t=>
  rw [hk] at ht
  simp only [Tok.endsBy] at ht
  simp only
  split
  ·rename_i hc
   have he:=(zg hc.2).1
   split
   ·rfl
   ·rw [h.args t [] (e + 1) (d + 1) tO tO]
  ·rfl
 | sign e t=>
  rw [hk] at ht
  simp only [Tok.endsBy] at ht
  have e1:=h.one e (d + 1) tO tO
  have e2:=h.loose 1 e (d + 1) tO tO
  by_cases h1 : t = [45]
  ·subst h1; simp only [e1]
  ·by_cases h2 : t = [40]
   ·subst h2; simp only [e2]
   ·split <;> first | rfl | (rename_i heq; cases heq <;> first | exact absurd rfl h1 | exact absurd rfl h2)
 | _=>rfl
theorem psLl_congr {s : Bs} {q r : Ps} {K : Nat} (h : Agree s q r K) (hr : Ends s r) (l : Nat) (n : Nd) {a : Nat} (d : Nat) (ha : a ≤ s.length) (hK : 4 * (s.length - a) + 1 ≤ K + 1) : psLl s q l n a d = psLl s r l n a d:=by
 unfold psLl
 split
 ·rfl
 ·rename_i op e ho
  have he:=zDT ho
  split
  ·rfl
  ·refine zCL (h.loose _ e d tO tO) fun p hp=>?_
   have:=hr.loose _ e d p tO hp
   exact h.ll _ _ _ _ tO tO
theorem zHu {s : Bs} {q r : Ps} {K : Nat} (h : Agree s q r K) (hr : Ends s r) (nm : Bs) (ks : List Nd) {a : Nat} (d : Nat) (ha : a ≤ s.length) (hK : 4 * (s.length - a) + 3 ≤ K + 1) : zG4 s q nm ks a d = zG4 s r nm ks a d:=by
 unfold zG4
 have e1 : psArg s q a d = psArg s r a d:=by
  unfold psArg
  split
  ·rfl
  ·exact h.loose _ _ _ ha tO
 refine zCL e1 fun p hp=>?_
 have h1:=psArg_ends hr a d p ha hp
 have ht:=zDn s p.2
 split
 ·rename_i e hk
  rw [hk] at ht
  simp only [Tok.endsBy] at ht
  exact h.args _ _ _ _ tO tO
 ·rfl
 ·rfl
theorem zG5 {s : Bs} {q r : Ps} {K : Nat} (h : Agree s q r K) (hr : Ends s r) (l : Nat) {a : Nat} (d : Nat) (ha : a ≤ s.length) (hK : 4 * (s.length - a) + 2 ≤ K + 1) : zDS q l a d = zDS r l a d:=by
 unfold zDS
 refine zCL (h.one a d ha tO) fun p hp=>?_
 have:=hr.one a d p ha hp
 exact h.ll _ _ _ _ tO tO
theorem ps_agree (s : Bs) : ∀ K N M,K ≤ N → K ≤ M → Agree s (ps s N) (ps s M) K
 | 0,_,_,_,_=>⟨fun _ _ _ h=>by omega,fun _ _ _ _ h=>by omega,fun _ _ _ _ _ h=>by omega,fun _ _ _ _ _ h=>by omega⟩
 | K + 1,N,M,hN,hM=>by
  obtain ⟨n,rfl⟩ : ∃ n,N = n + 1:=⟨N - 1,by omega⟩
  obtain ⟨m,rfl⟩ : ∃ m,M = m + 1:=⟨M - 1,by omega⟩
  have ih:=ps_agree s K n m tO tO
  have hr:=ps_ends s m
  exact ⟨fun a d ha h=>zJN ih d ha h,fun l a d ha h=>zG5 ih hr l d ha h,fun l nd a d ha h=>psLl_congr ih hr l nd d ha h,fun nm ks a d ha h=>zHu ih hr nm ks d ha h⟩
def fuelP (s : Bs) : Nat:=4 * s.length + 3
def P (s : Bs) : Ps:=ps s (fuelP s + 1)
theorem zC9 (s : Bs) : Ends s (P s):=ps_ends s _
theorem P_agree (s : Bs) : Agree s (ps s (fuelP s)) (P s) (fuelP s):=ps_agree s _ _ _ (Nat.le_refl _) (Nat.le_succ _)
theorem P_one {s : Bs} {a : Nat} (d : Nat) (ha : a ≤ s.length) : (P s).one a d = zBr s (P s) a d:=zJN (P_agree s) d ha (by unfold fuelP; omega)
theorem zHX {s : Bs} {a : Nat} (l d : Nat) (ha : a ≤ s.length) : (P s).loose l a d = zDS (P s) l a d:=zG5 (P_agree s) (zC9 s) l d ha (by unfold fuelP; omega)
theorem P_ll {s : Bs} {a : Nat} (l : Nat) (n : Nd) (d : Nat) (ha : a ≤ s.length) : (P s).ll l n a d = psLl s (P s) l n a d:=psLl_congr (P_agree s) (zC9 s) l n d ha (by unfold fuelP; omega)
theorem P_args {s : Bs} {a : Nat} (nm : Bs) (ks : List Nd) (d : Nat) (ha : a ≤ s.length) : (P s).args nm ks a d = zG4 s (P s) nm ks a d:=zHu (P_agree s) (zC9 s) nm ks d ha (by unfold fuelP; omega)
def zJO (s : Bs) : Option Nd:=
 if s.length ≤ 200 ∧ s.head? = some 61 then ((P s).loose 1 1 0).bind fun p=>match tok s p.2 with
  | .fin=>some p.1
  | _=>none
 else none
theorem zJP (s : Bs) (a : Nat) : zJM s (skip s a) = zJM s a:=by unfold zJM; rw [zG3]
theorem one_skip {s : Bs} {a : Nat} (d : Nat) (ha : a ≤ s.length) : (P s).one (skip s a) d = (P s).one a d:=by
 rw [P_one d (zBT ha),P_one d ha]; unfold zBr; rw [zG3]
theorem loose_skip {s : Bs} {a : Nat} (l d : Nat) (ha : a ≤ s.length) : (P s).loose l (skip s a) d = (P s).loose l a d:=by
 rw [zHX l d (zBT ha),zHX l d ha]; unfold zDS; rw [one_skip d ha]
def bl (s : Bs) (r : Option (Nd × Nat)) : Option (Nd × Nat):=r.map fun p=>(p.1,skip s p.2)
theorem ll_skip {s : Bs} {a : Nat} (l : Nat) (n : Nd) (d : Nat) (ha : a ≤ s.length) : bl s ((P s).ll l n (skip s a) d) = bl s ((P s).ll l n a d):=by
 rw [P_ll l n d (zBT ha),P_ll l n d ha]; unfold psLl; rw [zJP]
 split
 ·simp only [bl,Option.map_some,zDQ]
 ·split
  ·simp only [bl,Option.map_some,zDQ]
  ·rfl
theorem ll_split {s : Bs} (l d : Nat) : ∀ (k : Nat) (n : Nd) (a : Nat),a ≤ s.length → s.length - a ≤ k → (P s).ll l n a d = ((P s).ll (l + 1) n a d).bind fun p=>(P s).ll l p.1 p.2 d:=by
 intro k
 induction k with
 | zero=>
  intro n a ha hk
  have h0 : zJM s a = none:=by
   cases h : zJM s a with
   | none=>rfl
   | some p=>obtain ⟨op,e⟩:=p; have:=zDT h; omega
  have h1 : (P s).ll (l + 1) n a d = some (n,a):=by rw [P_ll _ n d ha]; unfold psLl; rw [h0]
  rw [h1]; rfl
 | succ k ih=>
  intro n a ha hk
  cases h : zJM s a with
  | none=>
   have h1 : (P s).ll (l + 1) n a d = some (n,a):=by rw [P_ll _ n d ha]; unfold psLl; rw [h]
   rw [h1]; rfl
  | some p=>
   obtain ⟨op,e⟩:=p
   have he:=zDT h
   by_cases ht : tight op < l + 1
   ·have h1 : (P s).ll (l + 1) n a d = some (n,a):=by rw [P_ll _ n d ha]; unfold psLl; rw [h]; simp only; rw [if_pos ht]
    rw [h1]; rfl
   ·have h1 : ∀ l',l' ≤ l + 1 → (P s).ll l' n a d = ((P s).loose (tight op + 1) e d).bind fun p=>(P s).ll l' (twoN op n p.1) p.2 d:=fun l' hl=>by
     rw [P_ll _ n d ha]; unfold psLl; rw [h]; simp only; rw [if_neg tO]
    rw [h1 l tO,h1 (l + 1) (Nat.le_refl _),Option.bind_assoc]
    refine zCL rfl fun p hp=>?_
    have:=(zC9 s).loose _ e d p tO hp
    exact ih _ _ tO tO
theorem ll_exit {s : Bs} (l d : Nat) : ∀ (k : Nat) (n : Nd) (a : Nat) (p : Nd × Nat),a ≤ s.length → s.length - a ≤ k → (P s).ll l n a d = some p → ∀ op e,zJM s p.2 = some (op,e) → tight op < l:=by
 intro k
 induction k with
 | zero=>
  intro n a p ha hk h op e ho
  have:=(zC9 s).ll _ _ _ _ p ha h
  have:=zDT ho
  omega
 | succ k ih=>
  intro n a p ha hk h op e ho
  rw [P_ll _ n d ha] at h
  unfold psLl at h
  split at h
  ·rename_i h0
   cases h
   rw [h0] at ho; cases ho
  ·rename_i op' e' h0
   have he:=zDT h0
   split at h
   ·rename_i ht
    cases h
    rw [h0] at ho; cases ho; exact ht
   ·rw [Option.bind_eq_some_iff] at h
    obtain ⟨p',h1,h2⟩:=h
    have:=(zC9 s).loose _ e' d p' tO h1
    exact ih _ _ p tO tO h2 op e ho
theorem loose_split {s : Bs} {a : Nat} (l d : Nat) (ha : a ≤ s.length) : (P s).loose l a d = ((P s).loose (l + 1) a d).bind fun p=>(P s).ll l p.1 p.2 d:=by
 rw [zHX l d ha,zHX (l + 1) d ha]
 unfold zDS
 rw [Option.bind_assoc]
 refine zCL rfl fun p hp=>?_
 have:=(zC9 s).one a d p ha hp
 exact ll_split l d _ _ _ this.2 (Nat.le_refl _)
theorem loose_exit {s : Bs} {a : Nat} (l d : Nat) (ha : a ≤ s.length) {p : Nd × Nat} (h : (P s).loose l a d = some p) : ∀ op e,zJM s p.2 = some (op,e) → tight op < l:=by
 rw [zHX l d ha] at h
 unfold zDS at h
 rw [Option.bind_eq_some_iff] at h
 obtain ⟨p',h1,h2⟩:=h
 have:=(zC9 s).one a d p' ha h1
 exact ll_exit l d _ _ _ p this.2 (Nat.le_refl _) h2
theorem tight_le (op : Nat) : 1 ≤ tight op ∧ tight op ≤ 4:=by unfold tight; split; omega; split; omega; split <;> omega
theorem loose_top {s : Bs} {a : Nat} (d : Nat) (ha : a ≤ s.length) : (P s).loose 5 a d = (P s).one a d:=by
 rw [zHX 5 d ha]
 unfold zDS
 cases h : (P s).one a d with
 | none=>rfl
 | some p=>
  have:=(zC9 s).one a d p ha h
  show (P s).ll 5 p.1 p.2 d = some p
  rw [P_ll _ _ d this.2]
  unfold psLl
  split
  ·rfl
  ·rename_i op e ho
   rw [if_pos (by have:=(tight_le op).2; omega)]
end Go.AM
namespace Go.AM
def Wk (x x' : AV) : Prop:=∀ (w : World) (M : AMap) (I : Nat → Prop) (n : Nat) (v : Value),Rel w M I n x v → Rel w M I n x' v
theorem Wk.refl (x : AV) : Wk x x:=fun _ _ _ _ _ h=>h
theorem Wk.undef (x : AV) : Wk x .undef:=fun _ _ _ _ _ _=>.undef _
theorem Wk.iface {t : TypeId} {x x' : AV} (h : Wk x x') : Wk (.iface t x) (.iface t x'):=fun w M I n v hr=>by
 cases hr with
 | iface _ _ u hu=>exact .iface t x' u (h w M I n u hu)
def WkL (cs cs' : List AV) : Prop:=cs'.length = cs.length ∧ ∀ (j : Nat) (c c' : AV),cs[j]? = some c → cs'[j]? = some c' → Wk c c'
theorem WkL.refl (cs : List AV) : WkL cs cs:=⟨rfl,fun j c c' h h'=>by rw [h] at h'; cases h'; exact .refl c⟩
theorem WkL.nil : WkL [] []:=.refl []
theorem WkL.cons {x x' : AV} {cs cs' : List AV} (h : Wk x x') (k : WkL cs cs') : WkL (x :: cs) (x' :: cs'):=by
 refine ⟨by simp [k.1],fun j c c' hc hc'=>?_⟩
 cases j with
 | zero=>simp at hc hc'; subst hc hc'; exact h
 | succ j=>exact k.2 j c c' (by simpa using hc) (by simpa using hc')
theorem Wk.agg {cs cs' : List AV} (h : WkL cs cs') : Wk (.agg cs) (.agg cs'):=fun w M I n v hr=>by
 cases hr with
 | agg _ vs hl hv=>
  refine .agg cs' vs (by rw [h.1,hl]) fun i c u hc hu=>?_
  have hi:=(zg hc).1
  have hi2 : i < cs.length:=by rw [← h.1]; exact hi
  exact h.2 i _ c (List.getElem?_eq_getElem hi2) hc w M I n u (hv i _ u (List.getElem?_eq_getElem hi2) hu)
section
variable {GT : Nat → Option AV} {w w0 : World} {M M0 : AMap} {I I0 : Nat → Prop} {H H0 : Heap} {b : Nat} {cs cs' : List AV}
theorem mut_weak (hb : H[b]? = some (.box cs)) {c : Nat} {x : ABlk} (h : (H.set b (.box cs'))[c]? = some x) (hm : x.mut = true) : ∃ y,H[c]? = some y ∧ y.mut = true:=by
 by_cases e : b = c
 ·subst e; exact ⟨_,hb,rfl⟩
 ·rw [List.getElem?_set_ne e] at h; exact ⟨x,h,hm⟩
theorem Sim.weak (h : Sim GT w M I H) (hb : H[b]? = some (.box cs)) (hk : WkL cs cs') : Sim GT w M I (H.set b (.box cs')):=by
 refine ⟨h.glob,h.idom,fun c x hc=>?_,fun c c' x x' g o o' h1 m1 h2 m2 e1 e2=>?_,h.shp⟩
 ·rw [List.length_set]
  by_cases e : b = c
  ·subst e
   rw [List.getElem?_set_self (zg hb).1] at hc
   cases hc
   obtain ⟨g,o,cur,h1,h2,h3,h4,h5⟩:=h.blk b _ hb
   refine ⟨g,o,cur,h1,h2,h3,by rw [hk.1]; exact h4,fun j c hj=>?_⟩
   have hi : j < cs.length:=by rw [← hk.1]; exact (zg hj).1
   obtain ⟨v,hv,hr⟩:=h5 j _ (List.getElem?_eq_getElem hi)
   exact ⟨v,hv,hk.2 j _ c (List.getElem?_eq_getElem hi) hj _ _ _ _ _ hr⟩
  ·rw [List.getElem?_set_ne e] at hc
   exact h.blk c x hc
 ·obtain ⟨y,h3,m3⟩:=mut_weak hb h1 m1
  obtain ⟨y',h4,m4⟩:=mut_weak hb h2 m2
  exact h.inj c c' y y' g o o' h3 m3 h4 m4 e1 e2
theorem Grow.weak (h : Grow w0 M0 I0 H0 w M I H) (hb : H[b]? = some (.box cs)) : Grow w0 M0 I0 H0 w M I (H.set b (.box cs')):=
 ⟨h.os,h.tape,h.output,h.size,h.map,h.imm,h.imm',h.frame,fun k hk ⟨c,x,o,h1,h2,h3⟩=>by
  obtain ⟨y,h4,m4⟩:=mut_weak hb h1 h2
  exact h.live k hk ⟨c,y,o,h4,m4,h3⟩,h.shape,by rw [List.length_set]; exact h.len⟩
end
theorem zi {b : Bool} {A B : Prop} (h : b = true) (a : A) : condP b A B:=by subst h; exact zI a
theorem zY {b : Bool} {A B : Prop} (h : b = false) (a : B) : condP b A B:=by subst h; exact zF a
theorem set_atL {H : Heap} {b : Nat} {x : ABlk} (h : b < H.length) : (H.set b x)[b]? = some x:=List.getElem?_set_self h
theorem hP {P : Prop} (h : P:=by (repeat' (first | assumption | exact zD | exact set_atL tC | refine zA ?_ | refine zB tA ?_)); done) : P:=h
theorem zIR {H : Heap} {b : Nat} {B : ABlk} (h : H[b]? = some B) : H.set b B = H:=by
 apply List.ext_getElem?
 intro c
 by_cases e : b = c
 ·subst e; rw [List.getElem?_set_self (zg h).1,h]
 ·rw [List.getElem?_set_ne e]
theorem zAT {F : AF} {a s t : Nat} {ag : Bool} {H H1 : Heap} {fr : Fr} {v v1 : AV} {cs : List AV} {o : Nat} (hF : F.results = [.cell a s ag,.tmp t]) (hk : F.keep = false) (hp : zw H1 (getF fr a) = some (cs,o)) (hpt : part cs o s ag = some v) (ht : getF fr t = v1)
  (hf : zCh H.length (.tup [v,v1]) H1 = some (.tup [v,v1],H1)) (hb : (AV.tup [v,v1]).bel H.length = true) (ho : Old H H1) : retP F H fr H1 (.tup [v,v1]) H:=by
 refine zBv hk ?_ hf hb ho
 rw [zFP] at hp ht
 simp only [hF,zBs,resOf,hp,hpt,ht,Option.map_some]
 rfl
theorem sLoadG {GT : Nat → Option AV} {fr : Fr} {g : Nat} {x : AV} {H : Heap} {s : Nat} {ag : Bool} {K : AV → Prop} (r : AV) (h : GT g = some x) (hr : part x.cells 0 s ag = some r) (k : K r) : loadN s ag (evF GT fr (.glob g)) H K:=by
 have e : evF GT fr (.glob g) = .lref x 0:=by simp only [evF,h]
 rw [e]; exact zBb r hr k
structure OldB (H : Heap) (b : Nat) (B : ABlk) (H1 : Heap) : Prop where
 lt : b < H.length
 old : Old (H.set b B) H1
theorem OldB.start {H : Heap} {b : Nat} {B : ABlk} (h : H[b]? = some B) : OldB H b B H:=by
 obtain ⟨h1,h2⟩:=zg h
 refine ⟨h1,by rw [List.length_set]; exact Nat.le_refl _,fun c _=>?_⟩
 by_cases e : b = c
 ·subst e; rw [List.getElem?_set_self h1]; exact h
 ·rw [List.getElem?_set_ne e]
theorem OldB.push {H H1 : Heap} {b : Nat} {B : ABlk} (h : OldB H b B H1) (x : List ABlk) : OldB H b B (H1 ++ x):=⟨h.lt,h.old.push x⟩
theorem OldB.set {H H1 : Heap} {b : Nat} {B : ABlk} (h : OldB H b B H1) {c : Nat} (hc : H.length ≤ c) (x : ABlk) : OldB H b B (H1.set c x):=⟨h.lt,h.old.set (by rw [List.length_set]; exact hc) x⟩
theorem OldB.setB {H H1 : Heap} {b : Nat} {B : ABlk} (h : OldB H b B H1) (B' : ABlk) : OldB H b B' (H1.set b B'):=by
 have hl:=h.old.1
 rw [List.length_set] at hl
 refine ⟨h.lt,by rw [List.length_set,List.length_set]; exact hl,fun c hc=>?_⟩
 rw [List.length_set] at hc
 by_cases e : b = c
 ·subst e; rw [List.getElem?_set_self h.lt,List.getElem?_set_self (by have:=h.lt; omega)]
 ·have:=h.old.2 c (by rw [List.length_set]; exact hc)
  rw [List.getElem?_set_ne e] at this
  rw [List.getElem?_set_ne e,List.getElem?_set_ne e,this]
theorem OldB.ok {H H1 : Heap} {b : Nat} {B : ABlk} (h : OldB H b B H1) (hc : zIW H.length B = true) : OldOK H H1:=fun c hc'=>by
 have:=h.old.2 c (by rw [List.length_set]; exact hc')
 by_cases e : b = c
 ·subst e
  rw [List.getElem?_set_self hc'] at this
  exact .inr ⟨B,this,hc⟩
 ·rw [List.getElem?_set_ne e] at this
  exact .inl this
theorem OldB.take {H H1 : Heap} {b : Nat} {B : ABlk} (h : OldB H b B H1) : H1.take H.length = H.set b B:=by
 have:=h.old.take
 rwa [List.length_set] at this
structure retR (F : AF) (H : Heap) (fr : Fr) (H1 : Heap) (b : Nat) (r : Option (AV × ABlk)) : Prop where
 h : ∃ v B,r = some (v,B) ∧ zFJ F H fr H1 v (H.set b B)
structure panR (F : AF) (H : Heap) (b : Nat) (cs' : List AV) (x' : AV) (r : Option (AV × ABlk)) (x0 : AV) (H1 : Heap) : Prop where
 h : r = none ∧ ∃ x cs,panF F H x0 H1 x (H.set b (.box cs)) ∧ b < H.length ∧ WkL cs cs' ∧ Wk x x'
def finR (F : AF) (H : Heap) (b : Nat) (cs' : List AV) (x' : AV) (r : Option (AV × ABlk)) : Post:=fun e fr H1=>match e with
 | .normal=>retR F H fr H1 b r
 | .ret=>retR F H fr H1 b r
 | .pan x0=>panR F H b cs' x' r x0 H1
 | _=>False
def zC5 (C : CSpec) (GT : Nat → Option AV) (F : AF) (args : List AV) (H : Heap) (b : Nat) (cs' : List AV) (x' : AV) (r : Option (AV × ABlk)) : Prop:=EW C GT F.body (finR F H b cs' x' r) (zD5 0 args) H
theorem zAH {C : CSpec} {GT : Nat → Option AV} {F : AF} {args : List AV} {H : Heap} {b : Nat} {cs' : List AV} {x' : AV} {r : Option (AV × ABlk)} (h : EW C GT F.body (finR F H b cs' x' r) (zD5 0 args) H) : zC5 C GT F args H b cs' x' r:=h
theorem sRetO {F : AF} {H H1 H2 : Heap} {fr : Fr} {b : Nat} {r : Option (AV × ABlk)} (v0 : AV) {v : AV} {B : ABlk} (hr : r = some (v,B)) (hk : F.keep = false) (hs : (zBs fr H1 F.results).map tupled = some v0) (hf : zCh H.length v0 H1 = some (v,H2))
  (hb : v.bel H.length = true) (ho : OldB H b B H2) (hc : zIW H.length B = true) : retR F H fr H1 b r:=by
 refine ⟨v,B,hr, ?_⟩
 unfold zFJ
 cases hs' : zBs fr H1 F.results with
 | none=>rw [hs'] at hs; cases hs
 | some vs=>
  rw [hs'] at hs
  simp only [Option.map_some,Option.some.injEq] at hs
  subst hs
  simp only [hk,hf,Bool.false_eq_true,if_false]
  exact ⟨hb,ho.ok hc,trivial,ho.take.symm⟩
theorem zBU {F : AF} {a s : Nat} {ag : Bool} {H H1 H2 : Heap} {fr : Fr} {b : Nat} {r : Option (AV × ABlk)} (v0 : AV) {v : AV} {B : ABlk} (hr : r = some (v,B)) (hF : F.results = [.cell a s ag]) (hk : F.keep = false) {cs : List AV} {o : Nat} (hp : zw H1 (getF fr a) = some (cs,o)) (hpt : part cs o s ag = some v0)
  (hf : zCh H.length v0 H1 = some (v,H2)) (hb : v.bel H.length = true) (ho : OldB H b B H2) (hc : zIW H.length B = true) : retR F H fr H1 b r:=by
 refine sRetO v0 hr hk ?_ hf hb ho hc
 rw [zFP] at hp
 simp only [hF,zBs,resOf,hp,hpt,Option.map_some]
 rfl
theorem zBX {F : AF} {H H1 : Heap} {b : Nat} {cs cs' : List AV} {x x' : AV} {r : Option (AV × ABlk)} (hr : r = none) (hk : F.keep = false) (hf : zCh H.length x H1 = some (x,H1)) (hb : x.bel H.length = true) (ho : OldB H b (.box cs) H1) (hc : zIW H.length (.box cs) = true)
  (hw : WkL cs cs') (hx : Wk x x') : panR F H b cs' x' r x H1:=by
 refine ⟨hr,x,cs, ?_,ho.lt,hw,hx⟩
 unfold panF
 simp only [hk,hf,Bool.false_eq_true,if_false]
 exact ⟨hb,ho.ok hc,trivial,ho.take.symm⟩
theorem zCp {P : Program} {GT : Nat → Option AV} (hm : P.follows .mixedOrders = true) {f : FuncId} {F : AF} (hc : zAY P f F = true) {args : List AV} {H : Heap} {b : Nat} {cs' : List AV} {x' : AV} {r : Option (AV × ABlk)} (h : zC5 (Good P GT) GT F args H b cs' x' r) (hn : zF9 args = true:=by rfl) :
  (∀ v B,r = some (v,B) → Good P GT f args H v (H.set b B)) ∧ (r = none → Good P GT f (.pan .undef :: args) H x' (H.set b (.box cs'))):=by
 constructor
 ·intro v B hr
  subst hr
  refine zIr hm hc ?_ hn
  unfold AFun
  refine zDg _ _ _ _ _ H rfl (fun e f f' H1 hf h=>?_) h
  have : retR F H f H1 b (some (v,B)) → zFJ F H f' H1 v (H.set b B):=fun ⟨v',B',e,h⟩=>by
   cases e
   unfold zFJ at h ⊢
   rw [← zDh hf]; exact h
  cases e with
  | normal=>exact this h
  | ret=>exact this h
  | pan x=>exact absurd h.h.1 (by simp)
  | _=>exact h
 ·intro hr
  subst hr
  have h1 : AW (Good P GT) GT F.body (fun e fr H1=>match e with
    | .pan x0=>panR F H b cs' x' none x0 H1
    | _=>False) (zD5 0 args) H:=by
   refine zDg _ _ _ _ _ H rfl (fun e f f' H1 hf h=>?_) h
   have : retR F H f H1 b none → False:=fun ⟨v',B',e,h⟩=>by cases e
   cases e with
   | normal=>exact this h
   | ret=>exact this h
   | pan x=>exact h
   | _=>exact h
  unfold zAY at hc
  split at hc
  case h_2=>cases hc
  rename_i fn hfn
  simp only [Bool.and_eq_true,Bool.not_eq_true'] at hc
  obtain ⟨hname,hc⟩:=hc
  split at hc
  case h_2=>cases hc
  rename_i c hbody
  simp only [Bool.and_eq_true] at hc
  show GoodP P GT f args H x' (H.set b (.box cs'))
  intro w M I cargs hS hA
  have h2 : fn.name ≠ "runtime.NumGoroutine" := by simpa using hname
  have hrun : (callFunc f cargs.toArray).run P w = .ok (.enter f cargs.toArray) w:=by simp [callFunc,hfn,h2,hbody]
  rw [hrun]
  refine calls_of_wp hfn hbody ?_; refine zGb hm F.body c _ _ w M I H (zD5 0 args) _ hc.1 hS (zGc hS hA) h1 ?_
  intro e E fr' H1 a' w' M' I' hG hS' hF' hE hK
  cases e with
  | pan x0=>
   obtain ⟨xv,rfl,hr⟩:=hE
   obtain ⟨_,x,cs,hp,hlt,hw,hx⟩:=hK.h
   obtain ⟨I2,h3,h4,h5⟩:=panF_sound hS hG hS' hr hp
   have hbk : (H.set b (.box cs))[b]? = some (.box cs):=List.getElem?_set_self hlt
   have h6:=h4.weak hbk hw
   have h7:=h3.weak (cs':=cs') hbk
   rw [List.set_set] at h6 h7
   refine ⟨hF'.defers,xv,rfl,M',I2,h7,h6, ?_⟩
   rw [List.length_set] at h5 ⊢
   exact hx _ _ _ _ _ h5
  | _=>exact hK.elim
end Go.AM
set_option maxRecDepth 20000
namespace Go.AM
abbrev rdB (s : Bs) (p d : Nat) : ABlk:=.box [.str s,zR p,zR d]
abbrev pR (b : Nat) : AV:=.ref b 0 0 0
abbrev wkC (s : Bs) : List AV:=[.str s,.undef,.undef]
abbrev byV (c : UInt8) : AV:=.int .u8 c.toNat
def zDp : AV:=.iface zCZ (.agg [.sca,.iface zK .undef])
theorem wkSca (k : IntKind) (n : Int) : Wk (.int k n) .sca:=fun _ _ _ _ _ h=>by cases h; exact .sca _ rfl
theorem zEY (s : Bs) (p d : Nat) : WkL [.str s,zR p,zR d] (wkC s):=.cons (.refl _) (.cons (.undef _) (.cons (.undef _) .nil))
theorem zBY (a : Int) (y : AV) : Wk (.iface zCZ (.agg [.int .i64 a,.iface zK y])) zDp:=.iface (.agg (.cons (wkSca _ _) (.cons (.iface (.undef _)) .nil)))
theorem zG6 (s : Bs) (a b : Nat) (h : a ≤ b) (hb : b ≤ s.length) : zA9 none (.str s) (some (.int .i64 (a : Int))) (some (.int .i64 (b : Int))) = some (.str (sub s a b)):=by
 simp only [zA9,zCH,aHi,aLo]
 have h1 : ¬ ((a : Int) < 0):=by omega
 have h2 : ¬ ((b : Int) < 0):=by omega
 have e1 : (a : Int).toNat = a:=Int.toNat_natCast a
 have e2 : (b : Int).toNat = b:=Int.toNat_natCast b
 simp [h1,h2,e1,e2,h,hb,sub,List.drop_take]
theorem zFi (s : Bs) (a : Nat) (h : a ≤ s.length) : zA9 none (.str s) (some (.int .i64 (a : Int))) none = some (.str (s.drop a)):=by
 simp only [zA9,zCH,aHi,aLo]
 have h1 : ¬ ((a : Int) < 0):=by omega
 have e1 : (a : Int).toNat = a:=Int.toNat_natCast a
 simp [h1,e1,h]
theorem slice_up (s : Bs) (b : Nat) (hb : b ≤ s.length) : zA9 none (.str s) none (some (.int .i64 (b : Int))) = some (.str (s.take b)):=by
 simp only [zA9,zCH,aHi,aLo]
 have h2 : ¬ ((b : Int) < 0):=by omega
 have e2 : (b : Int).toNat = b:=Int.toNat_natCast b
 simp [h2,e2,hb]
section
variable {C : CSpec} {GT : Nat → Option AV}
theorem fwordly_ev (c : UInt8) (H : Heap) : EFun C GT zCG [byV c] H (.bool (zz c)) H:=by
 obtain ⟨r,hr⟩ : ∃ r,zz c = r:=⟨_,rfl⟩
 rw [hr]
 unfold zz at hr
 have hc : c.toNat < 256:=UInt8.toNat_lt c
 change EFun C GT zCG [.int .u8 (c.toNat : Int)] H (.bool r) H
 generalize c.toNat = n at *
 refine zW ?_
 by_cases h365 : n = 36
 ·have : r = true:=by rw [← hr]; simp; omega
  subst this
  refine zi tT <| zI <| zI <| zI <| zI <| zI ?_
  exact sRr
 by_cases h618 : n < 48
 ·have : r = false:=by rw [← hr]; simp; omega
  subst this
  refine zY tF <| zY tF <| zF <| zF <| zF <| zY tF <| zF <| zF ?_; refine zF <| zY tF <| zF <| zF ?_
  exact sRr
 by_cases h872 : n ≤ 57
 ·have : r = true:=by rw [← hr]; simp; omega
  subst this
  refine zY tF <| zi tT <| zI <| zF <| zi tT <| zI <| zI <| zI ?_
  exact sRr
 by_cases h1125 : n < 65
 ·have : r = false:=by rw [← hr]; simp; omega
  subst this
  refine zY tF <| zi tT <| zI <| zF <| zY tF <| zY tF <| zF <| zF ?_; refine zF <| zY tF <| zF <| zF ?_
  exact sRr
 by_cases h1380 : n ≤ 90
 ·have : r = true:=by rw [← hr]; simp; omega
  subst this
  refine zY tF <| zi tT <| zI <| zF <| zY tF <| zi tT <| zI <| zF ?_; refine zi tT <| zI ?_
  exact sRr
 by_cases h1634 : n < 97
 ·have : r = false:=by rw [← hr]; simp; omega
  subst this
  refine zY tF <| zi tT <| zI <| zF <| zY tF <| zi tT <| zI <| zF ?_; refine zY tF <| zY tF <| zF <| zF ?_
  exact sRr
 by_cases h1889 : n ≤ 122
 ·have : r = true:=by rw [← hr]; simp; omega
  subst this
  refine zY tF <| zi tT <| zI <| zF <| zY tF <| zi tT <| zI <| zF ?_; refine zY tF <| zi tT <| zI <| zF ?_
  exact sRetE (v0:=.bool (decide ((n : Int) ≤ 122))) (congrArg AV.bool (tT).symm) rfl rfl rfl rfl (Old.refl _)
 ·have : r = false:=by rw [← hr]; simp; omega
  subst this
  refine zY tF <| zi tT <| zI <| zF <| zY tF <| zi tT <| zI <| zF ?_; refine zY tF <| zi tT <| zI <| zF ?_
  exact sRetE (v0:=.bool (decide ((n : Int) ≤ 122))) (congrArg AV.bool (tF).symm) rfl rfl rfl rfl (Old.refl _)
theorem ffail_ev (b : Nat) (s : Bs) (p d : Nat) (a : Int) (e : Int) (H : Heap) (hb : H[b]? = some (rdB s p d)) : zC5 C GT zBm [pR b,.int .i64 a,zEX e] H b (wkC s) zDp none:=by
 refine zAH ?_; refine zJ (v:=[.int .i64 a,zEX e]) rfl ?_
 exact zBX (by first | rfl | assumption) rfl rfl rfl (OldB.start hb) rfl (by first | exact WkL.refl _ | exact zEY _ _ _) (by first | exact Wk.refl _ | exact zBY _ _)
theorem blanks_ev (b : Nat) (s : Bs) (p d : Nat) (H : Heap) (hb : H[b]? = some (rdB s p d)) (hp : p ≤ s.length) (hl : s.length ≤ 200) :
  zC5 C GT zBO [pR b] H b (wkC s) zDp (some (.tup [],rdB s (skip s p) d)):=by
 obtain ⟨q,hq⟩ : ∃ q,skip s p = q:=⟨_,rfl⟩
 rw [hq]
 refine zAH ?_; refine zCC (fun k : Nat=>[(0,pR b)]) (fun k H'=>H' = H.set b (rdB s k d) ∧ k ≤ s.length ∧ skip s k = q) (fun k=>s.length - k) p rfl ⟨(zIR hb).symm,hp,hq⟩ (fun k H1 ⟨e,hk,hs⟩=>?_)
 subst e
 by_cases hlt : k < s.length
 ·obtain ⟨c,hc⟩ : ∃ c,s[k]? = some c:=⟨_,List.getElem?_eq_getElem hlt⟩
  refine zC (zR k) (zE hb) rfl <| zC (AV.str s) (zE hb) rfl <| zi tT <| zC (AV.str s) (zE hb) rfl <| zC (zR k) (zE hb) rfl <| zBt rfl hc ?_; refine zI ?_
  by_cases h32 : c = 32
  ·subst h32
   rw [skip_blank hc] at hs
   refine zI <| zC (zR k) (zE hb) rfl <| zh (r:=k + 1) rfl tO <| zH (v:=.int .i64 ↑(k + 1)) [AV.str s,.int .i64 ↑(k + 1),zR d] (zE hb) rfl rfl rfl rfl ?_
   exact zAq (k + 1) rfl ⟨List.set_set ..,by omega,hs⟩ tO
  ·rw [zEQ (by rw [hc]; intro h; exact h32 (Option.some.inj h))] at hs
   subst hs
   have h33 : c.toNat ≠ 32:=fun h=>h32 (UInt8.toNat_inj.1 h)
   refine zY tN ?_
   exact sRetO _ (by first | rfl | assumption) rfl rfl rfl rfl ((OldB.start hb).setB _) rfl
 ·rw [zEQ (by rw [List.getElem?_eq_none tO]; simp)] at hs
  subst hs
  refine zC (zR k) (zE hb) rfl <| zC (AV.str s) (zE hb) rfl <| zY tF <| zF <| zF ?_
  exact sRetO _ (by first | rfl | assumption) rfl rfl rfl rfl ((OldB.start hb).setB _) rfl
theorem word_ev (hW : ∀ c H,C zAB [byV c] H (.bool (zz c)) H) (b : Nat) (s : Bs) (p d : Nat) (H : Heap) (hb : H[b]? = some (rdB s p d)) (hp : p ≤ s.length) (hl : s.length ≤ 200) :
  zC5 C GT zBp [pR b] H b (wkC s) zDp (some (.str (sub s p (zBx s p)),rdB s (zBx s p) d)):=by
 obtain ⟨q,hq⟩ : ∃ q,zBx s p = q:=⟨_,rfl⟩
 have hpq:=zJJ s p
 have hql:=zGJ hp
 rw [hq] at hpq hql ⊢
 refine zAH ?_; refine zC (zR p) hb rfl ?_; refine zCC (fun k : Nat=>[(0,pR b),(3,zR p)]) (fun k H'=>H' = H.set b (rdB s k d) ∧ k ≤ s.length ∧ zBx s k = q) (fun k=>s.length - k) p rfl ⟨(zIR hb).symm,hp,hq⟩ (fun k H1 ⟨e,hk,hs⟩=>?_)
 subst e
 dsimp only
 by_cases hlt : k < s.length
 ·obtain ⟨c,hc⟩ : ∃ c,s[k]? = some c:=⟨_,List.getElem?_eq_getElem hlt⟩
  have hw:=hW c
  by_cases hwc : zz c = true
  ·rw [zFZ hc hwc] at hs
   rw [hwc] at hw
   clear hW
   refine zC (zR k) (zE hb) rfl <| zC (AV.str s) (zE hb) rfl <| zi tT <| zC (AV.str s) (zE hb) rfl <| zC (zR k) (zE hb) rfl <| zBt rfl hc ?_; refine zG (hw _) <| zI <| zI <| zC (zR k) (zE hb) rfl <| zh (r:=k + 1) rfl tO <| zH (v:=.int .i64 ↑(k + 1)) [AV.str s,.int .i64 ↑(k + 1),zR d] (zE hb) rfl rfl rfl rfl ?_
   exact zAq (k + 1) rfl ⟨List.set_set ..,by omega,hs⟩ tO
  ·have hwc:=Bool.eq_false_iff.2 hwc
   rw [zG2 (fun c' h=>by rw [hc] at h; cases h; exact hwc)] at hs
   subst hs
   rw [hwc] at hw
   clear hW
   refine zC (zR k) (zE hb) rfl <| zC (AV.str s) (zE hb) rfl <| zi tT <| zC (AV.str s) (zE hb) rfl <| zC (zR k) (zE hb) rfl <| zBt rfl hc ?_; refine zG (hw _) <| zI <| zF <| zC (AV.str s) (zE hb) rfl <| zC (zR k) (zE hb) rfl <| zJ (v:=.str (sub s p k)) (zG6 s p k tO tO) ?_
   exact sRetO _ (by first | rfl | assumption) rfl rfl rfl rfl ((OldB.start hb).setB _) rfl
 ·rw [zG2 (fun c' h=>by rw [List.getElem?_eq_none tO] at h; cases h)] at hs
  subst hs
  clear hW
  refine zC (zR k) (zE hb) rfl <| zC (AV.str s) (zE hb) rfl <| zY tF <| zF <| zF <| zC (AV.str s) (zE hb) rfl ?_; refine zC (zR k) (zE hb) rfl <| zJ (v:=.str (sub s p k)) (zG6 s p k tO tO) ?_
  exact sRetO _ (by first | rfl | assumption) rfl rfl rfl rfl ((OldB.start hb).setB _) rfl
end
end Go.AM
