/- Several texts of mine in one (Fp0, Fp1, Fqs, Fq0, Zp, Trm, Pre, Bg0). Own work. -/
import Derived.Test.YtmfmhljpddpfnaaGreatDoorGAm23Am35
import Derived.Test.YtmfmhljpddpfnaaGreatDoorLc
set_option maxRecDepth 20000
set_option linter.all false
namespace Go.AM
abbrev Bs:=List UInt8
def zPY:Bs->Nat
 |[]=>0
 |c::r=>if c=32 then zPY r+1 else 0
def skip (s:Bs) (a:Nat):Nat:=a+zPY (s.drop a)
def zh (c:UInt8):Bool:=c.toNat==36||(decide (48<=c.toNat)&&decide (c.toNat<=57))||(decide (65<=c.toNat)&&decide (c.toNat<=90))||(decide (97<=c.toNat)&&decide (c.toNat<=122))
def zdP:Bs->Nat
 |[]=>0
 |c::r=>if zh c=true then zdP r+1 else 0
def zlz (s:Bs) (a:Nat):Nat:=a+zdP (s.drop a)
def sub (s:Bs) (a b:Nat):Bs:=(s.drop a).take (b-a)
theorem zBh {s:Bs} {a:Nat} {c:UInt8} (h:s[a]?=some c):s.drop a=c::s.drop (a+1):=by
 obtain ⟨h1,h2⟩:=zg h;rw [zmF h1,h2]
theorem zJM {s:Bs} {a:Nat} (h:s[a]?=none):s.drop a=[]:=zmM (znK.1 h)
theorem zMP {s:Bs} {a:Nat} (h:s[a]?=some 32):skip s a=skip s (a+1):=by
 unfold skip;rw [zBh h,zPY,zoQ rfl];omega
theorem zDg {s:Bs} {a:Nat} (h:s[a]?≠some 32):skip s a=a:=by
 unfold skip;cases e:s[a]? with
 |none=>rw [zJM e];rfl
 |some c=>rw [zBh e,zPY,zWl (fun h'=>h (by rw [e,h']))];rfl
theorem zFg (s:Bs) (a:Nat):a<=skip s a:=Nat.le_add_right _ _
theorem zVd:∀ l:Bs,zPY l<=l.length
 |[]=>zoR _
 |c::r=>by
  simp only [zPY];have:=zVd r;split <;> simp only [zoN] <;> omega
theorem zCO {s:Bs} {a:Nat} (h:a<=s.length):skip s a<=s.length:=by
 unfold skip;have:=zVd (s.drop a);rw [zok] at this;omega
theorem zVe:∀ l:Bs,l[zPY l]?≠some 32
 |[]=>by simp [zPY]
 |c::r=>by
  by_cases h:c=32
  ·rw [zPY,zoQ h,znA];exact zVe r
  ·rw [zPY,zWl h];simpa using h
theorem zUG (s:Bs) (a:Nat):s[skip s a]?≠some 32:=by
 have:=zVe (s.drop a)
 rwa [zo1] at this
theorem zGN (s:Bs) (a:Nat):skip s (skip s a)=skip s a:=zDg (zUG s a)
theorem zHj {s:Bs} {a:Nat} {c:UInt8} (h:s[a]?=some c) (hc:zh c=true):zlz s a=zlz s (a+1):=by
 unfold zlz;rw [zBh h,zdP,zoQ hc];omega
theorem zHk {s:Bs} {a:Nat} (h:∀ c,s[a]?=some c->zh c=false):zlz s a=a:=by
 unfold zlz;cases e:s[a]? with
 |none=>rw [zJM e];rfl
 |some c=>rw [zBh e,zdP,zWl (by rw [h c e];simp)];rfl
theorem zKn (s:Bs) (a:Nat):a<=zlz s a:=Nat.le_add_right _ _
theorem zZU:∀ l:Bs,zdP l<=l.length
 |[]=>zoR _
 |c::r=>by
  simp only [zdP];have:=zZU r;split <;> simp only [zoN] <;> omega
theorem zJN {s:Bs} {a:Nat} (h:a<=s.length):zlz s a<=s.length:=by
 unfold zlz;have:=zZU (s.drop a);rw [zok] at this;omega
def quo:Bs->Nat->Option (Bs×Nat)
 |[],_=>none
 |[c],i=>if c=34 then some ([],i+1) else none
 |c::d::r,i=>if c=34 then (if d=34 then (quo r (i+2)).map fun p=>(34::p.1,p.2) else some ([],i+1)) else (quo (d::r) (i+1)).map fun p=>(c::p.1,p.2)
def wrongs:List Bs:=[[35,68,73,86,33],[35,86,65,76,85,69,33],[35,82,69,70,33],[35,78,65,77,69,33],[35,78,85,77,33],[35,78,79,78,69,33]]
def zKK (l:Bs):List Bs->Nat->Option (Nat×Nat)
 |[],_=>none
 |t::ts,k=>if l.take t.length=t then some (k,t.length) else zKK l ts (k+1)
inductive Tok where
 |fin
 |word (e:Nat) (t:Bs)
 |txt (e:Nat) (t:Bs)
 |bad (e k:Nat)
 |sign (e:Nat) (t:Bs)
 |none
 deriving Inhabited
def zBi (s:Bs) (a:Nat):Tok:=
 match s[a]? with
 |.none=>.fin
 |some c=>
  if zh c=true then .word (zlz s a) (sub s a (zlz s a))
  else if c=34 then (match quo (s.drop (a+1)) (a+1) with
   |some (t,e)=>.txt e t
   |.none=>.none)
  else if c=35 then (match zKK (s.drop a) wrongs 1 with
   |some (k,n)=>.bad (a+n) k
   |.none=>.none)
  else match s[a+1]? with
   |some d=>if (c=60/\d=62)\/(c=60/\d=61)\/(c=62/\d=61) then .sign (a+2) [c,d] else .sign (a+1) [c]
   |.none=>.sign (a+1) [c]
def tok (s:Bs) (a:Nat):Tok:=zBi s (skip s a)
theorem zLg (s:Bs) (a:Nat):tok s (skip s a)=tok s a:=by unfold tok;rw [zGN]
def Tok.endsBy (a:Nat):Tok->Nat->Prop
 |.word e _,n=>a<e/\e<=n
 |.txt e _,n=>a<e/\e<=n
 |.bad e _,n=>a<e/\e<=n
 |.sign e _,n=>a<e/\e<=n
 |_,_=>True
theorem zRC:∀ (l:Bs) (i:Nat) (t:Bs) (e:Nat),quo l i=some (t,e)->i<e/\e<=i+l.length
 |[],_,_,_,h=>by simp [quo] at h
 |[c],i,t,e,h=>by
  simp only [quo] at h;split at h
  ·grind
  ·cases h
 |c::d::r,i,t,e,h=>by
  simp only [quo] at h;split at h
  ·split at h
   ·rw [zoV] at h;obtain ⟨⟨t',e'⟩,h1,h2⟩:=h;simp only [zob] at h2;have:=zRC r (i+2) t' e' h1;simp only [zoN];omega
   ·simp only [zoS,zob] at h;obtain ⟨_,rfl⟩:=h;simp
  ·rw [zoV] at h;obtain ⟨⟨t',e'⟩,h1,h2⟩:=h;simp only [zob] at h2;have:=zRC (d::r) (i+1) t' e' h1;simp only [zoN] at this ⊢;omega
theorem zOd (l:Bs):∀ (ts:List Bs) (k:Nat) (p:Nat×Nat),zKK l ts k=some p->(∀ t∈ts,t≠[])->0<p.2/\p.2<=l.length
 |[],_,_,h,_=>by simp [zKK] at h
 |t::ts,k,p,h,ht=>by
  simp only [zKK] at h;split at h
  ·grind
  ·exact zOd l ts _ p h fun t h=>ht t (by simp [h])
theorem zP5 {s:Bs} {a:Nat}:(zBi s a).endsBy a s.length:=by
 unfold zBi;cases e:s[a]? with
 |none=>trivial
 |some c=>
  have ha:=(zl_ e);simp only;split
  ·rename_i hw;have h1:=zHj e hw;have h2:=zKn s (a+1);have h3:=zJN (s:=s) (a:=a) tO;show a<zlz s a/\zlz s a<=s.length;omega
  ·split
   ·split
    ·rename_i t e' hq;have:=zRC _ _ _ _ hq;rw [zok] at this;show a<e'/\e'<=s.length;omega
    ·trivial
   ·split
    ·split
     ·rename_i k n hb;have:=zOd _ _ _ _ hb zD_;rw [zok] at this;simp only at this;show a<a+n/\a+n<=s.length;omega
     ·trivial
    ·cases e2:s[a+1]? with
     |none=>show a<a+1/\a+1<=s.length;omega
     |some d=>
      have ha2:=(zl_ e2);simp only;split
      ·show a<a+2/\a+2<=s.length;omega
      ·show a<a+1/\a+1<=s.length;omega
theorem zB7 (s:Bs) (a:Nat):(tok s a).endsBy a s.length:=by
 have h:=zP5 (s:=s) (a:=skip s a);have h2:=zFg s a;unfold tok;revert h;cases zBi s (skip s a) <;> simp only [Tok.endsBy] <;> first|exact fun _=>trivial|(intro h;omega)
structure RefP where
 col:Int
 row:Int
 fc:Bool
 fr:Bool
 deriving DecidableEq,Inhabited
def noRef:RefP:=⟨0,0,false,false⟩
inductive Nd where
 |mk (kind num:Int) (text:Bs) (ref to:RefP) (kids:List Nd)
 deriving Inhabited
namespace Nd
def kind:Nd->Int|mk a _ _ _ _ _=>a
def num:Nd->Int|mk _ a _ _ _ _=>a
def text:Nd->Bs|mk _ _ a _ _ _=>a
def ref:Nd->RefP|mk _ _ _ a _ _=>a
def to:Nd->RefP|mk _ _ _ _ a _=>a
def kids:Nd->List Nd|mk _ _ _ _ _ a=>a
def kq:Nd->Bool|mk _ _ _ _ _ []=>true|mk _ _ _ _ _ (_::_)=>false
def kk:Nd->Nat|mk _ _ _ _ _ []=>0|mk _ _ _ _ _ (_::_)=>12
end Nd
mutual
def kxs:Nd->List AV
 |.mk _ _ _ _ _ ks=>zdQ ks
def zdQ:List Nd->List AV
 |[]=>[]
 |k::r=>.agg [.int .i64 k.kind,.int .i64 k.num,.str k.text,.int .i64 k.ref.col,.int .i64 k.ref.row,.bool k.ref.fc,.bool k.ref.fr,.int .i64 k.to.col,.int .i64 k.to.row,.bool k.to.fc,.bool k.to.fr,.lst (some k.kq) k.kk (kxs k)]::zdQ r
end
def ndC (k:Nd):List AV:=[.int .i64 k.kind,.int .i64 k.num,.str k.text,.int .i64 k.ref.col,.int .i64 k.ref.row,.bool k.ref.fc,.bool k.ref.fr,.int .i64 k.to.col,.int .i64 k.to.row,.bool k.to.fc,.bool k.to.fr,.lst (some k.kq) k.kk (kxs k)]
def ndV (k:Nd):AV:=.agg (ndC k)
theorem zJi:∀ ks:List Nd,zdQ ks=ks.map ndV
 |[]=>rfl
 |k::r=>by rw [zdQ,zoa,zJi r];rfl
def zJj (n:Int):Nd:=.mk 1 n [] noRef noRef []
def zHG (t:Bs):Nd:=.mk 2 0 t noRef noRef []
def zE3 (b:Bool):Nd:=.mk 3 (if b then 1 else 0) [] noRef noRef []
def zHJ (k:Nat):Nd:=.mk 4 k [] noRef noRef []
def zB3 (r:RefP):Nd:=.mk 5 0 [] r noRef []
def zAy (a b:RefP):Nd:=.mk 6 0 [] a b []
def zl1 (n:Nd):Nd:=.mk 7 0 [] noRef noRef [n]
def zAn (op:Nat) (a b:Nd):Nd:=.mk 8 op [] noRef noRef [a,b]
def zAw (name:Bs) (ks:List Nd):Nd:=.mk 9 0 name noRef noRef ks
def zU:Nd:=.mk 0 0 [] noRef noRef []
def zGr (c:UInt8):Bool:=decide (48<=c.toNat)&&decide (c.toNat<=57)
def zDl (l:Bs):Nat:=l.foldl (fun n c=>n*10+(c.toNat-48)) 0
def zCL (t:Bs):Option Int:=
 if t=[]\/(t.head?=some 48/\t≠[48]) then none
 else if t.all zGr=true then (if zDl t<=9223372036854775807 then some (zDl t:Int) else none) else none
def zO7 (c:UInt8):Bool:=decide (65<=c.toNat)&&decide (c.toNat<=90)
def dollar:Bs->Bool×Bs
 |[]=>(false,[])
 |c::r=>if c=36 then (true,r) else (false,c::r)
def zdR (fc:Bool) (col:Int) (p:Bool×Bs):Option RefP:=
 match zCL p.2 with
 |some n=>if 1<=n/\n<=99 then some ⟨col,n,fc,p.1⟩ else none
 |none=>none
def zRq (p:Bool×Bs):Option RefP:=
 match p.2 with
 |[]=>none
 |c::r=>if zO7 c=true then zdR p.1 ((c.toNat:Int)-64) (dollar r) else none
def zE8 (t:Bs):Option RefP:=zRq (dollar t)
def zFx:Bs:=[84,82,85,69]
def zDS:Bs:=[70,65,76,83,69]
def zII (t:Bs):Option Nd:=
 match zCL t with
 |some n=>some (zJj n)
 |none=>if t=zFx then some (zE3 true) else if t=zDS then some (zE3 false) else (zE8 t).map zB3
def zA3 (t:Bs):Bool:=decide (2<=t.length)&&decide (t.length<=10)&&t.all zO7
def zCE (t:Bs):Nat:=
 if t=[61] then 1 else if t=[60,62] then 2 else if t=[60] then 3 else if t=[60,61] then 4 else if t=[62] then 5 else if t=[62,61] then 6
 else if t=[38] then 7 else if t=[43] then 8 else if t=[45] then 9 else if t=[42] then 10 else if t=[47] then 11 else 0
def tight (op:Nat):Nat:=if op<=6 then 1 else if op=7 then 2 else if op<=9 then 3 else 4
def zHl (s:Bs) (a:Nat):Option (Nat×Nat):=
 match tok s a with
 |.sign e t=>if zCE t=0 then none else some (zCE t,e)
 |_=>none
structure Ps where
 one:Nat->Nat->Option (Nd×Nat)
 loose:Nat->Nat->Nat->Option (Nd×Nat)
 ll:Nat->Nd->Nat->Nat->Option (Nd×Nat)
 args:Bs->List Nd->Nat->Nat->Option (Nd×Nat)
def zDw (s:Bs) (a:Nat):Option (Option (Nd×Nat)):=
 match tok s a with
 |.word e t=>match zE8 t with
  | some r=>if s[e]?=some 58 then
    (match zBi s (e+1) with
     |.word e2 t2=>some ((zE8 t2).map fun r2=>(zAy r r2,e2))
     |_=>some none)
    else none
  |none=>none
 |_=>none
def zB8 (s:Bs) (q:Ps) (a d:Nat):Option (Nd×Nat):=
 match tok s a with
 |.word e t=>
  if zA3 t=true/\s[e]?=some 40 then
   (if d=30 then none else match tok s (e+1) with
    |.sign e2 [41]=>some (zAw t [],e2)
    |_=>q.args t [] (e+1) (d+1))
  else (zII t).map fun n=>(n,e)
 |.txt e t=>some (zHG t,e)
 |.bad e k=>some (zHJ k,e)
 |.sign e [45]=>if d=30 then none else (q.one e (d+1)).map fun p=>(zl1 p.1,p.2)
 |.sign e [40]=>if d=30 then none else (q.loose 1 e (d+1)).bind fun p=>match tok s p.2 with
  |.sign e2 [41]=>some (p.1,e2)
  |_=>none
 |_=>none
def zEU (q:Ps) (least a d:Nat):Option (Nd×Nat):=(q.one a d).bind fun p=>q.ll least p.1 p.2 d
def zNV (s:Bs) (q:Ps) (least:Nat) (n:Nd) (a d:Nat):Option (Nd×Nat):=
 match zHl s a with
 |none=>some (n,a)
 |some (op,e)=>if tight op<least then some (n,a) else (q.loose (tight op+1) e d).bind fun p=>q.ll least (zAn op n p.1) p.2 d
def zFX (s:Bs) (q:Ps) (a d:Nat):Option (Nd×Nat):=
 match zDw s a with
 |some r=>r
 |none=>q.loose 1 a d
def zFp (s:Bs) (q:Ps) (name:Bs) (ks:List Nd) (a d:Nat):Option (Nd×Nat):=
 (zFX s q a d).bind fun p=>match tok s p.2 with
  |.sign e [44]=>q.args name (ks++[p.1]) e d
  |.sign e [41]=>some (zAw name (ks++[p.1]),e)
  |_=>none
def ps (s:Bs):Nat->Ps
 |0=>⟨fun _ _=>none,fun _ _ _=>none,fun _ _ _ _=>none,fun _ _ _ _=>none⟩
 |n+1=>⟨zB8 s (ps s n),zEU (ps s n),zNV s (ps s n),zFp s (ps s n)⟩
structure Ends (s:Bs) (q:Ps):Prop where
 one:∀ a d p,a<=s.length->q.one a d=some p->a<p.2/\p.2<=s.length
 loose:∀ l a d p,a<=s.length->q.loose l a d=some p->a<p.2/\p.2<=s.length
 ll:∀ l n a d p,a<=s.length->q.ll l n a d=some p->a<=p.2/\p.2<=s.length
 args:∀ nm ks a d p,a<=s.length->q.args nm ks a d=some p->a<p.2/\p.2<=s.length
theorem zDh {s:Bs} {a op e:Nat} (h:zHl s a=some (op,e)):a<e/\e<=s.length:=by
 have ht:=zB7 s a;unfold zHl at h;split at h
 ·grind +locals
 ·cases h
theorem zP6 {s:Bs} {a:Nat} {p:Nd×Nat} (h:zDw s a=some (some p)):a<p.2/\p.2<=s.length:=by
 have ht:=zB7 s a;unfold zDw at h;split at h
 ·rename_i e t hk;rw [hk] at ht;simp only [Tok.endsBy] at ht;split at h
  ·rename_i r hr;split at h
   ·rename_i hc;have h2:=zP5 (s:=s) (a:=e+1);split at h
    ·rename_i e2 t2 hk2;rw [hk2] at h2;simp only [Tok.endsBy] at h2;simp only [zoS,zoV] at h;obtain ⟨r2,_,rfl⟩:=h;exact ⟨by show a<e2;omega,h2.2⟩
    ·cases h
   ·cases h
  ·cases h
 ·cases h
theorem zXR {s:Bs} {q:Ps} (hq:Ends s q) (a d:Nat) (p:Nd×Nat) (ha:a<=s.length) (h:zB8 s q a d=some p):a<p.2/\p.2<=s.length:=by
 have ht:=zB7 s a;unfold zB8 at h;split at h
 ·rename_i e t hk;rw [hk] at ht;simp only [Tok.endsBy] at ht;split at h
  ·rename_i hc;have he:=(zg hc.2).1;split at h
   ·cases h
   ·have ht2:=zB7 s (e+1);split at h
    ·rename_i e2 hk2;rw [hk2] at ht2;simp only [Tok.endsBy] at ht2;cases h;exact ⟨by show a<e2;omega,ht2.2⟩
    ·have:=hq.args _ _ _ _ p tO h;omega
  ·simp only [zoV] at h;obtain ⟨_,_,rfl⟩:=h;exact ht
 ·grind +locals
 ·grind +locals
 ·rename_i e hk;rw [hk] at ht;simp only [Tok.endsBy] at ht;split at h
  ·cases h
  ·simp only [zoV] at h;obtain ⟨p',h1,rfl⟩:=h;have:=hq.one e (d+1) p' tO h1;exact ⟨by show a<p'.2;omega,this.2⟩
 ·rename_i e hk;rw [hk] at ht;simp only [Tok.endsBy] at ht;split at h
  ·cases h
  ·rw [zor] at h;obtain ⟨p',h1,h2⟩:=h;have:=hq.loose 1 e (d+1) p' tO h1;have ht2:=zB7 s p'.2;split at h2
   ·rename_i e2 hk2;rw [hk2] at ht2;simp only [Tok.endsBy] at ht2;cases h2;exact ⟨by show a<e2;omega,ht2.2⟩
   ·cases h2
 ·cases h
theorem zHm {s:Bs} {q:Ps} (hq:Ends s q) (a d:Nat) (p:Nd×Nat) (ha:a<=s.length) (h:zFX s q a d=some p):a<p.2/\p.2<=s.length:=by
 unfold zFX at h;split at h
 ·rename_i r hb;subst h;exact zP6 hb
 ·exact hq.loose 1 a d p ha h
theorem zKo (s:Bs):∀ n,Ends s (ps s n)
 |0=>⟨fun _ _ _ _ h=>by simp [ps] at h,fun _ _ _ _ _ h=>by simp [ps] at h,fun _ _ _ _ _ _ h=>by simp [ps] at h,fun _ _ _ _ _ _ h=>by simp [ps] at h⟩
 |n+1=>by
  have ih:=zKo s n;refine ⟨fun a d p ha h=>zXR ih a d p ha h,fun l a d p ha h=>?_,fun l nd a d p ha h=>?_,fun nm ks a d p ha h=>?_⟩
  ·change zEU (ps s n) l a d=some p at h;unfold zEU at h;rw [zor] at h;obtain ⟨p',h1,h2⟩:=h;have e1:=ih.one a d p' ha h1;have e2:=ih.ll l p'.1 p'.2 d p tO h2;omega
  ·change zNV s (ps s n) l nd a d=some p at h;unfold zNV at h;split at h
   ·cases h;exact ⟨zoR _,ha⟩
   ·rename_i op e ho;have he:=zDh ho;split at h
    ·cases h;exact ⟨zoR _,ha⟩
    ·rw [zor] at h;obtain ⟨p',h1,h2⟩:=h;have e1:=ih.loose _ e d p' tO h1;have e2:=ih.ll l _ p'.2 d p tO h2;omega
  ·change zFp s (ps s n) nm ks a d=some p at h;unfold zFp at h;rw [zor] at h;obtain ⟨p',h1,h2⟩:=h;have e1:=zHm ih a d p' ha h1;have ht:=zB7 s p'.2;split at h2
   ·rename_i e hk;rw [hk] at ht;simp only [Tok.endsBy] at ht;have:=ih.args _ _ e d p tO h2;omega
   ·grind +locals
   ·cases h2
structure Agree (s:Bs) (q r:Ps) (K:Nat):Prop where
 one:∀ a d,a<=s.length->4*(s.length-a)+1<=K->q.one a d=r.one a d
 loose:∀ l a d,a<=s.length->4*(s.length-a)+2<=K->q.loose l a d=r.loose l a d
 ll:∀ l n a d,a<=s.length->4*(s.length-a)+1<=K->q.ll l n a d=r.ll l n a d
 args:∀ nm ks a d,a<=s.length->4*(s.length-a)+3<=K->q.args nm ks a d=r.args nm ks a d
theorem zEV {α β:Type} {x y:Option α} {f g:α->Option β} (h:x=y) (hf:∀ p,y=some p->f p=g p):x.bind f=y.bind g:=by
 subst h;cases x with
 |none=>rfl
 |some p=>exact hf p rfl
theorem zOe {s:Bs} {q r:Ps} {K:Nat} (h:Agree s q r K) {a:Nat} (d:Nat) (ha:a<=s.length) (hK:4*(s.length-a)+1<=K+1):zB8 s q a d=zB8 s r a d:=by
 have ht:=zB7 s a;unfold zB8;cases hk:tok s a with
 |word e t=>
  rw [hk] at ht;simp only [Tok.endsBy] at ht;simp only;split
  ·rename_i hc;have he:=(zg hc.2).1;split
   ·rfl
   ·rw [h.args t [] (e+1) (d+1) tO tO]
  ·rfl
 |sign e t=>
  rw [hk] at ht;simp only [Tok.endsBy] at ht;have e1:=h.one e (d+1) tO tO;have e2:=h.loose 1 e (d+1) tO tO;by_cases h1:t=[45]
  ·subst h1;simp only [e1]
  ·grind
 |_=>rfl
theorem zP7 {s:Bs} {q r:Ps} {K:Nat} (h:Agree s q r K) (hr:Ends s r) (l:Nat) (n:Nd) {a:Nat} (d:Nat) (ha:a<=s.length) (hK:4*(s.length-a)+1<=K+1):zNV s q l n a d=zNV s r l n a d:=by
 unfold zNV;split
 ·rfl
 ·rename_i op e ho;have he:=zDh ho;split
  ·rfl
  ·refine zEV (h.loose _ e d tO tO) fun p hp=>?_;have:=hr.loose _ e d p tO hp;exact h.ll _ _ _ _ tO tO
theorem zMs {s:Bs} {q r:Ps} {K:Nat} (h:Agree s q r K) (hr:Ends s r) (nm:Bs) (ks:List Nd) {a:Nat} (d:Nat) (ha:a<=s.length) (hK:4*(s.length-a)+3<=K+1):zFp s q nm ks a d=zFp s r nm ks a d:=by
 unfold zFp;have e1:zFX s q a d=zFX s r a d:=by
  unfold zFX;split
  ·rfl
  ·exact h.loose _ _ _ ha tO
 refine zEV e1 fun p hp=>?_;have h1:=zHm hr a d p ha hp;have ht:=zB7 s p.2;split
 ·rename_i e hk;rw [hk] at ht;simp only [Tok.endsBy] at ht;exact h.args _ _ _ _ tO tO
 ·rfl
 ·rfl
theorem zLh {s:Bs} {q r:Ps} {K:Nat} (h:Agree s q r K) (hr:Ends s r) (l:Nat) {a:Nat} (d:Nat) (ha:a<=s.length) (hK:4*(s.length-a)+2<=K+1):zEU q l a d=zEU r l a d:=by
 unfold zEU;refine zEV (h.one a d ha tO) fun p hp=>?_;have:=hr.one a d p ha hp;exact h.ll _ _ _ _ tO tO
theorem zVf (s:Bs):∀ K N M,K<=N->K<=M->Agree s (ps s N) (ps s M) K
 |0,_,_,_,_=>⟨fun _ _ _ h=>by omega,fun _ _ _ _ h=>by omega,fun _ _ _ _ _ h=>by omega,fun _ _ _ _ _ h=>by omega⟩
 |K+1,N,M,hN,hM=>by
  obtain ⟨n,rfl⟩:∃ n,N=n+1:=⟨N-1,by omega⟩;obtain ⟨m,rfl⟩:∃ m,M=m+1:=⟨M-1,by omega⟩;have ih:=zVf s K n m tO tO;have hr:=zKo s m;exact ⟨fun a d ha h=>zOe ih d ha h,fun l a d ha h=>zLh ih hr l d ha h,fun l nd a d ha h=>zP7 ih hr l nd d ha h,fun nm ks a d ha h=>zMs ih hr nm ks d ha h⟩
def zUH (s:Bs):Nat:=4*s.length+3
def P (s:Bs):Ps:=ps s (zUH s+1)
theorem zCr (s:Bs):Ends s (P s):=zKo s _
theorem zRD (s:Bs):Agree s (ps s (zUH s)) (P s) (zUH s):=zVf s _ _ _ (zoR _) (Nat.le_succ _)
theorem zPZ {s:Bs} {a:Nat} (d:Nat) (ha:a<=s.length):(P s).one a d=zB8 s (P s) a d:=zOe (zRD s) d ha (by unfold zUH;omega)
theorem zJO {s:Bs} {a:Nat} (l d:Nat) (ha:a<=s.length):(P s).loose l a d=zEU (P s) l a d:=zLh (zRD s) (zCr s) l d ha (by unfold zUH;omega)
theorem zTf {s:Bs} {a:Nat} (l:Nat) (n:Nd) (d:Nat) (ha:a<=s.length):(P s).ll l n a d=zNV s (P s) l n a d:=zP7 (zRD s) (zCr s) l n d ha (by unfold zUH;omega)
theorem zMt {s:Bs} {a:Nat} (nm:Bs) (ks:List Nd) (d:Nat) (ha:a<=s.length):(P s).args nm ks a d=zFp s (P s) nm ks a d:=zMs (zRD s) (zCr s) nm ks d ha (by unfold zUH;omega)
def zAj (s:Bs):Option Nd:=
 if s.length<=200/\s.head?=some 61 then ((P s).loose 1 1 0).bind fun p=>match tok s p.2 with
  |.fin=>some p.1
  |_=>none
 else none
theorem zOf (s:Bs) (a:Nat):zHl s (skip s a)=zHl s a:=by unfold zHl;rw [zLg]
theorem zdS {s:Bs} {a:Nat} (d:Nat) (ha:a<=s.length):(P s).one (skip s a) d=(P s).one a d:=by
 rw [zPZ d (zCO ha),zPZ d ha];unfold zB8;rw [zLg]
theorem zP8 {s:Bs} {a:Nat} (l d:Nat) (ha:a<=s.length):(P s).loose l (skip s a) d=(P s).loose l a d:=by
 rw [zJO l d (zCO ha),zJO l d ha];unfold zEU;rw [zdS d ha]
def bl (s:Bs) (r:Option (Nd×Nat)):Option (Nd×Nat):=r.map fun p=>(p.1,skip s p.2)
theorem zZV {s:Bs} {a:Nat} (l:Nat) (n:Nd) (d:Nat) (ha:a<=s.length):bl s ((P s).ll l n (skip s a) d)=bl s ((P s).ll l n a d):=by
 rw [zTf l n d (zCO ha),zTf l n d ha];unfold zNV;rw [zOf];split
 ·simp only [bl,zoe,zGN]
 ·split
  ·simp only [bl,zoe,zGN]
  ·rfl
theorem zdT {s:Bs} (l d:Nat):∀ (k:Nat) (n:Nd) (a:Nat),a<=s.length->s.length-a<=k->(P s).ll l n a d=((P s).ll (l+1) n a d).bind fun p=>(P s).ll l p.1 p.2 d:=by
 intro k;induction k with
 |zero=>
  intro n a ha hk;have h0:zHl s a=none:=by
   cases h:zHl s a with
   |none=>rfl
   |some p=>obtain ⟨op,e⟩:=p;have:=zDh h;omega
  have h1:(P s).ll (l+1) n a d=some (n,a):=by rw [zTf _ n d ha];unfold zNV;rw [h0]
  rw [h1];rfl
 |succ k ih=>
  intro n a ha hk;cases h:zHl s a with
  |none=>
   have h1:(P s).ll (l+1) n a d=some (n,a):=by rw [zTf _ n d ha];unfold zNV;rw [h]
   rw [h1];rfl
  |some p=>
   obtain ⟨op,e⟩:=p;have he:=zDh h;by_cases ht:tight op<l+1
   ·have h1:(P s).ll (l+1) n a d=some (n,a):=by rw [zTf _ n d ha];unfold zNV;rw [h];simp only;rw [zoQ ht]
    rw [h1];rfl
   ·have h1:∀ l',l'<=l+1->(P s).ll l' n a d=((P s).loose (tight op+1) e d).bind fun p=>(P s).ll l' (zAn op n p.1) p.2 d:=fun l' hl=>by
     rw [zTf _ n d ha];unfold zNV;rw [h];simp only;rw [zWl tO]
    rw [h1 l tO,h1 (l+1) (zoR _),Option.bind_assoc];refine zEV rfl fun p hp=>?_;have:=(zCr s).loose _ e d p tO hp;exact ih _ _ tO tO
theorem zgm {s:Bs} (l d:Nat):∀ (k:Nat) (n:Nd) (a:Nat) (p:Nd×Nat),a<=s.length->s.length-a<=k->(P s).ll l n a d=some p->∀ op e,zHl s p.2=some (op,e)->tight op<l:=by
 intro k;induction k with
 |zero=>
  intro n a p ha hk h op e ho;have:=(zCr s).ll _ _ _ _ p ha h;have:=zDh ho;omega
 |succ k ih=>
  intro n a p ha hk h op e ho;rw [zTf _ n d ha] at h;unfold zNV at h;split at h
  ·rename_i h0;cases h;rw [h0] at ho;cases ho
  ·rename_i op' e' h0;have he:=zDh h0;split at h
   ·rename_i ht;cases h;rw [h0] at ho;cases ho;exact ht
   ·rw [zor] at h;obtain ⟨p',h1,h2⟩:=h;have:=(zCr s).loose _ e' d p' tO h1;exact ih _ _ p tO tO h2 op e ho
theorem zUI {s:Bs} {a:Nat} (l d:Nat) (ha:a<=s.length):(P s).loose l a d=((P s).loose (l+1) a d).bind fun p=>(P s).ll l p.1 p.2 d:=by
 rw [zJO l d ha,zJO (l+1) d ha];unfold zEU;rw [Option.bind_assoc];refine zEV rfl fun p hp=>?_;have:=(zCr s).one a d p ha hp;exact zdT l d _ _ _ this.2 (zoR _)
theorem zXS {s:Bs} {a:Nat} (l d:Nat) (ha:a<=s.length) {p:Nd×Nat} (h:(P s).loose l a d=some p):∀ op e,zHl s p.2=some (op,e)->tight op<l:=by
 rw [zJO l d ha] at h;unfold zEU at h;rw [zor] at h;obtain ⟨p',h1,h2⟩:=h;have:=(zCr s).one a d p' ha h1;exact zgm l d _ _ _ p this.2 (zoR _) h2
theorem zRE (op:Nat):1<=tight op/\tight op<=4:=by unfold tight;split;omega;split;omega;split <;> omega
theorem zZW {s:Bs} {a:Nat} (d:Nat) (ha:a<=s.length):(P s).loose 5 a d=(P s).one a d:=by
 rw [zJO 5 d ha];unfold zEU;cases h:(P s).one a d with
 |none=>rfl
 |some p=>
  have:=(zCr s).one a d p ha h;show (P s).ll 5 p.1 p.2 d=some p;rw [zTf _ _ d this.2];unfold zNV;split
  ·rfl
  ·rename_i op e ho;rw [zoQ (by have:=(zRE op).2;omega)]
section
variable {C:CSpec} {GT:zG_}
abbrev pR (b:Nat):AV:=.ref b 0 0 0
abbrev byV (c:UInt8):AV:=.int .u8 c.toNat
theorem zEB (s:Bs) (a b:Nat) (h:a<=b) (hb:b<=s.length):zCm none (.str s) (some (.int .i64 (a:Int))) (some (.int .i64 (b:Int)))=some (.str (sub s a b)):=by
 simp only [zCm,zE9,aHi,aLo];have h1:¬ ((a:Int)<0):=by omega
 have h2:¬ ((b:Int)<0):=by omega
 have e1:(a:Int).toNat=a:=zoq a;have e2:(b:Int).toNat=b:=zoq b;simp [h1,h2,e1,e2,h,hb,sub,List.drop_take]
theorem zIJ (s:Bs) (a:Nat) (h:a<=s.length):zCm none (.str s) (some (.int .i64 (a:Int))) none=some (.str (s.drop a)):=by
 simp only [zCm,zE9,aHi,aLo];have h1:¬ ((a:Int)<0):=by omega
 have e1:(a:Int).toNat=a:=zoq a;simp [h1,e1,h]
theorem zdU (s:Bs) (b:Nat) (hb:b<=s.length):zCm none (.str s) none (some (.int .i64 (b:Int)))=some (.str (s.take b)):=by
 simp only [zCm,zE9,aHi,aLo];have h2:¬ ((b:Int)<0):=by omega
 have e2:(b:Int).toNat=b:=zoq b;simp [h2,e2,hb]
end
abbrev rdB (s:Bs) (p d:Nat):ABlk:=.box [.str s,zL p,zL d]
abbrev wkC (s:Bs):List AV:=[.str s,.undef,.undef]
def zHK:AV:=.iface zEm (.agg [.sca,.iface zd .undef])
theorem zjq (k:IntKind) (n:Int):Wk (.int k n) .sca:=fun _ _ _ _ _ h=>by cases h;exact .sca _ rfl
theorem wkRd (s:Bs) (p d:Nat):WkL [.str s,zL p,zL d] (wkC s):=.cons (.refl _) (.cons (.undef _) (.cons (.undef _) .nil))
theorem zjr (a:Int) (y:AV):Wk (.iface zEm (.agg [.int .i64 a,.iface zd y])) zHK:=.iface (.agg (.cons (zjq _ _) (.cons (.iface (.undef _)) .nil)))
section
variable {C:CSpec} {GT:zG_}
theorem zXT (c:UInt8) (H:Heap):EFun C GT zEL [byV c] H (.bool (zh c)) H:=by
 obtain ⟨r,hr⟩:∃ r,zh c=r:=⟨_,rfl⟩;rw [hr];unfold zh at hr;have hc:c.toNat<256:=zmv c;change EFun C GT zEL [.int .u8 (c.toNat:Int)] H (.bool r) H;generalize c.toNat=n at *;refine zH ?_;by_cases h365:n=36
 ·have:r=true:=by rw [<-hr];simp;omega
  subst this;refine zt tT<|zD<|zD<|zD<|zD<|zD ?_
  exact sRr
 by_cases h618:n<48
 ·have:r=false:=by rw [<-hr];simp;omega
  subst this;refine zc tF<|zc tF<|zC<|zC<|zC<|zc tF<|zC<|zC ?_;refine zC<|zc tF<|zC<|zC ?_
  exact sRr
 by_cases h872:n<=57
 ·have:r=true:=by rw [<-hr];simp;omega
  subst this;refine zc tF<|zt tT<|zD<|zC<|zt tT<|zD<|zD<|zD ?_
  exact sRr
 by_cases h1125:n<65
 ·have:r=false:=by rw [<-hr];simp;omega
  subst this;refine zc tF<|zt tT<|zD<|zC<|zc tF<|zc tF<|zC<|zC ?_;refine zC<|zc tF<|zC<|zC ?_
  exact sRr
 by_cases h1380:n<=90
 ·have:r=true:=by rw [<-hr];simp;omega
  subst this;refine zc tF<|zt tT<|zD<|zC<|zc tF<|zt tT<|zD<|zC ?_;refine zt tT<|zD ?_
  exact sRr
 by_cases h1634:n<97
 ·have:r=false:=by rw [<-hr];simp;omega
  subst this;refine zc tF<|zt tT<|zD<|zC<|zc tF<|zt tT<|zD<|zC ?_;refine zc tF<|zc tF<|zC<|zC ?_
  exact sRr
 by_cases h1889:n<=122
 ·have:r=true:=by rw [<-hr];simp;omega
  subst this;refine zc tF<|zt tT<|zD<|zC<|zc tF<|zt tT<|zD<|zC ?_;refine zc tF<|zt tT<|zD<|zC ?_
  exact zMB (v0:=.bool (decide ((n:Int)<=122))) (zod AV.bool (tT).symm) rfl rfl rfl rfl (Old.refl _)
 ·have:r=false:=by rw [<-hr];simp;omega
  subst this;refine zc tF<|zt tT<|zD<|zC<|zc tF<|zt tT<|zD<|zC ?_;refine zc tF<|zt tT<|zD<|zC ?_
  exact zMB (v0:=.bool (decide ((n:Int)<=122))) (zod AV.bool (tF).symm) rfl rfl rfl rfl (Old.refl _)
theorem zdV (b:Nat) (s:Bs) (p d:Nat) (a:Int) (e:Int) (H:Heap) (hb:H[b]?=some (rdB s p d)):zCk C GT zDE [pR b,.int .i64 a,zFo e] H b (wkC s) zHK none:=by
 refine zAH ?_;refine za (v:=[.int .i64 a,zFo e]) rfl ?_;exact zjo (by first|rfl|assumption) rfl rfl rfl (OldB.start hb) rfl (by first|exact WkL.refl _|exact wkRd _ _ _) (by first|exact Wk.refl _|exact zjr _ _)
theorem zZX (b:Nat) (s:Bs) (p d:Nat) (H:Heap) (hb:H[b]?=some (rdB s p d)) (hp:p<=s.length) (hl:s.length<=200) :
  zCk C GT zCc [pR b] H b (wkC s) zHK (some (.tup [],rdB s (skip s p) d)):=by
 obtain ⟨q,hq⟩:∃ q,skip s p=q:=⟨_,rfl⟩;rw [hq];refine zAH ?_;refine zAr (fun k:Nat=>[(0,pR b)]) (fun k H'=>H'=H.set b (rdB s k d)/\k<=s.length/\skip s k=q) (fun k=>s.length-k) p rfl ⟨(zQ8 hb).symm,hp,hq⟩ (fun k H1 ⟨e,hk,hs⟩=>?_);subst e;by_cases hlt:k<s.length
 ·obtain ⟨c,hc⟩:∃ c,s[k]?=some c:=⟨_,zoO hlt⟩;refine zA (zL k) (zS hb) rfl<|zA (.str s) (zS hb) rfl<|zt tT<|zA (.str s) (zS hb) rfl<|zA (zL k) (zS hb) rfl<|zCF rfl hc ?_;refine zD ?_
  by_cases h32:c=32
  ·subst h32;rw [zMP hc] at hs;refine zD<|zA (zL k) (zS hb) rfl<|zQ (r:=k+1) rfl tO<|zM (v:=.int .i64 ↑(k+1)) [.str s,.int .i64 ↑(k+1),zL d] (zS hb) rfl rfl rfl rfl ?_
   exact zAJ (k+1) rfl ⟨znr ..,by omega,hs⟩ tO
  ·rw [zDg (by rw [hc];intro h;exact h32 (zoh h))] at hs;subst hs;have h33:c.toNat≠32:=fun h=>h32 (zoi.1 h);refine zc tN ?_;exact zQ9 _ (by first|rfl|assumption) rfl rfl rfl rfl ((OldB.start hb).setB _) rfl
 ·rw [zDg (by rw [zmA tO];simp)] at hs;subst hs;refine zA (zL k) (zS hb) rfl<|zA (.str s) (zS hb) rfl<|zc tF<|zC<|zC ?_
  exact zQ9 _ (by first|rfl|assumption) rfl rfl rfl rfl ((OldB.start hb).setB _) rfl
theorem zgn (hW:∀ c H,C zBM [byV c] H (.bool (zh c)) H) (b:Nat) (s:Bs) (p d:Nat) (H:Heap) (hb:H[b]?=some (rdB s p d)) (hp:p<=s.length) (hl:s.length<=200) :
  zCk C GT zDH [pR b] H b (wkC s) zHK (some (.str (sub s p (zlz s p)),rdB s (zlz s p) d)):=by
 obtain ⟨q,hq⟩:∃ q,zlz s p=q:=⟨_,rfl⟩;have hpq:=zKn s p;have hql:=zJN hp;rw [hq] at hpq hql ⊢;refine zAH ?_;refine zA (zL p) hb rfl ?_;refine zAr (fun k:Nat=>[(0,pR b),(3,zL p)]) (fun k H'=>H'=H.set b (rdB s k d)/\k<=s.length/\zlz s k=q) (fun k=>s.length-k) p rfl ⟨(zQ8 hb).symm,hp,hq⟩ (fun k H1 ⟨e,hk,hs⟩=>?_);subst e;dsimp only;by_cases hlt:k<s.length
 ·obtain ⟨c,hc⟩:∃ c,s[k]?=some c:=⟨_,zoO hlt⟩;have hw:=hW c;by_cases hwc:zh c=true
  ·rw [zHj hc hwc] at hs;rw [hwc] at hw;clear hW;refine zA (zL k) (zS hb) rfl<|zA (.str s) (zS hb) rfl<|zt tT<|zA (.str s) (zS hb) rfl<|zA (zL k) (zS hb) rfl<|zCF rfl hc ?_;refine zI (hw _)<|zD<|zD<|zA (zL k) (zS hb) rfl<|zQ (r:=k+1) rfl tO<|zM (v:=.int .i64 ↑(k+1)) [.str s,.int .i64 ↑(k+1),zL d] (zS hb) rfl rfl rfl rfl ?_
   exact zAJ (k+1) rfl ⟨znr ..,by omega,hs⟩ tO
  ·have hwc:=zmI.2 hwc;rw [zHk (fun c' h=>by rw [hc] at h;cases h;exact hwc)] at hs;subst hs;rw [hwc] at hw;clear hW;refine zA (zL k) (zS hb) rfl<|zA (.str s) (zS hb) rfl<|zt tT<|zA (.str s) (zS hb) rfl<|zA (zL k) (zS hb) rfl<|zCF rfl hc ?_;refine zI (hw _)<|zD<|zC<|zA (.str s) (zS hb) rfl<|zA (zL k) (zS hb) rfl<|za (v:=.str (sub s p k)) (zEB s p k tO tO) ?_
   exact zQ9 _ (by first|rfl|assumption) rfl rfl rfl rfl ((OldB.start hb).setB _) rfl
 ·rw [zHk (fun c' h=>by rw [zmA tO] at h;cases h)] at hs;subst hs;clear hW;refine zA (zL k) (zS hb) rfl<|zA (.str s) (zS hb) rfl<|zc tF<|zC<|zC<|zA (.str s) (zS hb) rfl ?_;refine zA (zL k) (zS hb) rfl<|za (v:=.str (sub s p k)) (zEB s p k tO tO) ?_
  exact zQ9 _ (by first|rfl|assumption) rfl rfl rfl rfl ((OldB.start hb).setB _) rfl
end
theorem sP {P:Prop} (h:P:=by exact zjo (by first|rfl|assumption) rfl rfl rfl hO rfl (by first|exact WkL.refl _|exact wkRd _ _ _) (by first|exact Wk.refl _|exact zjr _ _)):P:=h
def zKL (g:Nat->Bool):List AV:=zVV 256 (fB g)
def zJP (cs:Bs) (i:Nat):Bool:=cs.any fun c=>c.toNat==i
def zNJ (s cs:Bs):Bs:=(s.reverse.dropWhile (fun c=>zJP cs c.toNat)).reverse
def zPa (s cs:Bs):Bs:=(zNJ s cs).dropWhile (fun c=>zJP cs c.toNat)
theorem zXU {cs:List AV} {o:Nat} {v:AV} (h:o<cs.length):splice cs o [v]=cs.set o v:=by
 unfold splice;rw [zn3,zoQ h];simp
theorem zGs (g:Nat->Bool):(zKL g).length=256:=zVW _ _
theorem zdW {g:Nat->Bool} {i:Nat} (h:i<256):(zKL g)[i]?=some (.bool (g i)):=zVX h
theorem zZY {cs:Bs} {k:Nat} {c:UInt8} (h:cs[k]?=some c):splice (zKL (zJP (cs.take k))) c.toNat [.bool true]=zKL (zJP (cs.take (k+1))):=by
 have hc:c.toNat<256:=zmv c;rw [zXU (by rw [zGs];exact hc)];unfold zKL;rw [zVY];refine zJf fun i hi=>?_;obtain ⟨h1,h2⟩:=zg h;have e:cs.take (k+1)=cs.take k++[c]:=by rw [zm2 h1,h2]
 unfold upd fB zJP;rw [e,List.any_append];by_cases he:i=c.toNat
 ·subst he;simp
 ·rw [zWl he];simp [zmJ he]
theorem off0 {cs cs':List AV} {n:Nat} {v:List AV} (h:splice cs n v=cs'):splice cs (0+((n:Int)).toNat*1) v=cs':=by grind
theorem zVg (g:Nat->Bool):part (zKL g) 0 256 true=some (.agg (zKL g)):=by
 simp only [part,zoz,zGs,znY];rw [zox (by rw [zGs];exact zoR _)];simp
theorem zdX (n:Nat) (g:Nat->Bool) (b:Bool) (H:Heap):zDm n (.tup [.agg (zKL g),.bool b]) H=some (.tup [.agg (zKL g),.bool b],H):=by
 have h:∀ l:List Nat,zKR n (l.map fun i=>AV.bool (g i)) H=some (l.map fun i=>AV.bool (g i),H):=by
  intro l;induction l with
  |nil=>rfl
  |cons x l ih=>simp only [zoa,zKR,zDm,ih]
 have h2:zKR n (List.map (fB g) (List.range 256)) H=some (List.map (fB g) (List.range 256),H):=h (List.range 256);simp only [zDm,zKR,zKL,zVV,h2]
theorem zdY (n:Nat) (g:Nat->Bool) (b:Bool):(AV.tup [.agg (zKL g),.bool b]).bel n=true:=by
 have h:AV.belL n (zKL g)=true:=by
  rw [AV.belL_iff];intro c hc;unfold zKL zVV fB at hc;obtain ⟨i,_,rfl⟩:=zmf.1 hc;rfl
 simp [AV.bel,AV.belL,h]
section
variable {C:CSpec} {GT:zG_}
theorem zUJ (b:Nat) (g:Nat->Bool) (c:UInt8) (H:Heap) (hb:H[b]?=some (.box (zKL g))):EFun C GT zBb [pR b,byV c] H (.bool (g c.toNat)) H:=by
 have hc:c.toNat<256:=zmv c;refine zH ?_;refine zBA ⟨by omega,by omega⟩<|zA (.bool (g c.toNat)) hb (by simpa [part] using zdW hc) ?_
 exact sRr
theorem zdZ (cs:Bs) (H:Heap) (hcs:∀ c∈cs,c.toNat<128) (hl:cs.length<=1000):EFun C GT zDI [.str cs] H (.tup [.agg (zKL (zJP cs)),.bool true]) H:=by
 refine zH ?_;refine zAr (fun k:Nat=>[(2,pR H.length),(4,zL k),(0,.str cs)]) (fun k H'=>H'=H++[.box (zKL (zJP (cs.take k)))]/\k<=cs.length) (fun k=>cs.length-k) 0 rfl ⟨rfl,zmB _⟩ (fun k H1 ⟨e,hk⟩=>?_);subst e;by_cases hlt:k<cs.length
 ·obtain ⟨c,hc⟩:∃ c,cs[k]?=some c:=⟨_,zoO hlt⟩;have h128:=hcs c (zoc hc);have hst:=zZY hc;refine zt tT<|zCF rfl hc<|zc tF<|zBA ⟨by omega,by omega⟩<|zM (v:=.bool true) (zKL (zJP (cs.take (k+1)))) zB rfl rfl (Nat.ble_eq_true_of_le (by rw [zGs];omega)) (off0 hst)<|zQ (r:=k+1) rfl tO ?_;refine zAJ (k+1) rfl ⟨?_,by omega⟩ tO
  rw [zmq _ _ (zoR _),Nat.sub_self];rfl
 ·have:k=cs.length:=by omega
  subst this;rw [zmg];refine zc tF<|zA (.agg (zKL (zJP cs))) zB (zVg _)<|zM (v:=.agg (zKL (zJP cs))) (zKL (zJP cs)) zB (zGs _) rfl rfl (by simp [splice,AV.cells,zGs]) ?_
  exact zj (o:=0) rfl rfl (zJ hP) (zVg _) rfl (zdX _ _ _ _) (zdY _ _ _) ((Old.push (Old.refl _) _).set (zoR _) _)
theorem zda (hC:∀ b g c H,H[b]?=some (.box (zKL g))->C zAF [pR b,byV c] H (.bool (g c.toNat)) H) (s cs:Bs) (b:Nat) (H:Heap) (hb:H[b]?=some (.box (zKL (zJP cs)))) (hl:s.length<=1000) :
  EFun C GT zCh [.str s,pR b] H (.str (zNJ s cs)) H:=by
 obtain ⟨r,hr⟩:∃ r,zNJ s cs=r:=⟨_,rfl⟩;rw [hr];refine zH ?_;refine zAr (fun t:Bs=>[(0,.str t),(1,pR b)]) (fun t H'=>H'=H/\t.length<=1000/\zNJ t cs=r) (fun t=>t.length) s rfl ⟨rfl,hl,hr⟩ (fun t H1 ⟨e,htl,ht⟩=>?_);subst e;by_cases h0:t=[]
 ·subst h0;unfold zNJ at ht;simp only [List.reverse_nil,List.dropWhile_nil] at ht;subst ht;refine zc (tF zS_) ?_;exact sRr
 ·obtain ⟨u,c,rfl⟩:∃ u c,t=u++[c]:=⟨t.dropLast,t.getLast h0,(List.dropLast_concat_getLast h0).symm⟩;have hlen:(u++[c]).length=u.length+1:=by simp
  have hg:(u++[c])[u.length]?=some c:=by simp
  have hcc:=hC b (zJP cs) c H1 hb;unfold zNJ at ht;rw [List.reverse_append,List.reverse_singleton,zmV,zni] at ht;by_cases hc:zJP cs c.toNat=true
  ·rw [zoQ hc] at ht;rw [hc] at hcc;clear hC;refine zt tT<|zQ (r:=u.length) tO tO<|zCF rfl hg<|zI (hcc)<|zC<|zQ (r:=u.length) tO tO ?_;refine za (v:=.str ((u++[c]).take u.length)) (zdU _ _ tO) ?_;refine zAJ u ?_ ⟨rfl,by omega,ht⟩ tO
   rw [List.take_left];rfl
  ·have hc:=zmI.2 hc;rw [hc] at hcc ht;simp only [zoZ,zot,zoM,List.reverse_reverse] at ht;subst ht;clear hC;refine zt tT<|zQ (r:=u.length) tO tO<|zCF rfl hg<|zI (hcc)<|zD ?_
   exact sRr
theorem zdb (hC:∀ b g c H,H[b]?=some (.box (zKL g))->C zAF [pR b,byV c] H (.bool (g c.toNat)) H) (s cs:Bs) (b:Nat) (H:Heap) (hb:H[b]?=some (.box (zKL (zJP cs)))) (hl:s.length<=1000) :
  EFun C GT zCx [.str s,pR b] H (.str (s.dropWhile fun c=>zJP cs c.toNat)) H:=by
 obtain ⟨r,hr⟩:∃ r,(s.dropWhile fun c=>zJP cs c.toNat)=r:=⟨_,rfl⟩;rw [hr];refine zH ?_;refine zAr (fun t:Bs=>[(0,.str t),(1,pR b)]) (fun t H'=>H'=H/\t.length<=1000/\(t.dropWhile fun c=>zJP cs c.toNat)=r) (fun t=>t.length) s rfl ⟨rfl,hl,hr⟩ (fun t H1 ⟨e,htl,ht⟩=>?_);subst e;cases t with
 |nil=>
  simp only [List.dropWhile_nil] at ht;subst ht;refine zc (tF zS_) ?_;exact sRr
 |cons c u=>
  have hcc:=hC b (zJP cs) c H1 hb;rw [zni] at ht;have hlen:(c::u).length=u.length+1:=zoN;by_cases hc:zJP cs c.toNat=true
  ·rw [zoQ hc] at ht;rw [hc] at hcc;clear hC;refine zt tT<|zCF (i:=0) rfl rfl<|zI (hcc)<|zC<|za (v:=.str ((c::u).drop 1)) (zIJ _ 1 tO) ?_
   exact zAJ u rfl ⟨rfl,by omega,ht⟩ tO
  ·have hc:=zmI.2 hc;rw [hc] at hcc ht;simp only [zoZ,zot] at ht;subst ht;clear hC;refine zt tT<|zCF (i:=0) rfl rfl<|zI (hcc)<|zD ?_
   exact sRr
theorem zSf (p:UInt8->Bool):∀ l:Bs,(l.dropWhile p=[])↔l.all p=true
 |[]=>by simp
 |c::r=>by
  rw [zni,zmu];by_cases h:p c=true
  ·rw [zoQ h,h,zmN];exact zSf p r
  ·grind
theorem zSg (p:UInt8->Bool):∀ l:Bs,(l.dropWhile p).all p=l.all p
 |[]=>rfl
 |c::r=>by
  rw [zni];by_cases h:p c=true
  ·rw [zoQ h,zmu,h,zmN];exact zSg p r
  ·grind
theorem zVh (s cs:Bs):(zPa s cs=[])↔s.all (fun c=>zJP cs c.toNat)=true:=by
 unfold zPa zNJ;rw [zSf,List.all_reverse,zSg,List.all_reverse]
theorem zdc (hM:∀ cs H,(∀ c∈cs,c.toNat<128)->cs.length<=1000->C zBR [.str cs] H (.tup [.agg (zKL (zJP cs)),.bool true]) H)
  (hR:∀ s cs b H,H[b]?=some (.box (zKL (zJP cs)))->s.length<=1000->C zA7 [.str s,pR b] H (.str (zNJ s cs)) H)
  (hL:∀ s cs b H,H[b]?=some (.box (zKL (zJP cs)))->s.length<=1000->C zBF [.str s,pR b] H (.str (s.dropWhile fun c=>zJP cs c.toNat)) H)
  (s cs:Bs) (H:Heap) (hcs:∀ c∈cs,c.toNat<128) (hc2:2<=cs.length) (hcl:cs.length<=1000) (hl:s.length<=1000):EFun C GT zHC [.str s,.str cs] H (.str (zPa s cs)) H:=by
 refine zH ?_;have hne:cs≠[]:=fun e=>by subst e;simp at hc2
 have hml:=hM cs H hcs hcl;have hle:(zNJ s cs).length<=s.length:=by
  unfold zNJ;rw [zmy];have:=(List.dropWhile_suffix (l:=s.reverse) (fun c=>zJP cs c.toNat)).length_le
  rwa [zmy] at this
 by_cases h0:s=[]
 ·subst h0;refine zD<|zD<|zD ?_
  exact sRr
 have hst:∀ (H:Heap),H[H.length]?=none:=fun H=>by simp
 have hrr:=hR s cs H.length;have hll:=hL (zNJ s cs) cs H.length;clear hM hR hL;refine zc (tN h0)<|zC<|zc (tN hne)<|zc tN<|zC<|zC ?_;refine zI (hml)<|za rfl<|za rfl<|zM (v:=.agg (zKL (zJP cs))) (zKL (zJP cs)) zB (zGs _) rfl rfl (by simp [splice,AV.cells,zGs])<|zD<|zI (hrr _ hP hl) ?_;refine zI (hll _ hP tO) ?_
 exact zAQ rfl rfl rfl rfl (((Old.refl _).push _).set (by first|assumption|exact zoR _|simp|omega) _)
end
theorem zZZ (s:List UInt8) (n:Nat) (h:n<=s.length):zCm none (.str s) none (some (.int .i64 (n:Int)))=some (.str (s.take n)):=by
 simp only [zCm,zE9,aHi,aLo];rw [zoQ ⟨by omega,by omega⟩];simp
theorem zFy:∀ (p s:List UInt8),p.isPrefixOf s=(decide (p.length<=s.length)&&(s.take p.length==p))
 |[],s=>by simp
 |a::p,[]=>by simp
 |a::p,b::s=>by
  simp only [List.isPrefixOf,zFy p s,zoN,znN];rw [znn];simp only [zTo,zol,zoY,zmZ];constructor
  ·rintro ⟨h1,h2,h3⟩;exact ⟨by omega,h1.symm,h3⟩
  ·rintro ⟨h1,h2,h3⟩;exact ⟨h2.symm,by omega,h3⟩
section
variable {C:CSpec} {GT:zG_}
theorem zSh (s p:List UInt8) (H:Heap):EFun C GT zCw [.str s,.str p] H (.bool (p.isPrefixOf s)) H:=by
 refine zEO (fun h=>?_) (fun h=>?_)
 ·have h:p.length<=s.length:=by
   have:=zow h;omega
  have e:p.isPrefixOf s=(s.take p.length==p):=by rw [zFy,zoj h,zmN]
  rw [e];refine za (zZZ s p.length h)<|zD ?_
  exact sRr
 ·have h:¬ p.length<=s.length:=by
   have:=zl8 h;omega
  have e:p.isPrefixOf s=false:=by rw [zFy,zop h,zmW]
  rw [e];refine zC ?_;exact sRr
theorem zZa (hS:∀ s p H,C zAm [.str s,.str p] H (.bool (p.isPrefixOf s)) H) (s p:List UInt8) (H:Heap):EFun C GT zER [.str s,.str p] H (.bool (p.isPrefixOf s)) H:=by
 refine zI (hS s p H) ?_;exact sRr
end
def zDi (n:Int):Prop:=-9223372036854775808<=n/\n<=9223372036854775807
instance (n:Int):Decidable (zDi n):=by unfold zDi;exact inferInstance
def ziw:Nat->Nat->List Nat
 |0,_=>[]
 |f+1,n=>if n=0 then [] else (n%4294967296)::ziw f (n/4294967296)
def wds (n:Nat):List Nat:=ziw n n
def wval:List Nat->Nat
 |[]=>0
 |w::ws=>w+4294967296*wval ws
def Small (ws:List Nat):Prop:=∀ w∈ws,w<4294967296
theorem zSi:∀ f g n,n<=f->n<=g->ziw f n=ziw g n
 |0,0,_,_,_=>rfl
 |0,g+1,n,h,_=>by
  have:n=0:=by omega
  subst this;rfl
 |f+1,0,n,_,h=>by
  have:n=0:=by omega
  subst this;rfl
 |f+1,g+1,n,h,k=>by
  simp only [ziw];split
  ·rfl
  ·rw [zSi f g (n/4294967296) tO tO]
theorem zEw:wds 0=[]:=rfl
theorem zCy {n:Nat} (h:n≠0):wds n=(n%4294967296)::wds (n/4294967296):=by
 unfold wds;obtain ⟨m,rfl⟩:∃ m,n=m+1:=⟨n-1,by omega⟩;rw [ziw,zWl h,zSi m ((m+1)/4294967296) _ tO (zoR _)]
theorem zEx (n:Nat):wval (wds n)=n:=by
 induction n using Nat.strongRecOn with
 |ind n ih=>
  by_cases h:n=0
  ·subst h;rfl
  ·rw [zCy h,wval,ih _ tO];omega
theorem zB4 (n:Nat):Small (wds n):=by
 induction n using Nat.strongRecOn with
 |ind n ih=>
  by_cases h:n=0
  ·subst h;intro w hw;cases hw
  ·rw [zCy h];intro w hw;rcases zmG.1 hw with rfl|hw
   ·omega
   ·exact ih _ tO w hw
theorem zdd {w:Nat} {v:Nat} (hw:w<4294967296) (h:w≠0\/v≠0):wds (w+4294967296*v)=w::wds v:=by
 rw [zCy tO];have e1:(w+4294967296*v)%4294967296=w:=by omega
 have e2:(w+4294967296*v)/4294967296=v:=by omega
 rw [e1,e2]
theorem zUK:∀ ws:List Nat,Small ws->∃ k,ws=wds (wval ws)++List.replicate k 0
 |[],_=>⟨0,rfl⟩
 |w::ws,h=>by
  obtain ⟨k,hk⟩:=zUK ws fun x hx=>h x (zmX _ hx);have hw:=h w zS_;by_cases hz:w=0/\wval ws=0
  ·refine ⟨k+1, ?_⟩;rw [wval,hz.1,hz.2];rw [hz.2] at hk;simp only [Nat.mul_zero,zmz,zEw,zo4] at hk ⊢;rw [List.replicate_succ,<-hk]
  ·refine ⟨k, ?_⟩;rw [wval,zdd hw tO,zl9,<-hk]
theorem zde {ws:List Nat} (h:Small ws):(wds (wval ws)).length<=ws.length/\ws.take (wds (wval ws)).length=wds (wval ws):=by
 obtain ⟨k,hk⟩:=zUK ws h;constructor
 ·conv=>rhs;rw [hk]
  simp
 ·grind
theorem zgo {ws:List Nat} (h:Small ws) (hl:∀ w,ws.getLast?=some w->w≠0):wds (wval ws)=ws:=by
 obtain ⟨k,hk⟩:=zUK ws h;cases k with
 |zero=>grind
 |succ k=>grind
theorem zIK:∀ xs ys:List Nat,wval (xs++ys)=wval xs+4294967296^xs.length*wval ys
 |[],ys=>by simp [wval]
 |x::xs,ys=>by
  simp only [zl9,wval,zIK xs ys,zoN];rw [Nat.mul_add,<-Nat.mul_assoc,zmP,zme (4294967296^xs.length) 4294967296];omega
theorem zEy (xs:List Nat) (y:Nat):wval (xs++[y])=wval xs+4294967296^xs.length*y:=by
 rw [zIK];simp [wval]
theorem zEC {ws:List Nat} {i:Nat} (h:i<ws.length):wval (ws.take (i+1))=wval (ws.take i)+4294967296^i*ws[i]:=by
 rw [zm2 h,zEy,zon,znG tO]
theorem zRF:∀ {ws:List Nat},Small ws->wval ws<4294967296^ws.length
 |[],_=>by simp [wval]
 |w::ws,h=>by
  have h1:=h w zS_;have h2:=zRF (ws:=ws) fun x hx=>h x (zmX _ hx);simp only [wval,zoN];rw [zmP,zme (4294967296^ws.length) 4294967296];omega
theorem zf4:∀ (n:Nat),n≠0->4294967296^((wds n).length-1)<=n:=by
 intro n;induction n using Nat.strongRecOn with
 |ind n ih=>
  intro h;rw [zCy h,zoN,zmT];by_cases h2:n/4294967296=0
  ·rw [h2];simp [zEw];omega
  ·have h3:=ih _ tO h2;have h4:(wds (n/4294967296)).length≠0:=by rw [zCy h2];simp
   obtain ⟨m,hm⟩:∃ m,(wds (n/4294967296)).length=m+1:=⟨(wds (n/4294967296)).length-1,by omega⟩;rw [hm] at h3 ⊢;simp only [zmT] at h3;rw [zmP];omega
theorem zf5 (n:Nat):n<4294967296^(wds n).length:=by
 have:=zRF (zB4 n);rwa [zEx] at this
theorem zMQ {a b:Nat} (h:(wds a).length<(wds b).length):a<b:=by
 have hb:b≠0:=fun e=>by subst e;simp [zEw] at h
 have h1:=zf5 a;have h2:=zf4 b hb;have h3:4294967296^(wds a).length<=4294967296^((wds b).length-1):=zmY tO tO;omega
theorem zMu {a b:Nat} (h:a<=b):(wds a).length<=(wds b).length:=by
 rcases zm5 (wds b).length (wds a).length with h2|h2
 ·have:=zMQ h2;omega
 ·exact h2
theorem zZb {xs ys:List Nat} (hx:Small xs) (hy:Small ys) (hl:xs.length=ys.length) {i:Nat} (hi:i<xs.length) (he:xs.drop (i+1)=ys.drop (i+1)) (hlt:xs[i]<ys[i]'tO):wval xs<wval ys:=by
 have h1:xs=xs.take i++xs[i]::xs.drop (i+1):=by rw [znS,zmr]
 have h2:ys=ys.take i++ys[i]'tO::ys.drop (i+1):=by rw [znS,zmr]
 have g1:wval xs=wval (xs.take i)+4294967296^i*(xs[i]+4294967296*wval (xs.drop (i+1))):=by
  conv=>lhs;rw [h1]
  rw [zIK,zon,znG tO,wval]
 have g2:wval ys=wval (ys.take i)+4294967296^i*(ys[i]'tO+4294967296*wval (ys.drop (i+1))):=by
  conv=>lhs;rw [h2]
  rw [zIK,zon,znG tO,wval]
 have g3:wval (xs.take i)<4294967296^i:=by
  have:=zRF (ws:=xs.take i) fun w hw=>hx w (zmk hw)
  rwa [zon,znG tO] at this
 rw [g1,g2,he];have g4:4294967296^i*(xs[i]+4294967296*wval (ys.drop (i+1))+1)<=4294967296^i*(ys[i]'tO+4294967296*wval (ys.drop (i+1))):=Nat.mul_le_mul_left _ tO;rw [Nat.mul_add,zn1] at g4;omega
def zSj:Nat->Nat->Nat
 |0,_=>0
 |f+1,n=>if n=0 then 0 else zSj f (n/2)+1
def bits (n:Nat):Nat:=zSj n n
theorem zP9:∀ f g n,n<=f->n<=g->zSj f n=zSj g n
 |0,0,_,_,_=>rfl
 |0,g+1,n,h,_=>by
  have:n=0:=by omega
  subst this;rfl
 |f+1,0,n,_,h=>by
  have:n=0:=by omega
  subst this;rfl
 |f+1,g+1,n,h,k=>by
  simp only [zSj];split
  ·rfl
  ·rw [zP9 f g (n/2) tO tO]
theorem zNW {n:Nat} (h:n≠0):bits n=bits (n/2)+1:=by
 unfold bits;obtain ⟨m,rfl⟩:∃ m,n=m+1:=⟨n-1,by omega⟩;rw [zSj,zWl h,zP9 m ((m+1)/2) _ tO (zoR _)]
theorem zUL (k:Nat):∀ n,bits n<=k↔n<2^k:=by
 induction k with
 |zero=>
  intro n;by_cases h:n=0
  ·subst h;simp [bits,zSj]
  ·rw [zNW h];simp;omega
 |succ k ih=>
  intro n;by_cases h:n=0
  ·grind
  ·rw [zNW h,zmP];have:=ih (n/2);constructor
   ·intro h2;have:=this.1 tO;omega
   ·intro h2;have:=this.2 tO;omega
end Go.AM
