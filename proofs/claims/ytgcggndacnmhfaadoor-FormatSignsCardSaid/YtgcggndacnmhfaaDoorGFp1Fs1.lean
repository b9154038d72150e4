/- Several texts of mine in one (Fp1, Dec, Rt0, Fs0, Fs1). Own work. -/
import Derived.Test.YtgcggndacnmhfaaDoorGItQFp0
import Derived.Lib.IndexMore
import Derived.Lib.TrimByte
import Derived.Lib.Strings
import Derived.Lib.Repeat
set_option linter.all false
set_option maxRecDepth 20000
namespace Go.AM
structure Agree (s : Bs) (q r : Ps) (K : Nat) : Prop where
 one : ∀ a d,a ≤ s.length → 4 * (s.length - a) + 1 ≤ K → q.one a d = r.one a d
 loose : ∀ l a d,a ≤ s.length → 4 * (s.length - a) + 2 ≤ K → q.loose l a d = r.loose l a d
 ll : ∀ l n a d,a ≤ s.length → 4 * (s.length - a) + 1 ≤ K → q.ll l n a d = r.ll l n a d
 args : ∀ nm ks a d,a ≤ s.length → 4 * (s.length - a) + 3 ≤ K → q.args nm ks a d = r.args nm ks a d
def fuelP (s : Bs) : Nat:=4 * s.length + 3
def P (s : Bs) : Ps:=ps s (fuelP s + 1)
def bl (s : Bs) (r : Option (Nd × Nat)) : Option (Nd × Nat):=r.map fun p=>(p.1,skip s p.2)
end Go.AM
set_option maxRecDepth 20000
namespace Go.AM
def dcF : Nat → Nat → List UInt8
 | 0,_=>[]
 | f + 1,n=>if n = 0 then [] else UInt8.ofNat (48 + n % 10) :: dcF f (n / 10)
def zH5 (n : Nat) : List UInt8:=dcF n n
theorem zHE : ∀ f g n,n ≤ f → n ≤ g → dcF f n = dcF g n
 | 0,0,_,_,_=>rfl
 | 0,g + 1,n,h,_=>by
  have : n = 0:=by omega
  subst this; rfl
 | f + 1,0,n,_,h=>by
  have : n = 0:=by omega
  subst this; rfl
 | f + 1,g + 1,n,h,k=>by
  simp only [dcF]
  split
  ·rfl
  ·rw [zHE f g (n / 10) tO tO]
theorem zD4 : zH5 0 = []:=rfl
theorem zCl {n : Nat} (h : n ≠ 0) : zH5 n = UInt8.ofNat (48 + n % 10) :: zH5 (n / 10):=by
 unfold zH5
 obtain ⟨m,rfl⟩ : ∃ m,n = m + 1:=⟨n - 1,by omega⟩
 rw [dcF,if_neg h,zHE m ((m + 1) / 10) _ tO (Nat.le_refl _)]
theorem zHF : ∀ (k n : Nat),n < 10 ^ k → (zH5 n).length ≤ k
 | 0,n,h=>by
  have : n = 0:=by simpa using h
  subst this; exact Nat.le_refl _
 | k + 1,n,h=>by
  by_cases h0 : n = 0
  ·subst h0; simp [zD4]
  ·rw [zCl h0,List.length_cons]
   have:=zHF k (n / 10) (by rw [Nat.pow_succ] at h; omega)
   omega
def signed (v : Int) : List UInt8:=if v < 0 then zH5 v.natAbs ++ [45] else zH5 v.natAbs
def zDF (v : Int) : List UInt8:=if v = 0 then [48] else (signed v).reverse
end Go.AM
set_option maxRecDepth 20000
namespace Go.AM
def zAH (n : Nat) : Bs:=if n = 0 then [48] else (zH5 n).reverse
def esc : Bs → Bs
 | []=>[]
 | c :: r=>if c = 34 then 34 :: 34 :: esc r else c :: esc r
def refT (r : RefP) : Bs:=(if r.fc then [36] else []) ++ [UInt8.ofNat (64 + r.col.toNat)] ++ (if r.fr then [36] else []) ++ zAH r.row.toNat
def opT (op : Nat) : Bs:=[[],[61],[60,62],[60],[60,61],[62],[62,61],[38],[43],[45],[42],[47]].getD op []
def zKk (n : Nd) : Nat:=if n.kind = 8 then tight n.num.toNat else 9
def brk (need : Bool) (t : Bs) : Bs:=if need then 40 :: t ++ [41] else t
def zLs : List Bs → Bs
 | []=>[]
 | [t]=>t
 | t :: u :: r=>t ++ 44 :: zLs (u :: r)
def txtK (k num : Int) (t : Bs) (r o : RefP) (ks : List (Nat × Bs)) : Bs:=
 if k = 1 then zAH num.toNat
 else if k = 2 then 34 :: esc t ++ [34]
 else if k = 3 then (if num = 1 then zLq else zKj)
 else if k = 4 then wrongs.getD (num.toNat - 1) []
 else if k = 5 then refT r
 else if k = 6 then refT r ++ 58 :: refT o
 else if k = 7 then (match ks with
  | [a]=>45 :: brk (decide (a.1 < 9)) a.2
  | _=>[])
 else if k = 8 then (match ks with
  | [a,b]=>brk (decide (a.1 < tight num.toNat)) a.2 ++ opT num.toNat ++ brk (decide (b.1 ≤ tight num.toNat)) b.2
  | _=>[])
 else t ++ 40 :: zLs (ks.map (·.2)) ++ [41]
mutual
def txt : Nd → Bs
 | .mk k num t r o ks=>txtK k num t r o (txts ks)
def txts : List Nd → List (Nat × Bs)
 | []=>[]
 | n :: r=>(zKk n,txt n) :: txts r
end
def okR (r : RefP) : Prop:=1 ≤ r.col ∧ r.col ≤ 26 ∧ 1 ≤ r.row ∧ r.row ≤ 99
inductive Wf : Bool → Nd → Prop where
 | num (x : Bool) (n : Nat) (h : n ≤ 9223372036854775807) : Wf x (numN n)
 | txt (x : Bool) (t : Bs) : Wf x (txtN t)
 | tru (x b : Bool) : Wf x (truN b)
 | bad (x : Bool) (k : Nat) (h : 1 ≤ k ∧ k ≤ 6) : Wf x (badN k)
 | ref (x : Bool) (r : RefP) (h : okR r) : Wf x (refN r)
 | box (r o : RefP) (h : okR r) (k : okR o) : Wf true (boxN r o)
 | neg (x : Bool) (n : Nd) (h : Wf false n) : Wf x (negN n)
 | two (x : Bool) (op : Nat) (a b : Nd) (h : 1 ≤ op ∧ op ≤ 11) (ha : Wf false a) (hb : Wf false b) : Wf x (twoN op a b)
 | call (x : Bool) (t : Bs) (ks : List Nd) (h : zI1 t = true) (hk : ∀ k ∈ ks,Wf true k) : Wf x (zK8 t ks)
def needK (k num : Int) (ks : List (Nat × Nat)) : Nat:=
 if k = 7 then (match ks with
  | [a]=>1 + (a.2 + if a.1 < 9 then 1 else 0)
  | _=>0)
 else if k = 8 then (match ks with
  | [a,b]=>max (a.2 + if a.1 < tight num.toNat then 1 else 0) (b.2 + if b.1 ≤ tight num.toNat then 1 else 0)
  | _=>0)
 else if k = 9 then 1 + (ks.map (·.2)).foldr max 0
 else 0
mutual
def need : Nd → Nat
 | .mk k num _ _ _ ks=>needK k num (needs ks)
def needs : List Nd → List (Nat × Nat)
 | []=>[]
 | n :: r=>(zKk n,need n) :: needs r
end
theorem zD5 {k : Nat} (h : k < 10) : (UInt8.ofNat (48 + k)).toNat = 48 + k:=by simp; omega
theorem zJ3 : ∀ (n : Nat),∀ c ∈ zH5 n,zHD c = true:=by
 intro n
 induction n using Nat.strongRecOn with
 | ind n ih=>
  intro c hc
  by_cases h : n = 0
  ·subst h; cases hc
  ·rw [zCl h] at hc
   rcases List.mem_cons.1 hc with rfl | hc
   ·have:=zD5 (k:=n % 10) tO
    unfold zHD
    rw [this]
    simp; omega
   ·exact ih (n / 10) tO c hc
theorem zH6 (l : Bs) (c : UInt8) : zEM (l ++ [c]) = zEM l * 10 + (c.toNat - 48):=by unfold zEM; rw [List.foldl_append]; rfl
theorem zJ4 : ∀ n : Nat,zEM (zH5 n).reverse = n:=by
 intro n
 induction n using Nat.strongRecOn with
 | ind n ih=>
  by_cases h : n = 0
  ·subst h; rfl
  ·rw [zCl h,List.reverse_cons,zH6,ih (n / 10) tO,zD5 tO]
   omega
theorem zFS (n : Nat) : ∀ c ∈ zAH n,zHD c = true:=by
 unfold zAH
 split
 ·intro c hc; rw [List.mem_singleton.1 hc]; rfl
 ·intro c hc; exact zJ3 n c (List.mem_reverse.1 hc)
theorem zFT (n : Nat) : zEM (zAH n) = n:=by
 unfold zAH
 split
 ·rename_i h; rw [h]; rfl
 ·exact zJ4 n
theorem zGF : ∀ n : Nat,n ≠ 0 → (zH5 n).getLast? ≠ some 48 ∧ (zH5 n) ≠ []:=by
 intro n
 induction n using Nat.strongRecOn with
 | ind n ih=>
  intro h
  rw [zCl h]
  refine ⟨?_,by simp⟩
  by_cases h1 : n / 10 = 0
  ·rw [h1,zD4]
   intro e
   have e : UInt8.ofNat (48 + n % 10) = 48:=Option.some.inj e
   have:=zD5 (k:=n % 10) tO
   rw [e] at this
   simp at this
   omega
  ·obtain ⟨h2,h3⟩:=ih (n / 10) tO h1
   obtain ⟨x,r,hx⟩:=List.exists_cons_of_ne_nil h3
   rw [hx] at h2 ⊢
   simpa using h2
theorem zC0 (n : Nat) : zAH n ≠ []:=by
 unfold zAH
 split
 ·simp
 ·rename_i h; simpa using (zGF n h).2
theorem zGG (n : Nat) (h : (zAH n).head? = some 48) : zAH n = [48]:=by
 unfold zAH at h ⊢
 split
 ·rfl
 ·rename_i h0
  rw [if_neg h0,List.head?_reverse] at h
  exact absurd h (zGF n h0).1
end Go.AM
namespace Go.AM
structure FormP where
 ahead : List UInt8
 behind : List UInt8
 group : Bool
 least : Nat
 point : Nat
def zc : List UInt8 → Nat
 | []=>0
 | c :: r=>if c = 48 then zc r + 1 else 0
theorem zH7 : ∀ s,zc s ≤ s.length
 | []=>Nat.le_refl _
 | c :: r=>by
  unfold zc
  have:=zH7 r
  split <;> simp only [List.length_cons] <;> omega
def fcut : List UInt8 → Option (List UInt8 × List UInt8)
 | []=>none
 | c :: r=>if c = 34 then some ([],r) else (fcut r).map fun p=>(c :: p.1,p.2)
def zAD : List UInt8 → Option (List UInt8 × List UInt8)
 | []=>some ([],[])
 | c :: r=>if c = 34 then fcut r else some ([],c :: r)
def zEo : List UInt8 → Option (Nat × List UInt8)
 | []=>some (0,[])
 | c :: r=>if c = 46 then (if 1 ≤ zc r ∧ zc r ≤ 6 then some (zc r,r.drop (zc r)) else none) else some (0,c :: r)
def zH8 (s : List UInt8) : Option (List UInt8):=if s = [37] then some [37] else match zAD s with
 | some (b,[])=>some b
 | _=>none
def zCm (s : List UInt8) : Bool:=s.take 2 == [35,44]
def zj (s : List UInt8) : List UInt8:=if zCm s = true then s.drop 2 else s
def zGo (a : List UInt8) (s : List UInt8) : Option FormP:=match zEo ((zj s).drop (zc (zj s))) with
 | none=>none
 | some (p,r)=>match zH8 r with
  | none=>none
  | some b=>if zc (zj s) = 0 then none else some ⟨a,b,zCm s,zc (zj s),p⟩
def zFU (s : List UInt8) : Option FormP:=if 40 < s.length then none else match zAD s with
 | none=>none
 | some (a,r)=>zGo a r
def zKl (n : Nat) (s : List UInt8) : List UInt8:=List.replicate (n - s.length) 48 ++ s
theorem zHG (n : Nat) (s : List UInt8) : (zKl n s).length = max n s.length:=by
 unfold zKl
 rw [List.length_append,List.length_replicate]; omega
def zB6 (W : List UInt8) : Nat → List UInt8
 | 0=>[]
 | j + 1=>W.getD (W.length - 1 - j) 0 :: (if j ≠ 0 ∧ j % 3 = 0 then 44 :: zB6 W j else zB6 W j)
def zB7 (f : FormP) (D : List UInt8) : List UInt8:=D.take (D.length - f.point)
def zDG (f : FormP) (v : Int) : List UInt8:=
 let D:=zKl (f.least + f.point) (zAH v.natAbs)
 let W:=zB7 f D
 (if v < 0 then [45] else []) ++ (f.ahead ++ ((if f.group = true then zB6 W W.length else W) ++ ((if f.point = 0 then [] else 46 :: D.drop (D.length - f.point)) ++ f.behind)))
def zJT (W : List UInt8) (t : Nat) : List UInt8:=W.take (W.length - 3 * t) ++ (if t = 0 then [] else 44 :: zB6 W (3 * t))
theorem getD_some {W : List UInt8} {i : Nat} (h : i < W.length) : W[i]? = some (W.getD i 0):=by
 rw [List.getD_eq_getElem?_getD,List.getElem?_eq_getElem h]; rfl
theorem z8 {W : List UInt8} {i : Nat} (h : i < W.length) : W.drop i = W.getD i 0 :: W.drop (i + 1):=by
 rw [List.drop_eq_getElem_cons h,List.getD_eq_getElem?_getD,List.getElem?_eq_getElem h]; rfl
theorem zH9 (W : List UInt8) (t : Nat) (h : 3 * (t + 1) ≤ W.length) : zB6 W (3 * (t + 1)) = W.getD (W.length - 3 * (t + 1)) 0 :: W.getD (W.length - 3 * (t + 1) + 1) 0 :: W.getD (W.length - 3 * (t + 1) + 2) 0 :: (if t = 0 then [] else 44 :: zB6 W (3 * t)):=by
 have e : 3 * (t + 1) = 3 * t + 1 + 1 + 1:=by omega
 rw [e,zB6,zB6,zB6]
 rw [if_neg tO,if_neg tO]
 rw [show W.length - 1 - (3 * t + 1 + 1) = W.length - (3 * t + 1 + 1 + 1) by omega,show W.length - 1 - (3 * t + 1) = W.length - (3 * t + 1 + 1 + 1) + 1 by omega,show W.length - 1 - 3 * t = W.length - (3 * t + 1 + 1 + 1) + 2 by omega]
 by_cases h0 : t = 0
 ·subst h0; rfl
 ·rw [if_pos tO,if_neg h0]
theorem zJ5 {W : List UInt8} {t i : Nat} (hi : i = W.length - 3 * (t + 1)) (h : 3 * (t + 1) < W.length) : (zJT W t).take i ++ 44 :: (zJT W t).drop i = zJT W (t + 1):=by
 subst hi
 have hl : (W.take (W.length - 3 * t)).length = W.length - 3 * t:=by rw [List.length_take]; omega
 unfold zJT
 rw [if_neg (by omega : ¬ t + 1 = 0),zH9 W t tO]
 rw [List.take_append_of_le_length (by rw [hl]; omega),List.drop_append_of_le_length (by rw [hl]; omega),List.take_take,Nat.min_eq_left tO]
 congr 2
 rw [List.drop_take,show W.length - 3 * t - (W.length - 3 * (t + 1)) = 3 by omega,z8 (by omega : W.length - 3 * (t + 1) < W.length),z8 (by omega : W.length - 3 * (t + 1) + 1 < W.length),z8 (by omega : W.length - 3 * (t + 1) + 1 + 1 < W.length)]
 rfl
theorem zLA {W : List UInt8} {t : Nat} (h : ¬ 3 * (t + 1) < W.length) (h2 : t ≠ 0 → 3 * t < W.length) : zJT W t = zB6 W W.length:=by
 unfold zJT
 by_cases h0 : t = 0
 ·subst h0
  have hw : W.length = 0 ∨ W.length = 1 ∨ W.length = 2 ∨ W.length = 3:=by omega
  rw [Nat.mul_zero,Nat.sub_zero,List.take_length,if_pos rfl,List.append_nil]
  match W,hw with
  | [],_=>rfl
  | [a],_=>rfl
  | [a,b],_=>rfl
  | [a,b,c],_=>rfl
  | a :: b :: c :: d :: r,hw=>simp only [List.length_cons] at hw; omega
 ·have h2:=h2 h0
  rw [if_neg h0]
  have d : ∀ k,W.length = 3 * t + k → W.take (W.length - 3 * t) = W.take k:=fun k e=>by rw [e]; congr 1; omega
  have hc : W.length = 3 * t + 1 ∨ W.length = 3 * t + 1 + 1 ∨ W.length = 3 * t + 1 + 1 + 1:=by omega
  have hd : W = W.drop 0:=rfl
  rcases hc with e | e | e
  ·rw [d 1 e,e,zB6,if_pos tO,e,show 3 * t + 1 - 1 - 3 * t = 0 by omega]
   rw [show W.take 1 = (W.drop 0).take 1 from rfl,z8 tO]; rfl
  ·rw [d 2 e,e,zB6,zB6,if_neg tO,if_pos tO,e,show 3 * t + 1 + 1 - 1 - (3 * t + 1) = 0 by omega,show 3 * t + 1 + 1 - 1 - 3 * t = 1 by omega]
   rw [show W.take 2 = (W.drop 0).take 2 from rfl,z8 tO,z8 tO]; rfl
  ·rw [d 3 e,e,zB6,zB6,zB6,if_neg tO,if_neg tO,if_pos tO,e,show 3 * t + 1 + 1 + 1 - 1 - (3 * t + 1 + 1) = 0 by omega,show 3 * t + 1 + 1 + 1 - 1 - (3 * t + 1) = 1 by omega,show 3 * t + 1 + 1 + 1 - 1 - 3 * t = 2 by omega]
   rw [show W.take 3 = (W.drop 0).take 3 from rfl,z8 tO,z8 tO,z8 tO]; rfl
end Go.AM
namespace Go.AM
theorem zI2 : ∀ s : List UInt8,(Lib.index s [34] = -1 ∧ fcut s = none) ∨ (∃ n : Nat,Lib.index s [34] = n ∧ n < s.length ∧ fcut s = some (s.take n,s.drop (n + 1)))
 | []=>.inl ⟨rfl,rfl⟩
 | c :: r=>by
  unfold Lib.index fcut
  by_cases h : c = 34
  ·subst h
   exact .inr ⟨0,rfl,by simp,rfl⟩
  ·rw [if_neg h]
   have hp : ([34] : List UInt8).isPrefixOf (c :: r) = false:=by
    show ((34 : UInt8) == c && _) = false
    rw [tN (fun e=>h e.symm)]; rfl
   rw [hp]
   rcases zI2 r with ⟨h1,h2⟩ | ⟨n,h1,h2,h3⟩
   ·rw [h1,h2]; exact .inl ⟨rfl,rfl⟩
   ·rw [h1,h3]
    refine .inr ⟨n + 1, ?_,by simp only [List.length_cons]; omega,rfl⟩
    have : ((n : Int) == -1) = false:=tN
    rw [this]; rfl
theorem zLt (s : List UInt8) : Lib.cut s [34] = match fcut s with
  | some (a,b)=>(a,b,true)
  | none=>(s,[],false):=by
 unfold Lib.cut
 rcases zI2 s with ⟨h1,h2⟩ | ⟨n,h1,h2,h3⟩
 ·rw [h1,h2]; rfl
 ·rw [h1,h3,if_pos tO]; rfl
theorem zI3 : ∀ s : List UInt8,Lib.trimLeftB s 48 = s.drop (zc s)
 | []=>rfl
 | c :: r=>by
  unfold Lib.trimLeftB zc
  by_cases h : c = 48
  ·subst h
   have:=zI3 r
   unfold Lib.trimLeftB at this
   rw [if_pos rfl,List.dropWhile_cons_of_pos (by rfl),this]; rfl
  ·rw [if_neg h,List.dropWhile_cons_of_neg (by simpa using h)]; rfl
theorem zI4 (s : List UInt8) : Lib.hasPrefix s [35,44] = zCm s:=by
 unfold Lib.hasPrefix zCm
 match s with
 | []=>rfl
 | [a]=>show ((35 : UInt8) == a && false) = (a == 35 && (([] : List UInt8) == [44])); rw [Bool.and_false]; cases a == 35 <;> rfl
 | a :: b :: r=>
  show ((35 : UInt8) == a && ((44 : UInt8) == b && true)) = ([a,b] == [35,44])
  rw [Bool.and_true]
  show _ = (a == 35 && (b == 44 && true))
  rw [Bool.and_true,Bool.beq_comm (a:=a),Bool.beq_comm (a:=b)]
theorem zJ6 (s : List UInt8) : Lib.trimPrefix s [35,44] = zj s:=by
 unfold Lib.trimPrefix zj
 rw [zI4]; rfl
theorem zLu (s : List UInt8) : Lib.hasPrefix s [46] = (s.head? == some 46):=by
 unfold Lib.hasPrefix
 match s with
 | []=>rfl
 | a :: r=>
  show ((46 : UInt8) == a && true) = (some a == some 46)
  rw [Bool.and_true]
  show _ = (a == 46)
  rw [Bool.beq_comm]
theorem zLv (n : Nat) : Lib.repeatL [48] n = List.replicate n 48:=by
 induction n with
 | zero=>rfl
 | succ n ih=>rw [Lib.repeatL,ih]; rfl
theorem zGH : ∀ {t a b : List UInt8},fcut t = some (a,b) → t = a ++ 34 :: b ∧ ∀ c ∈ a,c ≠ 34
 | [],_,_,h=>by cases h
 | c :: r,a,b,h=>by
  unfold fcut at h
  by_cases hc : c = 34
  ·rw [if_pos hc] at h
   cases h
   exact ⟨by rw [hc]; rfl,fun _ h=>by cases h⟩
  ·rw [if_neg hc] at h
   cases hf : fcut r with
   | none=>rw [hf] at h; cases h
   | some p=>
    rw [hf] at h
    cases h
    obtain ⟨h1,h2⟩:=zGH hf
    refine ⟨by rw [h1]; rfl,fun x hx=>?_⟩
    rcases List.mem_cons.1 hx with rfl | hx
    ·exact hc
    ·exact h2 x hx
end Go.AM
