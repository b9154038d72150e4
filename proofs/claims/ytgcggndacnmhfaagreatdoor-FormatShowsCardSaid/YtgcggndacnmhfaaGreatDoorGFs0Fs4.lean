/- Several texts of mine in one (Fs0, Fs1, Fs2, Fs3, Fs4). Own work. -/
import Derived.Test.YtgcggndacnmhfaaGreatDoorGErrRt0
import Derived.Lib.IndexMore
import Derived.Lib.TrimByte
import Derived.Lib.Strings
import Derived.Lib.Repeat
import Derived.Test.YtgcggndacnmhfaaGreatDoorGAm23Bc
set_option linter.all false
namespace Go.AM
structure FormP where
 ahead : List UInt8
 behind : List UInt8
 group : Bool
 least : Nat
 point : Nat
def zc : List UInt8 → Nat
 | []=>0
 | c :: r=>if c = 48 then zc r + 1 else 0
theorem zGw : ∀ s,zc s ≤ s.length
 | []=>Nat.le_refl _
 | c :: r=>by
  unfold zc
  have:=zGw r
  split <;> simp only [List.length_cons] <;> omega
def fcut : List UInt8 → Option (List UInt8 × List UInt8)
 | []=>none
 | c :: r=>if c = 34 then some ([],r) else (fcut r).map fun p=>(c :: p.1,p.2)
def zAG : List UInt8 → Option (List UInt8 × List UInt8)
 | []=>some ([],[])
 | c :: r=>if c = 34 then fcut r else some ([],c :: r)
def zBV : List UInt8 → Option (Nat × List UInt8)
 | []=>some (0,[])
 | c :: r=>if c = 46 then (if 1 ≤ zc r ∧ zc r ≤ 6 then some (zc r,r.drop (zc r)) else none) else some (0,c :: r)
def zDV (s : List UInt8) : Option (List UInt8):=if s = [37] then some [37] else match zAG s with
 | some (b,[])=>some b
 | _=>none
def zCU (s : List UInt8) : Bool:=s.take 2 == [35,44]
def ze (s : List UInt8) : List UInt8:=if zCU s = true then s.drop 2 else s
def zGx (a : List UInt8) (s : List UInt8) : Option FormP:=match zBV ((ze s).drop (zc (ze s))) with
 | none=>none
 | some (p,r)=>match zDV r with
  | none=>none
  | some b=>if zc (ze s) = 0 then none else some ⟨a,b,zCU s,zc (ze s),p⟩
def zGy (s : List UInt8) : Option FormP:=if 40 < s.length then none else match zAG s with
 | none=>none
 | some (a,r)=>zGx a r
def zKB (n : Nat) (s : List UInt8) : List UInt8:=List.replicate (n - s.length) 48 ++ s
theorem zDW (n : Nat) (s : List UInt8) : (zKB n s).length = max n s.length:=by
 unfold zKB
 rw [List.length_append,List.length_replicate]; omega
def zDY (W : List UInt8) : Nat → List UInt8
 | 0=>[]
 | j + 1=>W.getD (W.length - 1 - j) 0 :: (if j ≠ 0 ∧ j % 3 = 0 then 44 :: zDY W j else zDY W j)
def zAK (f : FormP) (D : List UInt8) : List UInt8:=D.take (D.length - f.point)
def zGC (f : FormP) (v : Int) : List UInt8:=
 let D:=zKB (f.least + f.point) (zBe v.natAbs)
 let W:=zAK f D
 (if v < 0 then [45] else []) ++ (f.ahead ++ ((if f.group = true then zDY W W.length else W) ++ ((if f.point = 0 then [] else 46 :: D.drop (D.length - f.point)) ++ f.behind)))
def zKp (W : List UInt8) (t : Nat) : List UInt8:=W.take (W.length - 3 * t) ++ (if t = 0 then [] else 44 :: zDY W (3 * t))
theorem getD_some {W : List UInt8} {i : Nat} (h : i < W.length) : W[i]? = some (W.getD i 0):=by
 rw [List.getD_eq_getElem?_getD,List.getElem?_eq_getElem h]; rfl
theorem zAN {W : List UInt8} {i : Nat} (h : i < W.length) : W.drop i = W.getD i 0 :: W.drop (i + 1):=by
 rw [List.drop_eq_getElem_cons h,List.getD_eq_getElem?_getD,List.getElem?_eq_getElem h]; rfl
theorem zIy (W : List UInt8) (t : Nat) (h : 3 * (t + 1) ≤ W.length) : zDY W (3 * (t + 1)) = W.getD (W.length - 3 * (t + 1)) 0 :: W.getD (W.length - 3 * (t + 1) + 1) 0 :: W.getD (W.length - 3 * (t + 1) + 2) 0 :: (if t = 0 then [] else 44 :: zDY W (3 * t)):=by
 have e : 3 * (t + 1) = 3 * t + 1 + 1 + 1:=by omega
 rw [e,zDY,zDY,zDY]
 rw [if_neg tO,if_neg tO]
 rw [show W.length - 1 - (3 * t + 1 + 1) = W.length - (3 * t + 1 + 1 + 1) by omega,show W.length - 1 - (3 * t + 1) = W.length - (3 * t + 1 + 1 + 1) + 1 by omega,show W.length - 1 - 3 * t = W.length - (3 * t + 1 + 1 + 1) + 2 by omega]
 by_cases h0 : t = 0
 ·subst h0; rfl
 ·rw [if_pos tO,if_neg h0]
theorem zLO {W : List UInt8} {t i : Nat} (hi : i = W.length - 3 * (t + 1)) (h : 3 * (t + 1) < W.length) : (zKp W t).take i ++ 44 :: (zKp W t).drop i = zKp W (t + 1):=by
 subst hi
 have hl : (W.take (W.length - 3 * t)).length = W.length - 3 * t:=by rw [List.length_take]; omega
 unfold zKp
 rw [if_neg (by omega : ¬ t + 1 = 0),zIy W t tO]
 rw [List.take_append_of_le_length (by rw [hl]; omega),List.drop_append_of_le_length (by rw [hl]; omega),List.take_take,Nat.min_eq_left tO]
 congr 2
 rw [List.drop_take,show W.length - 3 * t - (W.length - 3 * (t + 1)) = 3 by omega,zAN (by omega : W.length - 3 * (t + 1) < W.length),zAN (by omega : W.length - 3 * (t + 1) + 1 < W.length),zAN (by omega : W.length - 3 * (t + 1) + 1 + 1 < W.length)]
 rfl
theorem zMX {W : List UInt8} {t : Nat} (h : ¬ 3 * (t + 1) < W.length) (h2 : t ≠ 0 → 3 * t < W.length) : zKp W t = zDY W W.length:=by
 unfold zKp
 by_cases h0 : t = 0
 ·subst h0
  have hw : W.length = 0 ∨ W.length = 1 ∨ W.length = 2 ∨ W.length = 3:=by omega
  rw [Nat.mul_zero,Nat.sub_zero,List.take_length,if_pos rfl,List.append_nil]
  match W,hw with
  | [],_=>rfl
  | [a],_=>rfl
  | [a,b],_=>rfl
  | [a,b,c],_=>rfl
  | a :: b :: c :: d :: r,hw=>simp only [List.length_cons] at hw; omega
 ·have h2:=h2 h0
  rw [if_neg h0]
  have d : ∀ k,W.length = 3 * t + k → W.take (W.length - 3 * t) = W.take k:=fun k e=>by rw [e]; congr 1; omega
  have hc : W.length = 3 * t + 1 ∨ W.length = 3 * t + 1 + 1 ∨ W.length = 3 * t + 1 + 1 + 1:=by omega
  have hd : W = W.drop 0:=rfl
  rcases hc with e | e | e
  ·rw [d 1 e,e,zDY,if_pos tO,e,show 3 * t + 1 - 1 - 3 * t = 0 by omega]
   rw [show W.take 1 = (W.drop 0).take 1 from rfl,zAN tO]; rfl
  ·rw [d 2 e,e,zDY,zDY,if_neg tO,if_pos tO,e,show 3 * t + 1 + 1 - 1 - (3 * t + 1) = 0 by omega,show 3 * t + 1 + 1 - 1 - 3 * t = 1 by omega]
   rw [show W.take 2 = (W.drop 0).take 2 from rfl,zAN tO,zAN tO]; rfl
  ·rw [d 3 e,e,zDY,zDY,zDY,if_neg tO,if_neg tO,if_pos tO,e,show 3 * t + 1 + 1 + 1 - 1 - (3 * t + 1 + 1) = 0 by omega,show 3 * t + 1 + 1 + 1 - 1 - (3 * t + 1) = 1 by omega,show 3 * t + 1 + 1 + 1 - 1 - 3 * t = 2 by omega]
   rw [show W.take 3 = (W.drop 0).take 3 from rfl,zAN tO,zAN tO,zAN tO]; rfl
def zKC (f : FormP) (D : List UInt8) (k : Nat) : List UInt8:=
 if k ≤ f.point then D.drop (D.length - k)
 else (if f.group = true then zDY (zAK f D) (k - f.point) else D.drop (D.length - k) |>.take (k - f.point)) ++ (if f.point = 0 then [] else 46 :: D.drop (D.length - f.point))
def zIz (f : FormP) (d : UInt8) (k : Nat) (o : List UInt8) : List UInt8:=
 let o:=if 0 < f.point ∧ k = f.point then 46 :: o else o
 let o:=if f.group = true ∧ f.point < k ∧ (k - f.point) % 3 = 0 then 44 :: o else o
 d :: o
theorem zKD (f : FormP) {D : List UInt8} {k : Nat} (hp : f.point < D.length) (h : k < D.length) : zIz f (D.getD (D.length - 1 - k) 0) k (zKC f D k) = zKC f D (k + 1):=by
 have hW : (zAK f D).length = D.length - f.point:=by unfold zAK; rw [List.length_take]; omega
 have hd : D.drop (D.length - (k + 1)) = D.getD (D.length - 1 - k) 0 :: D.drop (D.length - k):=by
  rw [zAN tO,show D.length - (k + 1) + 1 = D.length - k by omega,show D.length - (k + 1) = D.length - 1 - k by omega]
 unfold zIz zKC
 by_cases h1 : k < f.point
 ·rw [if_pos (by omega : k ≤ f.point),if_pos (by omega : k + 1 ≤ f.point)]
  dsimp only
  rw [if_neg (by omega : ¬ (0 < f.point ∧ k = f.point)),if_neg (by omega : ¬ (f.group = true ∧ f.point < k ∧ (k - f.point) % 3 = 0)),hd]
 ·by_cases h2 : k = f.point
  ·rw [if_pos (by omega : k ≤ f.point),if_neg (by omega : ¬ k + 1 ≤ f.point)]
   dsimp only
   rw [if_neg (by omega : ¬ (f.group = true ∧ f.point < k ∧ (k - f.point) % 3 = 0))]
   rw [show k + 1 - f.point = 1 by omega]
   have hg : (if f.group = true then zDY (zAK f D) 1 else (D.drop (D.length - (k + 1))).take 1) = [D.getD (D.length - 1 - k) 0]:=by
    split
    ·show [(zAK f D).getD ((zAK f D).length - 1 - 0) 0] = _
     rw [hW]
     unfold zAK
     rw [List.getD_eq_getElem?_getD,List.getD_eq_getElem?_getD,List.getElem?_take,if_pos tO,show D.length - f.point - 1 - 0 = D.length - 1 - k by omega]
    ·rw [hd]; rfl
   rw [hg]
   by_cases h0 : f.point = 0
   ·rw [if_neg tO,if_pos h0,show D.length - k = D.length by omega,List.drop_length]; rfl
   ·rw [if_pos tO,if_neg h0,h2]; rfl
  ·rw [if_neg (by omega : ¬ k ≤ f.point),if_neg (by omega : ¬ k + 1 ≤ f.point)]
   dsimp only
   rw [if_neg (by omega : ¬ (0 < f.point ∧ k = f.point))]
   have ek : k + 1 - f.point = (k - f.point) + 1:=by omega
   by_cases hg : f.group = true
   ·rw [if_pos hg,if_pos hg,ek,zDY,hW]
    have e1 : (zAK f D).getD (D.length - f.point - 1 - (k - f.point)) 0 = D.getD (D.length - 1 - k) 0:=by
     unfold zAK
     rw [List.getD_eq_getElem?_getD,List.getD_eq_getElem?_getD,List.getElem?_take,if_pos tO,show D.length - f.point - 1 - (k - f.point) = D.length - 1 - k by omega]
    rw [e1]
    by_cases h3 : (k - f.point) % 3 = 0
    ·rw [if_pos (⟨hg,by omega,h3⟩ : f.group = true ∧ f.point < k ∧ (k - f.point) % 3 = 0),if_pos (⟨by omega,h3⟩ : k - f.point ≠ 0 ∧ (k - f.point) % 3 = 0)]; rfl
    ·rw [if_neg (fun h=>h3 h.2.2 : ¬ (f.group = true ∧ f.point < k ∧ (k - f.point) % 3 = 0)),if_neg (fun h=>h3 h.2 : ¬ (k - f.point ≠ 0 ∧ (k - f.point) % 3 = 0))]; rfl
   ·rw [if_neg hg,if_neg (fun h=>hg h.1 : ¬ (f.group = true ∧ f.point < k ∧ (k - f.point) % 3 = 0)),if_neg hg,ek,hd]
    rfl
theorem zLP (f : FormP) {D : List UInt8} (hp : f.point < D.length) : zKC f D D.length = (if f.group = true then zDY (zAK f D) (zAK f D).length else zAK f D) ++ (if f.point = 0 then [] else 46 :: D.drop (D.length - f.point)):=by
 have hW : (zAK f D).length = D.length - f.point:=by unfold zAK; rw [List.length_take]; omega
 unfold zKC
 rw [if_neg tO,hW,Nat.sub_self,List.drop_zero]
 rfl
end Go.AM
namespace Go.AM
theorem zKE : ∀ s : List UInt8,(Lib.index s [34] = -1 ∧ fcut s = none) ∨ (∃ n : Nat,Lib.index s [34] = n ∧ n < s.length ∧ fcut s = some (s.take n,s.drop (n + 1)))
 | []=>.inl ⟨rfl,rfl⟩
 | c :: r=>by
  unfold Lib.index fcut
  by_cases h : c = 34
  ·subst h
   exact .inr ⟨0,rfl,by simp,rfl⟩
  ·rw [if_neg h]
   have hp : ([34] : List UInt8).isPrefixOf (c :: r) = false:=by
    show ((34 : UInt8) == c && _) = false
    rw [tN (fun e=>h e.symm)]; rfl
   rw [hp]
   rcases zKE r with ⟨h1,h2⟩ | ⟨n,h1,h2,h3⟩
   ·rw [h1,h2]; exact .inl ⟨rfl,rfl⟩
   ·rw [h1,h3]
    refine .inr ⟨n + 1, ?_,by simp only [List.length_cons]; omega,rfl⟩
    have : ((n : Int) == -1) = false:=tN
    rw [this]; rfl
theorem zNS (s : List UInt8) : Lib.cut s [34] = match fcut s with
  | some (a,b)=>(a,b,true)
  | none=>(s,[],false):=by
 unfold Lib.cut
 rcases zKE s with ⟨h1,h2⟩ | ⟨n,h1,h2,h3⟩
 ·rw [h1,h2]; rfl
 ·rw [h1,h3,if_pos tO]; rfl
theorem zKF : ∀ s : List UInt8,Lib.trimLeftB s 48 = s.drop (zc s)
 | []=>rfl
 | c :: r=>by
  unfold Lib.trimLeftB zc
  by_cases h : c = 48
  ·subst h
   have:=zKF r
   unfold Lib.trimLeftB at this
   rw [if_pos rfl,List.dropWhile_cons_of_pos (by rfl),this]; rfl
  ·rw [if_neg h,List.dropWhile_cons_of_neg (by simpa using h)]; rfl
theorem zKG (s : List UInt8) : Lib.hasPrefix s [35,44] = zCU s:=by
 unfold Lib.hasPrefix zCU
 match s with
 | []=>rfl
 | [a]=>show ((35 : UInt8) == a && false) = (a == 35 && (([] : List UInt8) == [44])); rw [Bool.and_false]; cases a == 35 <;> rfl
 | a :: b :: r=>
  show ((35 : UInt8) == a && ((44 : UInt8) == b && true)) = ([a,b] == [35,44])
  rw [Bool.and_true]
  show _ = (a == 35 && (b == 44 && true))
  rw [Bool.and_true,Bool.beq_comm (a:=a),Bool.beq_comm (a:=b)]
theorem zLQ (s : List UInt8) : Lib.trimPrefix s [35,44] = ze s:=by
 unfold Lib.trimPrefix ze
 rw [zKG]; rfl
theorem zNT (s : List UInt8) : Lib.hasPrefix s [46] = (s.head? == some 46):=by
 unfold Lib.hasPrefix
 match s with
 | []=>rfl
 | a :: r=>
  show ((46 : UInt8) == a && true) = (some a == some 46)
  rw [Bool.and_true]
  show _ = (a == 46)
  rw [Bool.beq_comm]
theorem zNU (n : Nat) : Lib.repeatL [48] n = List.replicate n 48:=by
 induction n with
 | zero=>rfl
 | succ n ih=>rw [Lib.repeatL,ih]; rfl
theorem zEw : ∀ {t a b : List UInt8},fcut t = some (a,b) → t = a ++ 34 :: b ∧ ∀ c ∈ a,c ≠ 34
 | [],_,_,h=>by cases h
 | c :: r,a,b,h=>by
  unfold fcut at h
  by_cases hc : c = 34
  ·rw [if_pos hc] at h
   cases h
   exact ⟨by rw [hc]; rfl,fun _ h=>by cases h⟩
  ·rw [if_neg hc] at h
   cases hf : fcut r with
   | none=>rw [hf] at h; cases h
   | some p=>
    rw [hf] at h
    cases h
    obtain ⟨h1,h2⟩:=zEw hf
    refine ⟨by rw [h1]; rfl,fun x hx=>?_⟩
    rcases List.mem_cons.1 hx with rfl | hx
    ·exact hc
    ·exact h2 x hx
theorem zKH : ∀ {t : List UInt8},fcut t = none → ∀ c ∈ t,c ≠ 34
 | [],_,_,h=>by cases h
 | c :: r,h,x,hx=>by
  unfold fcut at h
  by_cases hc : c = 34
  ·rw [if_pos hc] at h; cases h
  ·rw [if_neg hc] at h
   rcases List.mem_cons.1 hx with rfl | hx
   ·exact hc
   ·exact zKH (by cases hf : fcut r with
     | none=>rfl
     | some p=>rw [hf] at h; cases h) x hx
theorem zKI : ∀ {t : List UInt8} {j : Nat},j < zc t → t[j]? = some 48
 | [],j,h=>by simp [zc] at h
 | c :: r,j,h=>by
  unfold zc at h
  by_cases hc : c = 48
  ·rw [if_pos hc] at h
   match j with
   | 0=>rw [hc]; rfl
   | j + 1=>exact zKI (t:=r) tO
  ·rw [if_neg hc] at h; omega
theorem zKJ : ∀ {t : List UInt8},t[zc t]? ≠ some 48
 | [],h=>by cases h
 | c :: r,h=>by
  unfold zc at h
  by_cases hc : c = 48
  ·rw [if_pos hc] at h; exact zKJ (t:=r) h
  ·rw [if_neg hc] at h
   exact hc (Option.some.inj h)
end Go.AM
set_option maxRecDepth 20000
namespace Go.AM
theorem zCb (s : Bs) (a : Nat) (h : a ≤ s.length) : zf none (.str s) (some (.int .i64 (a : Int))) none = some (.str (s.drop a)):=by
 simp only [zf,zAv,aHi,aLo]
 have h1 : ¬ ((a : Int) < 0):=by omega
 have e1 : (a : Int).toNat = a:=Int.toNat_natCast a
 simp [h1,e1,h]
section
variable {C : CSpec} {GT : Nat → Option AV}
abbrev Bs1:=List UInt8
def zHb (s : Bs1) : AV:=match zAG s with
 | some (a,r)=>.tup [.str a,.str r,.bool true]
 | none=>.tup [.str (s.drop 1),.str [],.bool false]
abbrev CutH (C : CSpec) : Prop:=∀ (s : Bs1) H,s.length ≤ 1000 → C zA9 [.str s,.str [34]] H (.tup [.str (Lib.cut s [34]).1,.str (Lib.cut s [34]).2.1,.bool (Lib.cut s [34]).2.2]) H
abbrev TriH (C : CSpec) : Prop:=∀ (s : Bs1) H,s.length ≤ 1000 → C zAI [.str s,.str [48]] H (.str (Lib.trimLeftB s 48)) H
abbrev CpxH (C : CSpec) : Prop:=∀ (s p : Bs1) H,s.length ≤ 1000 → C zAE [.str s,.str p] H (.tup [.str (Lib.trimPrefix s p),.bool (Lib.hasPrefix s p)]) H
theorem zKK (hC : CutH C) (s : Bs1) (hl : s.length ≤ 40) (H : Heap) : EFun C GT zCS [.str s] H (zHb s) H:=by
 refine zS ?_
 cases s with
 | nil=>
  clear hC
  refine zE <| zE <| zE ?_
  exact sRr
 | cons c r=>
  have hne : (c :: r == ([] : Bs1)) = false:=rfl
  have hc : (c :: r)[0]? = some c:=rfl
  by_cases h34 : c = 34
  ·subst h34
   have hl2 : r.length ≤ 1000:=by simp only [List.length_cons] at hl; omega
   have hk:=fun H=>hC r H hl2
   rw [zNS] at hk
   have hs : zf none (.str (34 :: r)) (some (.int .i64 1)) none = some (.str r):=zCb (34 :: r) 1 (by simp)
   clear hC
   have eq : zHb (34 :: r) = match fcut r with
    | some (a,b)=>.tup [.str a,.str b,.bool true]
    | none=>.tup [.str r,.str [],.bool false]:=rfl
   rw [eq]
   cases hf : fcut r with
   | none=>
    rw [hf] at hk
    refine zU hne <| zEm (i:=0) rfl hc <| zU hne <| zU hne <| za hs <| zK (hk _) ?_; refine za rfl <| za rfl <| za rfl ?_
    exact sRr
   | some p=>
    obtain ⟨a,b⟩:=p
    rw [hf] at hk
    refine zU hne <| zEm (i:=0) rfl hc <| zU hne <| zU hne <| za hs <| zK (hk _) ?_; refine za rfl <| za rfl <| za rfl ?_
    exact sRr
  ·have h34' : c.toNat ≠ 34:=fun e=>h34 (UInt8.toNat_inj.1 e)
   have q : zAG (c :: r) = some ([],c :: r):=if_neg h34
   have e : zHb (c :: r) = .tup [.str [],.str (c :: r),.bool true]:=by unfold zHb; rw [q]
   have hb : (((c.toNat : Nat) : Int) != 34) = true:=bne_iff_ne.2 tO
   rw [e]
   clear hC
   refine zU hne <| zEm (i:=0) rfl hc <| zU hne <| zq hb ?_
   exact sRr
theorem zLR (hT : TriH C) (s : Bs1) (hl : s.length ≤ 1000) (H : Heap) : EFun C GT zCu [.str s] H (zu (zc s)) H:=by
 have hk:=fun H=>hT s H hl
 rw [zKF] at hk
 have hz:=zGw s
 clear hT
 refine zS ?_; refine zK (hk _) <| zAf (r:=zc s) (by rw [List.length_drop]; omega) tO ?_
 exact sRr
def zC (f : FormP) : AV:=.agg [.str f.ahead,.str f.behind,.bool f.group,zu f.least,zu f.point]
def zC8 (f : FormP) (s : Bs1) : FormP × Bool:=if s = [37] then ({ f with behind:=[37] },decide (0 < f.least)) else match zAG s with
 | none=>({ f with behind:=s.drop 1 },false)
 | some (b,r)=>({ f with behind:=b },decide (0 < f.least) && (r == []))
def zI0 (f : FormP) (s : Bs1) : FormP × Bool:=match s with
 | []=>zC8 f []
 | c :: r=>if c = 46 then (if zc r < 1 ∨ 6 < zc r then ({ f with point:=zc r },false) else zC8 { f with point:=zc r } (r.drop (zc r))) else zC8 f (c :: r)
theorem zID (f : FormP) (r : Bs1) : zI0 f (46 :: r) = if zc r < 1 ∨ 6 < zc r then ({ f with point:=zc r },false) else zC8 { f with point:=zc r } (r.drop (zc r)):=by
 unfold zI0
 simp only [if_true]
def zAL (s : Bs1) : FormP × Bool:=if 40 < s.length then (⟨[],[],false,0,0⟩,false) else match zAG s with
 | none=>(⟨s.drop 1,[],false,0,0⟩,false)
 | some (a,r)=>zI0 ⟨a,[],zCU r,zc (ze r),0⟩ ((ze r).drop (zc (ze r)))
abbrev QuoH (C : CSpec) : Prop:=∀ (s : Bs1) H,s.length ≤ 40 → C zAq [.str s] H (zHb s) H
abbrev ZerH (C : CSpec) : Prop:=∀ (s : Bs1) H,s.length ≤ 1000 → C zA0 [.str s] H (zu (zc s)) H
theorem zDl : ∀ {s a r : Bs1},zAG s = some (a,r) → a.length + r.length ≤ s.length
 | [],a,r,h=>by cases h; exact Nat.le_refl _
 | c :: t,a,r,h=>by
  have h : (if c = 34 then fcut t else some ([],c :: t)) = some (a,r):=h
  by_cases hc : c = 34
  ·rw [if_pos hc] at h
   have:=(zEw h).1
   rw [this]; simp only [List.length_cons,List.length_append]; omega
  ·rw [if_neg hc] at h; cases h; simp
set_option maxHeartbeats 4000000 in
theorem zHc (hQ : QuoH C) {H H1 : Heap} {b : Nat} (hO : Old H H1) (lb : H.length ≤ b) (f : FormP) (hb : H1[b]? = some (.box (zC f).cells)) (s : Bs1) (hl : s.length ≤ 40) :
  EW C GT (zB0.behind 7) (zIu zBA H (.tup [zC (zC8 f s).1,.bool (zC8 f s).2]) H) [(2,.ref b 0 0 0),(0,.str s)] H1:=by
 have gb:=(zg hb).1
 by_cases h37 : s = [37]
 ·subst h37
  have e : zC8 f [37] = ({ f with behind:=[37] },decide (0 < f.least)):=rfl
  rw [e]
  by_cases h0 : 0 < f.least
  ·have gg : decide (((f.least : Nat) : Int) > 0) = true:=tT
   rw [decide_eq_true h0]
   refine zq (b:=(([37] : Bs1) == [37])) rfl <| zJ (v:=AV.str [37]) (zC { f with behind:=[37] }).cells hb rfl rfl rfl rfl <| zA (zC { ahead:=f.ahead,behind:=[37],group:=f.group,least:=f.least,point:=f.point }) (zH hb) rfl <| zA _ (zH hb) rfl <| zq gg <| zq (b:=(([37] : Bs1) == [37])) rfl ?_; refine zJ (v:=zC { ahead:=f.ahead,behind:=[37],group:=f.group,least:=f.least,point:=f.point }) (AV.cells (zC { ahead:=f.ahead,behind:=[37],group:=f.group,least:=f.least,point:=f.point })) (zH hb) rfl rfl rfl rfl ?_
   exact zQ (o:=0) rfl rfl (zk (zH (zH hb))) rfl rfl rfl rfl ((hO.set tA _).set tA _)
  ·have gg : decide (((f.least : Nat) : Int) > 0) = false:=tF
   rw [decide_eq_false h0]
   refine zq (b:=(([37] : Bs1) == [37])) rfl <| zJ (v:=AV.str [37]) (zC { f with behind:=[37] }).cells hb rfl rfl rfl rfl <| zA (zC { ahead:=f.ahead,behind:=[37],group:=f.group,least:=f.least,point:=f.point }) (zH hb) rfl <| zA _ (zH hb) rfl <| zU gg <| zD ?_; refine zJ (v:=zC { ahead:=f.ahead,behind:=[37],group:=f.group,least:=f.least,point:=f.point }) (AV.cells (zC { ahead:=f.ahead,behind:=[37],group:=f.group,least:=f.least,point:=f.point })) (zH hb) rfl rfl rfl rfl ?_
   exact zQ (o:=0) rfl rfl (zk (zH (zH hb))) rfl rfl rfl rfl ((hO.set tA _).set tA _)
 ·have hn : (s == ([37] : Bs1)) = false:=tN h37
  have hq:=fun H=>hQ s H hl
  unfold zHb at hq
  unfold zC8
  rw [if_neg h37]
  clear hQ
  cases e : zAG s with
  | none=>
   rw [e] at hq
   refine zU hn <| zK (hq _) <| za rfl <| za rfl <| za rfl <| zJ (v:=AV.str (s.drop 1)) (zC { f with behind:=s.drop 1 }).cells hb rfl rfl rfl rfl ?_; refine zE <| zA (zC { ahead:=f.ahead,behind:=List.drop 1 s,group:=f.group,least:=f.least,point:=f.point }) (zH hb) rfl <| zJ (v:=zC { ahead:=f.ahead,behind:=List.drop 1 s,group:=f.group,least:=f.least,point:=f.point }) (AV.cells (zC { ahead:=f.ahead,behind:=List.drop 1 s,group:=f.group,least:=f.least,point:=f.point })) (zH hb) rfl rfl rfl rfl ?_
   exact zQ (o:=0) rfl rfl (zk (zH (zH hb))) rfl rfl rfl rfl ((hO.set tA _).set tA _)
  | some p=>
   obtain ⟨b2,r⟩:=p
   rw [e] at hq
   dsimp only
   by_cases h0 : 0 < f.least
   ·have gg : decide (((f.least : Nat) : Int) > 0) = true:=tT
    rw [decide_eq_true h0,Bool.true_and]
    refine zU hn <| zK (hq _) <| za rfl <| za rfl <| za rfl <| zJ (v:=AV.str b2) (zC { f with behind:=b2 }).cells hb rfl rfl rfl rfl ?_; refine zD <| zA (zC { ahead:=f.ahead,behind:=b2,group:=f.group,least:=f.least,point:=f.point }) (zH hb) rfl <| zA _ (zH hb) rfl <| zq gg <| zE <| zJ (v:=zC { ahead:=f.ahead,behind:=b2,group:=f.group,least:=f.least,point:=f.point }) (AV.cells (zC { ahead:=f.ahead,behind:=b2,group:=f.group,least:=f.least,point:=f.point })) (zH hb) rfl rfl rfl rfl ?_
    exact zQ (o:=0) rfl rfl (zk (zH (zH hb))) rfl rfl rfl rfl ((hO.set tA _).set tA _)
   ·have gg : decide (((f.least : Nat) : Int) > 0) = false:=tF
    rw [decide_eq_false h0,Bool.false_and]
    refine zU hn <| zK (hq _) <| za rfl <| za rfl <| za rfl <| zJ (v:=AV.str b2) (zC { f with behind:=b2 }).cells hb rfl rfl rfl rfl ?_; refine zD <| zA (zC { ahead:=f.ahead,behind:=b2,group:=f.group,least:=f.least,point:=f.point }) (zH hb) rfl <| zA _ (zH hb) rfl <| zU gg <| zD <| zJ (v:=zC { ahead:=f.ahead,behind:=b2,group:=f.group,least:=f.least,point:=f.point }) (AV.cells (zC { ahead:=f.ahead,behind:=b2,group:=f.group,least:=f.least,point:=f.point })) (zH hb) rfl rfl rfl rfl ?_
    exact zQ (o:=0) rfl rfl (zk (zH (zH hb))) rfl rfl rfl rfl ((hO.set tA _).set tA _)
set_option maxHeartbeats 8000000 in
theorem zMY (hQ : QuoH C) (hZ : ZerH C) (hX : CpxH C) {H H1 : Heap} {b : Nat} (hO : Old H H1) (lb : H.length ≤ b) (a : Bs1) (hb : H1[b]? = some (.box (zC ⟨a,[],false,0,0⟩).cells)) (s : Bs1) (hl : s.length ≤ 40) :
  EW C GT (zB0.behind 3) (zIu zBA H (.tup [zC (zI0 ⟨a,[],zCU s,zc (ze s),0⟩ ((ze s).drop (zc (ze s)))).1,.bool (zI0 ⟨a,[],zCU s,zc (ze s),0⟩ ((ze s).drop (zc (ze s)))).2]) H) [(2,.ref b 0 0 0),(0,.str s)] H1:=by
 have gb:=(zg hb).1
 have hr : (ze s).length ≤ 40:=by
  unfold ze
  split
  ·rw [List.length_drop]; omega
  ·exact hl
 have x1:=fun H=>hX s [35,44] H tO
 rw [zKG,zLQ] at x1
 have z1:=fun H=>hZ (ze s) H tO
 have hz:=zGw (ze s)
 have s1 : zf none (.str (ze s)) (some (zu (zc (ze s)))) none = some (.str ((ze s).drop (zc (ze s)))):=zCb _ _ hz
 have hl3 : ((ze s).drop (zc (ze s))).length ≤ 40:=by rw [List.length_drop]; omega
 generalize zCU s = g at x1 ⊢
 generalize ze s = c2 at x1 z1 s1 hl3 hz hr ⊢
 generalize zc c2 = n at z1 s1 hl3 hz ⊢
 generalize c2.drop n = c3 at s1 hl3 ⊢
 have x2:=fun H=>hX c3 [46] H tO
 rw [zNT] at x2
 have hO1 : Old H ((H1.set b (.box (zC ⟨a,[],g,0,0⟩).cells)).set b (.box (zC ⟨a,[],g,n,0⟩).cells)):=(hO.set lb _).set lb _
 have hb1 : ((H1.set b (.box (zC ⟨a,[],g,0,0⟩).cells)).set b (.box (zC ⟨a,[],g,n,0⟩).cells))[b]? = some (.box (zC ⟨a,[],g,n,0⟩).cells):=zH (zH hb)
 clear hX
 cases c3 with
 | nil=>
  have key:=zHc (GT:=GT) hQ hO1 lb ⟨a,[],g,n,0⟩ hb1 [] hl3
  clear hQ hZ
  refine zK (x1 _) <| za rfl <| za rfl <| zJ (v:=AV.bool g) (zC ⟨a,[],g,0,0⟩).cells hb rfl rfl rfl rfl <| zK (z1 _) <| zJ (v:=zu n) (zC ⟨a,[],g,n,0⟩).cells (zH hb) rfl rfl rfl rfl ?_; refine zA _ (zH (zH hb)) rfl <| za s1 <| zK (x2 _) <| za rfl <| za rfl <| zD ?_; refine zAo rfl key ?_
  rfl
 | cons c r=>
  by_cases h46 : c = 46
  ·subst h46
   have ht : Lib.trimPrefix (46 :: r) [46] = r:=rfl
   rw [ht] at x2
   have z2:=fun H=>hZ r H (by simp only [List.length_cons] at hl3; omega)
   have s2 : zf none (.str r) (some (zu (zc r))) none = some (.str (r.drop (zc r))):=zCb _ _ (zGw r)
   have hzr:=zGw r
   have hl4 : (r.drop (zc r)).length ≤ 40:=by rw [List.length_drop]; simp only [List.length_cons] at hl3; omega
   have hb2:=fun p=>zH (x:=ABlk.box (zC ⟨a,[],g,n,p⟩).cells) hb1
   by_cases hp : zc r < 1 ∨ 6 < zc r
   ·have e : zI0 ⟨a,[],g,n,0⟩ (46 :: r) = (⟨a,[],g,n,zc r⟩,false):=(zID _ r).trans (if_pos hp)
    rw [e]
    have hb2:=hb2 (zc r)
    clear hQ hZ
    generalize zc r = p at *
    rcases hp with hp | hp
    ·refine zK (x1 _) <| za rfl <| za rfl <| zJ (v:=AV.bool g) (zC ⟨a,[],g,0,0⟩).cells hb rfl rfl rfl rfl <| zK (z1 _) <| zJ (v:=zu n) (zC ⟨a,[],g,n,0⟩).cells (zH hb) rfl rfl rfl rfl ?_; refine zA _ (zH (zH hb)) rfl <| za s1 <| zK (x2 _) <| za rfl <| za rfl <| zE ?_; refine zK (z2 _) <| zJ (v:=zu p) (zC ⟨a,[],g,n,p⟩).cells hb1 rfl rfl rfl rfl <| zA (zu p) hb2 rfl <| za s2 <| zA (zu p) hb2 rfl ?_
     refine zq tT <| zE <| zE <| zA (zC ⟨a,[],g,n,p⟩) hb2 rfl <| zJ (v:=zC { ahead:=a,behind:=[],group:=g,least:=n,point:=p }) (AV.cells (zC { ahead:=a,behind:=[],group:=g,least:=n,point:=p })) (zH (zH (zH hb))) rfl rfl rfl rfl ?_
     exact zQ (o:=0) rfl rfl (zk (zH (zH (zH (zH hb))))) rfl rfl rfl rfl ((hO1.set tA _).set tA _)
    ·refine zK (x1 _) <| za rfl <| za rfl <| zJ (v:=AV.bool g) (zC ⟨a,[],g,0,0⟩).cells hb rfl rfl rfl rfl <| zK (z1 _) <| zJ (v:=zu n) (zC ⟨a,[],g,n,0⟩).cells (zH hb) rfl rfl rfl rfl ?_; refine zA _ (zH (zH hb)) rfl <| za s1 <| zK (x2 _) <| za rfl <| za rfl <| zE ?_; refine zK (z2 _) <| zJ (v:=zu p) (zC ⟨a,[],g,n,p⟩).cells hb1 rfl rfl rfl rfl <| zA (zu p) hb2 rfl <| za s2 <| zA (zu p) hb2 rfl <| zU tF ?_
     refine zA (zu p) hb2 rfl <| zD <| zq tT <| zA (zC ⟨a,[],g,n,p⟩) hb2 rfl <| zJ (v:=zC { ahead:=a,behind:=[],group:=g,least:=n,point:=p }) (AV.cells (zC { ahead:=a,behind:=[],group:=g,least:=n,point:=p })) (zH (zH (zH hb))) rfl rfl rfl rfl ?_
     exact zQ (o:=0) rfl rfl (zk (zH (zH (zH (zH hb))))) rfl rfl rfl rfl ((hO1.set tA _).set tA _)
   ·have e : zI0 ⟨a,[],g,n,0⟩ (46 :: r) = zC8 ⟨a,[],g,n,zc r⟩ (r.drop (zc r)):=(zID _ r).trans (if_neg hp)
    rw [e]
    have hb2:=hb2 (zc r)
    have key:=zHc (GT:=GT) hQ (hO1.set lb _) lb ⟨a,[],g,n,zc r⟩ hb2 (r.drop (zc r)) hl4
    clear hQ hZ
    generalize r.drop (zc r) = c4 at *
    generalize zc r = p at *
    refine zK (x1 _) <| za rfl <| za rfl <| zJ (v:=AV.bool g) (zC ⟨a,[],g,0,0⟩).cells hb rfl rfl rfl rfl <| zK (z1 _) <| zJ (v:=zu n) (zC ⟨a,[],g,n,0⟩).cells (zH hb) rfl rfl rfl rfl ?_; refine zA _ (zH (zH hb)) rfl <| za s1 <| zK (x2 _) <| za rfl <| za rfl <| zE ?_; refine zK (z2 _) <| zJ (v:=zu p) (zC ⟨a,[],g,n,p⟩).cells hb1 rfl rfl rfl rfl <| zA (zu p) hb2 rfl <| za s2 <| zA (zu p) hb2 rfl <| zU tF ?_
    refine zA (zu p) hb2 rfl <| zD <| zU tF <| zAo rfl key ?_
    rfl
  ·have e : zI0 ⟨a,[],g,n,0⟩ (c :: r) = zC8 ⟨a,[],g,n,0⟩ (c :: r):=if_neg h46
   have hh : ((c :: r).head? == some (46 : UInt8)) = false:=tN (fun h=>h46 (Option.some.inj h))
   rw [hh] at x2
   rw [e]
   have key:=zHc (GT:=GT) hQ hO1 lb ⟨a,[],g,n,0⟩ hb1 (c :: r) hl3
   clear hQ hZ
   refine zK (x1 _) <| za rfl <| za rfl <| zJ (v:=AV.bool g) (zC ⟨a,[],g,0,0⟩).cells hb rfl rfl rfl rfl <| zK (z1 _) <| zJ (v:=zu n) (zC ⟨a,[],g,n,0⟩).cells (zH hb) rfl rfl rfl rfl ?_; refine zA _ (zH (zH hb)) rfl <| za s1 <| zK (x2 _) <| za rfl <| za rfl <| zD ?_; refine zAo rfl key ?_
   rfl
set_option maxHeartbeats 4000000 in
theorem zMZ (hQ : QuoH C) (hZ : ZerH C) (hX : CpxH C) (s : Bs1) (H : Heap) : EFun C GT zBA [.str s] H (.tup [zC (zAL s).1,.bool (zAL s).2]) H:=by
 have hz : (H ++ [ABlk.box [.str [],.str [],.bool false,.int .i64 0,.int .i64 0]])[H.length]? = some (.box (zC ⟨[],[],false,0,0⟩).cells):=zB
 refine zS ?_
 unfold zAL
 by_cases hl : 40 < s.length
 ·rw [if_pos hl]
  clear hQ hZ hX
  refine zq tT <| zA (zC ⟨[],[],false,0,0⟩) hz rfl <| zJ (v:=zC { ahead:=[],behind:=[],group:=false,least:=0,point:=0 }) (AV.cells (zC { ahead:=[],behind:=[],group:=false,least:=0,point:=0 })) zB rfl rfl rfl rfl ?_
  exact zQ (o:=0) rfl rfl (zk (zH zB)) rfl rfl rfl rfl (((Old.refl _).push _).set tA _)
 ·rw [if_neg hl]
  have hq:=fun H=>hQ s H tO
  unfold zHb at hq
  cases e : zAG s with
  | none=>
   rw [e] at hq
   clear hQ hZ hX
   have hb1:=zH (x:=ABlk.box (zC ⟨s.drop 1,[],false,0,0⟩).cells) hz
   refine zU tF <| zK (hq _) <| za rfl <| za rfl <| za rfl <| zJ (v:=AV.str (s.drop 1)) (zC ⟨s.drop 1,[],false,0,0⟩).cells hz rfl rfl rfl rfl ?_; refine zE <| zA (zC ⟨s.drop 1,[],false,0,0⟩) hb1 rfl <| zJ (v:=zC { ahead:=List.drop 1 s,behind:=[],group:=false,least:=0,point:=0 }) (AV.cells (zC { ahead:=List.drop 1 s,behind:=[],group:=false,least:=0,point:=0 })) (zH zB) rfl rfl rfl rfl ?_
   exact zQ (o:=0) rfl rfl (zk (zH (zH zB))) rfl rfl rfl rfl ((((Old.refl _).push _).set tA _).set tA _)
  | some p=>
   obtain ⟨a,r⟩:=p
   rw [e] at hq
   have hql:=zDl e
   have hb1:=zH (x:=ABlk.box (zC ⟨a,[],false,0,0⟩).cells) hz
   have key:=zMY (GT:=GT) hQ hZ hX (((Old.refl H).push _).set (Nat.le_refl _) _) (Nat.le_refl _) a hb1 r tO
   clear hQ hZ hX
   dsimp only
   refine zU tF <| zK (hq _) <| za rfl <| za rfl <| za rfl <| zJ (v:=AV.str a) (zC ⟨a,[],false,0,0⟩).cells hz rfl rfl rfl rfl ?_; refine zD <| zAo rfl key ?_
   rfl
theorem zGz (hR : ∀ (s : Bs1) H,C zAU [.str s] H (.tup [zC (zAL s).1,.bool (zAL s).2]) H) (s : Bs1) (H : Heap) : EFun C GT zCt [.str s] H (if (zAL s).2 = true then .nili else zIx 2) H:=by
 have hr:=fun H=>hR s H
 have hz : ∀ H : Heap,(H ++ [ABlk.box [.str [],.str [],.bool false,.int .i64 0,.int .i64 0]])[H.length]? = some (.box [.str [],.str [],.bool false,.int .i64 0,.int .i64 0]):=fun H=>zB
 clear hR
 refine zS ?_
 generalize (zAL s).1 = f at hr
 cases e : (zAL s).2 with
 | true=>
  rw [e] at hr
  rw [if_pos rfl]
  refine zK (hr _) <| za rfl <| za rfl <| zJ (v:=zC f) (zC f).cells zB rfl rfl rfl rfl <| zD ?_
  exact zAS rfl rfl rfl rfl (((Old.refl _).push _).set tA _)
 | false=>
  rw [e] at hr
  rw [if_neg (by decide)]
  refine zK (hr _) <| za rfl <| za rfl <| zJ (v:=zC f) (zC f).cells zB rfl rfl rfl rfl <| zE ?_
  exact zAS rfl rfl rfl rfl (((Old.refl _).push _).set tA _)
end
theorem zEx (a : Bs1) (g : Bool) (n p : Nat) (s : Bs1) : (match zDV s with
  | none=>none
  | some b=>if n = 0 then none else some ⟨a,b,g,n,p⟩ : Option FormP) = if (zC8 ⟨a,[],g,n,p⟩ s).2 = true then some (zC8 ⟨a,[],g,n,p⟩ s).1 else none:=by
 unfold zDV zC8
 by_cases h : s = [37]
 ·rw [if_pos h,if_pos h]
  by_cases h0 : n = 0
  ·simp [h0]
  ·simp [h0,Nat.pos_of_ne_zero h0]
 ·rw [if_neg h,if_neg h]
  cases e : zAG s with
  | none=>rfl
  | some q=>
   obtain ⟨b,r⟩:=q
   cases r with
   | nil=>
    by_cases h0 : n = 0
    ·simp [h0]
    ·simp [h0,Nat.pos_of_ne_zero h0]
   | cons c r=>simp
theorem zKL (a r : Bs1) : zGx a r = if (zI0 ⟨a,[],zCU r,zc (ze r),0⟩ ((ze r).drop (zc (ze r)))).2 = true then some (zI0 ⟨a,[],zCU r,zc (ze r),0⟩ ((ze r).drop (zc (ze r)))).1 else none:=by
 unfold zGx
 generalize (ze r).drop (zc (ze r)) = c3
 generalize zc (ze r) = n
 generalize zCU r = g
 cases c3 with
 | nil=>exact zEx a g n 0 []
 | cons c t=>
  by_cases h46 : c = 46
  ·by_cases hp : 1 ≤ zc t ∧ zc t ≤ 6
   ·have e1 : zBV (c :: t) = some (zc t,t.drop (zc t)):=(if_pos h46).trans (if_pos hp)
    have e2 : zI0 ⟨a,[],g,n,0⟩ (c :: t) = zC8 ⟨a,[],g,n,zc t⟩ (t.drop (zc t)):=(if_pos h46).trans (if_neg tO)
    rw [e1,e2]
    exact zEx a g n (zc t) (t.drop (zc t))
   ·have e1 : zBV (c :: t) = none:=(if_pos h46).trans (if_neg hp)
    have e2 : zI0 ⟨a,[],g,n,0⟩ (c :: t) = (⟨a,[],g,n,zc t⟩,false):=(if_pos h46).trans (if_pos tO)
    rw [e1,e2]; rfl
  ·have e1 : zBV (c :: t) = some (0,c :: t):=if_neg h46
   have e2 : zI0 ⟨a,[],g,n,0⟩ (c :: t) = zC8 ⟨a,[],g,n,0⟩ (c :: t):=if_neg h46
   rw [e1,e2]
   exact zEx a g n 0 (c :: t)
theorem zKM (s : Bs1) : zGy s = if (zAL s).2 = true then some (zAL s).1 else none:=by
 unfold zGy zAL
 by_cases hl : 40 < s.length
 ·rw [if_pos hl,if_pos hl]; rfl
 ·rw [if_neg hl,if_neg hl]
  cases e : zAG s with
  | none=>rfl
  | some p=>exact zKL p.1 p.2
end Go.AM
set_option maxRecDepth 20000
namespace Go.AM
theorem zIE (s : Bs1) (b : Nat) (hb : b ≤ s.length) : zf none (.str s) none (some (.int .i64 (b : Int))) = some (.str (s.take b)):=by
 simp only [zf,zAv,aHi,aLo]
 have h2 : ¬ ((b : Int) < 0):=by omega
 have e1 : (b : Int).toNat = b:=Int.toNat_natCast b
 simp [h2,e1,hb]
theorem zGD (W : Bs1) : ∀ j,(zDY W j).length ≤ 2 * j
 | 0=>Nat.le_refl _
 | j + 1=>by
  have:=zGD W j
  unfold zDY
  by_cases h : j ≠ 0 ∧ j % 3 = 0
  ·rw [if_pos h]; simp only [List.length_cons]; omega
  ·rw [if_neg h]; simp only [List.length_cons]; omega
section
variable {C : CSpec} {GT : Nat → Option AV} {H H1 : Heap} {b : Nat} {f : FormP} (hb : H1[b]? = some (.box (zC f).cells)) (hO : Old H H1) (ha : f.ahead.length ≤ 1000) (hbe : f.behind.length ≤ 1000)
include hb hO ha hbe
theorem zLS (W g p : Bs1) (hW : W.length ≤ 100000) (hgl : g.length ≤ 10) (hpl : p.length ≤ 1000) : EW C GT (zBy.behind 10) (zIu zAV H (.tup [.str ((((g ++ f.ahead) ++ W) ++ (if p = [] then [] else 46 :: p)) ++ f.behind),.nili]) H) [(6,.ref b 0 0 0),(11,.str W),(9,.str g),(12,.str p)] H1:=by
 by_cases hp : p = []
 ·subst hp
  rw [if_pos rfl]
  refine zU (b:=(([] : Bs1) != [])) rfl <| zA (.str f.ahead) hb rfl <| zAe (by first | omega | (simp only [List.length_append,List.length_cons,List.length_nil]; omega)) <| zAe (by first | omega | (simp only [List.length_append,List.length_cons,List.length_nil]; omega)) <| zAe (by first | omega | (simp only [List.length_append,List.length_cons,List.length_nil]; omega)) <| zA (.str f.behind) hb rfl ?_
  refine zAe (by first | omega | (simp only [List.length_append,List.length_cons,List.length_nil]; omega)) ?_
  exact zAS rfl rfl rfl rfl hO
 ·have hn : (p != ([] : Bs1)) = true:=bne_iff_ne.2 hp
  rw [if_neg hp]
  refine zq hn <| zAe (by first | omega | (simp only [List.length_append,List.length_cons,List.length_nil]; omega)) <| zA (.str f.ahead) hb rfl <| zAe (by first | omega | (simp only [List.length_append,List.length_cons,List.length_nil]; omega)) <| zAe (by first | omega | (simp only [List.length_append,List.length_cons,List.length_nil]; omega)) <| zAe (by first | omega | (simp only [List.length_append,List.length_cons,List.length_nil]; omega)) ?_
  refine zA (.str f.behind) hb rfl <| zAe (by first | omega | (simp only [List.length_append,List.length_cons,List.length_nil]; omega)) ?_
  exact zAS rfl rfl rfl rfl hO
set_option maxHeartbeats 4000000 in
set_option maxHeartbeats 4000000 in
theorem zMa (W g p : Bs1) (hl : W.length ≤ 1000) (hgl : g.length ≤ 10) (hpl : p.length ≤ 1000) : EW C GT (zBy.behind 9) (zIu zAV H (.tup [.str ((((g ++ f.ahead) ++ (if f.group = true then zDY W W.length else W)) ++ (if p = [] then [] else 46 :: p)) ++ f.behind),.nili]) H) [(11,.str W),(6,.ref b 0 0 0),(9,.str g),(12,.str p)] H1:=by
 have key:=fun W hW=>zLS (C:=C) (GT:=GT) hb hO ha hbe W g p hW hgl hpl
 by_cases hg : f.group = true
 ·rw [if_pos hg]
  have hgr:=zGD W W.length
  have key:=key (zDY W W.length) tO
  have w3 : IntKind.i64.wrap ((W.length : Int) - 3) = (W.length : Int) - 3:=by rw [IntKind.wrap_i64]; omega
  refine zA (.bool f.group) hb rfl <| zq hg <| zC3 w3 ?_; refine zE6 (fun z : Nat × Int × Bs1=>[(13,.int .i64 z.2.1),(11,.str z.2.2),(6,.ref b 0 0 0),(9,.str g),(12,.str p)]) (fun z H'=>H' = H1 ∧ z.2.1 = (W.length : Int) - 3 * ((z.1 : Int) + 1) ∧ z.2.2 = zKp W z.1 ∧ (z.1 ≠ 0 → 3 * z.1 < W.length)) (fun z=>W.length - 3 * z.1) (0,(W.length : Int) - 3,W) rfl ⟨rfl,by simp only; omega,by simp [zKp],fun h=>absurd rfl h⟩ (fun z H2 hi=>?_)
  obtain ⟨t,i,X⟩:=z
  obtain ⟨rfl,h1,h2,h3⟩:=hi
  simp only at h1 h2 h3 ⊢
  have hXl : X.length ≤ 2001:=by
   rw [h2]; unfold zKp
   have:=zGD W (3 * t)
   rw [List.length_append,List.length_take]
   split <;> simp only [List.length_cons,List.length_nil] <;> omega
  by_cases hlt : 3 * (t + 1) < W.length
  ·obtain ⟨n,hn⟩ : ∃ n : Nat,n = W.length - 3 * (t + 1):=⟨_,rfl⟩
   have hin : i = (n : Int):=by omega
   subst hin
   have hnx : n ≤ X.length:=by
    rw [h2]; unfold zKp
    rw [List.length_append,List.length_take]; omega
   have hst:=zLO hn hlt
   rw [← h2] at hst
   have w4 : IntKind.i64.wrap ((n : Int) - 3) = (n : Int) - 3:=by rw [IntKind.wrap_i64]; omega
   have htl : (X.take n).length = n:=by rw [List.length_take]; omega
   have hdl : (X.drop n).length ≤ 2001:=by rw [List.length_drop]; omega
   refine zq tT <| za (zIE X n hnx) <| zAe (by first | omega | (simp only [List.length_append,List.length_cons,List.length_nil]; omega)) <| za (zCb X n hnx) <| zAe (by first | omega | (simp only [List.length_append,List.length_cons,List.length_nil]; omega)) <| zC3 w4 ?_
   exact zEq (t + 1,(n : Int) - 3,(X.take n ++ [44]) ++ X.drop n) rfl ⟨rfl,by simp only; omega,by simp only; rw [← hst,List.append_assoc]; rfl,fun _=>by simp only; omega⟩ (by simp only; omega)
  ·have he:=zMX hlt h3
   rw [← h2] at he
   rw [← he] at key ⊢
   refine zU tF ?_
   exact zAo rfl key rfl
 ·rw [if_neg hg]
  have key:=key W tO
  have hg:=Bool.eq_false_iff.2 hg
  refine zA (.bool f.group) hb rfl <| zU hg <| zAo rfl key ?_
  rfl
end
end Go.AM
set_option maxRecDepth 20000
namespace Go.AM
def zBW (k n : Int) (t : Bs1) : AV:=.agg [.int .i64 k,.int .i64 n,.str t]
section
variable {C : CSpec} {GT : Nat → Option AV} (hR : ∀ (s : Bs1) H,C zAU [.str s] H (.tup [zC (zAL s).1,.bool (zAL s).2]) H)
include hR
set_option maxHeartbeats 4000000 in
theorem zMb (k n : Int) (t s : Bs1) (h : (zAL s).2 = false) (H : Heap) : EFun C GT zAV [zBW k n t,.str s] H (.tup [.str [],zIx 2]) H:=by
 have hr:=fun H=>hR s H
 rw [h] at hr
 generalize (zAL s).1 = f at hr
 clear hR
 refine zS ?_; refine zJy (x:=zBW k n t) rfl <| zK (hr _) <| za rfl <| za rfl <| zJ (v:=zC f) (zC f).cells zB rfl rfl rfl rfl <| zE ?_
 exact zAS rfl rfl rfl rfl ((((Old.refl _).push _).push _).set tA _)
set_option maxHeartbeats 4000000 in
theorem zI1 (k n : Int) (t s u : Bs1) (h : (zAL s).2 = true) (hk : k ≠ 1) (hV : ∀ H,C zBU [zBW k n t] H (.str u) H) (H : Heap) : EFun C GT zAV [zBW k n t,.str s] H (.tup [.str u,.nili]) H:=by
 have hr:=fun H=>hR s H
 rw [h] at hr
 generalize (zAL s).1 = f at hr
 have hkb : (k != 1) = true:=bne_iff_ne.2 hk
 clear hR
 refine zS ?_; refine zJy (x:=zBW k n t) rfl <| zK (hr _) <| za rfl <| za rfl <| zJ (v:=zC f) (zC f).cells zB rfl rfl rfl rfl <| zD ?_; refine zA (.int .i64 k) (zI tA (zT zB)) rfl <| zq hkb <| zA (zBW k n t) (zI tA (zT zB)) rfl <| zK (hV _) ?_
 exact zAS rfl rfl rfl rfl ((((Old.refl _).push _).push _).set tA _)
set_option maxHeartbeats 8000000 in
theorem zKN (n : Int) (t s : Bs1) (h : (zAL s).2 = true) (hn : -9223372036854775808 ≤ n ∧ n ≤ 9223372036854775807) (hf1 : 1 ≤ (zAL s).1.least ∧ (zAL s).1.least ≤ 40 ∧ (zAL s).1.point ≤ 6 ∧ (zAL s).1.ahead.length ≤ 1000 ∧ (zAL s).1.behind.length ≤ 1000) (hd : (zBe n.natAbs).length ≤ 100)
  (hF : ∀ m : Nat,m < 18446744073709551616 → ∀ H,C z7 [.int .u64 m,.int .i64 10] H (.str (zBe m)) H) (hRp : ∀ c : Nat,c ≤ 1000 → ∀ H,C zAc [.str [48],zu c] H (.str (List.replicate c 48)) H) (H : Heap) : EFun C GT zAV [zBW 1 n t,.str s] H (.tup [.str (zGC (zAL s).1 n),.nili]) H:=by
 have hr:=fun H=>hR s H
 rw [h] at hr
 generalize (zAL s).1 = f at hr hf1 ⊢
 obtain ⟨f1,f2,f3,f4,f5⟩:=hf1
 have hff:=fun H=>hF n.natAbs tO H
 have hrp:=fun H=>hRp (f.least + f.point - (zBe n.natAbs).length) tO H
 have hbx : ∀ H1 : Heap,True:=fun _=>trivial
 obtain ⟨D,hD⟩ : ∃ D,zKB (f.least + f.point) (zBe n.natAbs) = D:=⟨_,rfl⟩
 have hDl : D.length = max (f.least + f.point) (zBe n.natAbs).length:=by rw [← hD]; exact zDW _ _
 have hDe : List.replicate (f.least + f.point - (zBe n.natAbs).length) 48 ++ zBe n.natAbs = D:=hD
 have es : ∀ g : Bs1,(if n < 0 then [45] else []) = g → zGC f n = ((((g ++ f.ahead) ++ (if f.group = true then zDY (zAK f D) (zAK f D).length else zAK f D)) ++ (if D.drop (D.length - f.point) = [] then [] else 46 :: D.drop (D.length - f.point))) ++ f.behind):=fun g hg=>by
  have ep : (D.drop (D.length - f.point) = []) ↔ f.point = 0:=by
   rw [← List.length_eq_zero_iff,List.length_drop]; omega
  unfold zGC
  rw [hD,hg]
  simp only [List.append_assoc,ep]
 have hWl : (zAK f D).length ≤ 1000:=by unfold zAK; rw [List.length_take]; omega
 have hPl : (D.drop (D.length - f.point)).length ≤ 1000:=by rw [List.length_drop]; omega
 have u1:=zIE D (D.length - f.point) tO
 have u2:=zCb D (D.length - f.point) tO
 have hb0 : ∀ H1 : Heap,((H1 ++ [ABlk.box [.str [],.str [],.bool false,.int .i64 0,.int .i64 0]]).set H1.length (.box (zC f).cells))[H1.length]? = some (.box (zC f).cells):=fun H1=>zH zB
 have key:=fun g hgl=>zMa (C:=C) (GT:=GT) (H:=H) (hb0 (H ++ [ABlk.box (zBW 1 n t).cells])) ((((Old.refl H).push _).push _).set (by simp) _) f4 f5 (zAK f D) g (D.drop (D.length - f.point)) hWl hgl hPl
 have w2 : IntKind.i64.wrap (((f.least + f.point : Nat) : Int) - ((zBe n.natAbs).length : Int)) = ((f.least + f.point : Nat) : Int) - ((zBe n.natAbs).length : Int):=by rw [IntKind.wrap_i64]; omega
 have w3 : (if ((f.least + f.point : Nat) : Int) - ((zBe n.natAbs).length : Int) > 0 then ((f.least + f.point : Nat) : Int) - ((zBe n.natAbs).length : Int) else 0) = ((f.least + f.point - (zBe n.natAbs).length : Nat) : Int):=by split <;> omega
 have hr0 : (List.replicate (f.least + f.point - (zBe n.natAbs).length) 48 : Bs1).length ≤ 1000:=by rw [List.length_replicate]; omega
 have w4 : IntKind.i64.wrap (((List.replicate (f.least + f.point - (zBe n.natAbs).length) 48 ++ zBe n.natAbs : Bs1).length : Int) - (f.point : Int)) = ((D.length - f.point : Nat) : Int):=by rw [hDe,IntKind.wrap_i64]; omega
 have v1 : zf none (.str (List.replicate (f.least + f.point - (zBe n.natAbs).length) 48 ++ zBe n.natAbs : Bs1)) none (some (.int .i64 ((D.length - f.point : Nat) : Int))) = some (.str (zAK f D)):=by rw [hDe]; exact u1
 have v2 : zf none (.str (List.replicate (f.least + f.point - (zBe n.natAbs).length) 48 ++ zBe n.natAbs : Bs1)) (some (.int .i64 ((D.length - f.point : Nat) : Int))) none = some (.str (D.drop (D.length - f.point))):=by rw [hDe]; exact u2
 clear hR hF hRp
 refine zS ?_; refine zJy (x:=zBW 1 n t) rfl ?_
 by_cases hneg : n < 0
 ·have key:=key [45] (by simp)
  rw [es [45] (if_pos hneg)]
  have wu : IntKind.u64.wrap n = n + 18446744073709551616:=by rw [IntKind.wrap_u64]; omega
  have wv : IntKind.u64.wrap (0 - (n + 18446744073709551616)) = (n.natAbs : Int):=by rw [IntKind.wrap_u64]; omega
  have hff2 : ∀ H,C z7 [.int .u64 (IntKind.u64.wrap (0 - (n + 18446744073709551616))),.int .i64 10] H (.str (zBe n.natAbs)) H:=by rw [wv]; exact hff
  refine zK (hr _) <| za rfl <| za rfl <| zJ (v:=zC f) (zC f).cells zB rfl rfl rfl rfl <| zD <| zA (.int .i64 1) (zI tA (zT zB)) rfl ?_; refine zD <| zA (.int .i64 n) (zI tA (zT zB)) rfl <| zC3 wu <| zA (.int .i64 n) (zI tA (zT zB)) rfl <| zq tT <| za rfl ?_; refine zK (hff2 _) <| zA (zu f.least) (hb0 _) rfl <| zA (zu f.point) (hb0 _) rfl <| zAf (r:=f.least + f.point) tO tO <| zC3 w2 <| zC3 w3 ?_
  refine zK (hrp _) <| zAe (by first | omega | (simp only [List.length_append,List.length_replicate]; omega)) <| zA (zu f.point) (hb0 _) rfl <| zC3 w4 <| za v1 <| zA (zu f.point) (hb0 _) rfl ?_; refine zC3 w4 <| za v2 ?_
  exact zAo rfl key rfl
 ·have key:=key [] (by simp)
  rw [es [] (if_neg hneg)]
  have wu : IntKind.u64.wrap n = (n.natAbs : Int):=by rw [IntKind.wrap_u64]; omega
  refine zK (hr _) <| za rfl <| za rfl <| zJ (v:=zC f) (zC f).cells zB rfl rfl rfl rfl <| zD <| zA (.int .i64 1) (zI tA (zT zB)) rfl ?_; refine zD <| zA (.int .i64 n) (zI tA (zT zB)) rfl <| zC3 wu <| zA (.int .i64 n) (zI tA (zT zB)) rfl <| zU tF <| zK (hff _) ?_; refine zA (zu f.least) (hb0 _) rfl <| zA (zu f.point) (hb0 _) rfl <| zAf (r:=f.least + f.point) tO tO <| zC3 w2 <| zC3 w3 <| zK (hrp _) ?_
  refine zAe (by first | omega | (simp only [List.length_append,List.length_replicate]; omega)) <| zA (zu f.point) (hb0 _) rfl <| zC3 w4 <| za v1 <| zA (zu f.point) (hb0 _) rfl <| zC3 w4 ?_; refine za v2 ?_
  exact zAo rfl key rfl
end
end Go.AM
