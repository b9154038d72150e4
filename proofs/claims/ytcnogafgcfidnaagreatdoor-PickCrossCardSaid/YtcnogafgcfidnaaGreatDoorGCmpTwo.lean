/- Several texts of mine in one (Cmp, Hs0, Hcp, Num, Two). Own work. -/
import Derived.Test.YtcnogafgcfidnaaGreatDoorGValStb
import Derived.Test.YtcnogafgcfidnaaGreatDoorGRtwErr
import Derived.Test.YtcnogafgcfidnaaGreatDoorGAm22Am30
set_option linter.all false
namespace Go.AM
structure CmpFn {α : Type} (c : α → α → Int) : Prop where
 anti : ∀ a b,c b a = - c a b
 trans : ∀ a b d,c a b ≤ 0 → c b d ≤ 0 → c a d ≤ 0
theorem zBt {α β : Type} {c : α → α → Int} (h : CmpFn c) (f : β → α) : CmpFn fun a b=>c (f a) (f b):=⟨fun a b=>h.anti _ _,fun a b d=>h.trans _ _ _⟩
theorem zNS {α : Type} {c : α → α → Int} (h : CmpFn c) : CmpFn fun a b=>- c a b:=
 ⟨fun a b=>by rw [h.anti],fun a b d h1 h2=>by
  have e1:=h.anti a b
  have e2:=h.anti b d
  have e3:=h.anti a d
  have:=h.trans d b a tO tO
  omega⟩
theorem zH0 {α : Type} : CmpFn fun (a b : α)=>(0 : Int):=⟨fun _ _=>rfl,fun _ _ _ _ _=>Int.le_refl _⟩
theorem zEr {α : Type} {c d : α → α → Int} (hc : CmpFn c) (hd : CmpFn d) : CmpFn fun a b=>if (c a b != 0) = true then c a b else d a b:=by
 refine ⟨fun a b=>?_,fun x y z h1 h2=>?_⟩
 ·have e:=hc.anti a b
  have e':=hd.anti a b
  simp only [bne_iff_ne,ne_eq]
  split <;> split <;> omega
 ·simp only [bne_iff_ne,ne_eq] at h1 h2 ⊢
  have a1:=hc.anti x y
  have a2:=hc.anti y z
  have a3:=hc.anti x z
  have t1:=hc.trans x y z
  have t2:=hc.trans z x y
  have t3:=hc.trans y z x
  have t4:=hd.trans x y z
  have t5:=hc.trans z y x
  have t6:=hc.trans x z y
  have t7:=hc.trans y x z
  split at h1 <;> split at h2 <;> split <;> omega
theorem zNT : CmpFn zK7:=by
 refine ⟨fun a b=>?_,fun a b d h1 h2=>?_⟩
 ·unfold zK7; repeat' split
  all_goals omega
 ·unfold zK7 at *
  repeat' split at h1
  all_goals repeat' split at h2
  all_goals repeat' split
  all_goals omega
theorem zD4 : ∀ s t : List UInt8,Op.bytesLess s t = true → Op.bytesLess t s = false
 | _,[],h=>by simp [Op.bytesLess] at h
 | [],b :: t,_=>rfl
 | a :: s,b :: t,h=>by
  simp only [Op.bytesLess,Bool.or_eq_true,Bool.and_eq_true,decide_eq_true_eq,beq_iff_eq] at h
  simp only [Op.bytesLess,Bool.or_eq_false_iff,Bool.and_eq_false_imp,decide_eq_false_iff_not,beq_iff_eq]
  rcases h with h | ⟨rfl,h⟩
  ·refine ⟨fun h'=>?_,fun e=>?_⟩
   ·rw [UInt8.lt_iff_toNat_lt] at h h'; omega
   ·subst e; exact absurd h (UInt8.lt_irrefl _)
  ·exact ⟨UInt8.lt_irrefl _,fun _=>zD4 s t h⟩
theorem zB5 : ∀ s t : List UInt8,s ≠ t → Op.bytesLess s t = false → Op.bytesLess t s = true
 | [],[],h,_=>absurd rfl h
 | [],b :: t,_,h=>by simp [Op.bytesLess] at h
 | a :: s,[],_,_=>rfl
 | a :: s,b :: t,hn,h=>by
  simp only [Op.bytesLess,Bool.or_eq_false_iff,Bool.and_eq_false_imp,decide_eq_false_iff_not,beq_iff_eq] at h
  simp only [Op.bytesLess,Bool.or_eq_true,Bool.and_eq_true,decide_eq_true_eq,beq_iff_eq]
  by_cases e : a = b
  ·subst e
   exact .inr ⟨rfl,zB5 s t (fun e=>hn (by rw [e])) (h.2 rfl)⟩
  ·refine .inl ?_
   have h1:=h.1
   rw [UInt8.lt_iff_toNat_lt] at h1 ⊢
   have : a.toNat ≠ b.toNat:=fun e'=>e (UInt8.toNat_inj.1 e')
   omega
theorem zDY : ∀ s t u : List UInt8,Op.bytesLess s t = true → Op.bytesLess t u = true → Op.bytesLess s u = true
 | _,[],_,h,_=>by simp [Op.bytesLess] at h
 | _,_ :: _,[],_,h=>by simp [Op.bytesLess] at h
 | [],_ :: _,_ :: _,_,_=>rfl
 | a :: s,b :: t,c :: u,h,k=>by
  simp only [Op.bytesLess,Bool.or_eq_true,Bool.and_eq_true,decide_eq_true_eq,beq_iff_eq] at h k ⊢
  rcases h with h | ⟨rfl,h⟩ <;> rcases k with k | ⟨rfl,k⟩
  ·refine .inl ?_
   rw [UInt8.lt_iff_toNat_lt] at h k ⊢; omega
  ·exact .inl h
  ·exact .inl k
  ·exact .inr ⟨rfl,zDY s t u h k⟩
theorem zGB (a b : List UInt8) : zMZ a b = if Op.bytesLess a b = true then -1 else if a = b then 0 else 1:=by
 unfold zMZ
 split
 ·rfl
 ·rename_i h
  have : Op.bytesLess a b = false:=by simpa using h
  rw [this,Bool.false_or]
  by_cases e : a = b
  ·rw [if_pos e,if_neg (by simp [e])]
  ·rw [if_neg e,if_pos (by simp [e])]
theorem zP2 : CmpFn zMZ:=by
 have le : ∀ a b,zMZ a b ≤ 0 ↔ (Op.bytesLess a b = true ∨ a = b):=fun a b=>by
  rw [zGB]
  split
  ·rename_i h; exact ⟨fun _=>.inl h,fun _=>by omega⟩
  ·rename_i h
   split
   ·rename_i e; exact ⟨fun _=>.inr e,fun _=>by omega⟩
   ·rename_i e; exact ⟨fun x=>by omega,fun x=>by rcases x with x | x <;> contradiction⟩
 refine ⟨fun a b=>?_,fun a b d h1 h2=>?_⟩
 ·rw [zGB,zGB]
  by_cases e : a = b
  ·subst e; rw [if_neg (by rw [zBV]; simp),if_pos rfl]; rfl
  ·rw [if_neg (fun x=>e x.symm) (c:=b = a),if_neg e]
   cases h : Op.bytesLess a b with
   | true=>rw [zD4 a b h]; rfl
   | false=>rw [zB5 a b e h]; rfl
 ·rw [le] at h1 h2 ⊢
  rcases h1 with h1 | rfl
  ·rcases h2 with h2 | rfl
   ·exact .inl (zDY _ _ _ h1 h2)
   ·exact .inl h1
  ·exact h2
theorem zAi : CmpFn zEq:=
 zEr (zBt zNT Val.kind) (zEr (zBt zNT Val.num) (zEr (zBt zP2 Val.text) zH0))
theorem zP3 (k : Key) : CmpFn fun a b : Row=>zId a b k:=by
 cases hd : k.down with
 | true=>
  have e : (fun a b : Row=>zId a b k) = fun a b=>- zEq (a.getD k.col.toNat default) (b.getD k.col.toNat default):=by
   funext a b; unfold zId; rw [if_pos hd]
  rw [e]; exact zNS (zBt zAi _)
 | false=>
  have e : (fun a b : Row=>zId a b k) = fun a b=>zEq (a.getD k.col.toNat default) (b.getD k.col.toNat default):=by
   funext a b; unfold zId; rw [if_neg (by rw [hd]; simp)]
  rw [e]; exact zBt zAi _
theorem zNU : ∀ ks : List Key,CmpFn fun a b : Row=>zHK a b ks
 | []=>zH0
 | k :: ks=>zEr (zP3 k) (zNU ks)
theorem zP4 {c : Nat → Nat → Int} (h : CmpFn c) : LtOK fun x y=>decide (c x y < 0):=by
 refine ⟨fun x y h1=>?_,fun x y z h1 h2=>?_⟩
 ·simp only [decide_eq_true_eq,decide_eq_false_iff_not] at *
  have:=h.anti x y
  omega
 ·simp only [decide_eq_false_iff_not] at *
  have e1:=h.anti x y
  have e2:=h.anti y z
  have e3:=h.anti x z
  have:=h.trans x y z tO tO
  omega
def zP5 (t : List Row) (ks : List Key) (x y : Nat) : Int:=zHK (t.getD x []) (t.getD y []) ks
theorem zP6 (t : List Row) (ks : List Key) : CmpFn (zP5 t ks):=zBt (zNU ks) _
end Go.AM
namespace Go.AM
def leW (p q : Val) : Bool:=decide (zEq p q ≤ 0)
def zAq (l : List Val) : List Val:=l.mergeSort leW
def zE : List Val → List Val
 | []=>[]
 | [x]=>[x]
 | x :: y :: r=>if x = y then zE (y :: r) else x :: zE (y :: r)
theorem zNV (p q r : Val) (h : leW p q = true) (k : leW q r = true) : leW p r = true:=by
 unfold leW at *
 simp only [decide_eq_true_eq] at *
 exact zAi.trans p q r h k
theorem zNW (p q : Val) : (leW p q || leW q p) = true:=by
 unfold leW
 have:=zAi.anti p q
 simp only [Bool.or_eq_true,decide_eq_true_eq]
 omega
theorem zOo {p q : Val} (h : leW p q = true) (k : leW q p = true) : p = q:=by
 unfold leW at *
 simp only [decide_eq_true_eq] at *
 have:=zAi.anti p q
 exact zNN.1 tO
theorem zBO (l : List Val) : (zAq l).Perm l:=List.mergeSort_perm l leW
theorem zNX (l : List Val) : (zAq l).Pairwise fun a b=>leW a b = true:=List.pairwise_mergeSort zNV zNW l
theorem zLB {a l : List Val} (hp : a.Perm l) (hs : a.Pairwise fun p q=>leW p q = true) : a = zAq l:=
 List.Perm.eq_of_pairwise (fun p q _ _ h k=>zOo h k) hs (zNX l) (hp.trans (zBO l).symm)
theorem zBc : ∀ (l : List Val) (p : Val),p ∈ zE l ↔ p ∈ l
 | [],p=>by simp [zE]
 | [x],p=>by simp [zE]
 | x :: y :: r,p=>by
  unfold zE
  by_cases e : x = y
  ·rw [if_pos e,zBc (y :: r) p,e]; simp
  ·rw [if_neg e,List.mem_cons,zBc (y :: r) p,← List.mem_cons]
theorem zCy : ∀ (l : List Val) (x y : Val),zE (l ++ [x,y]) = if x = y then zE (l ++ [x]) else zE (l ++ [x]) ++ [y]
 | [],x,y=>by
  show zE [x,y] = _
  unfold zE
  by_cases e : x = y
  ·rw [if_pos e,if_pos e]; simp [zE,e]
  ·rw [if_neg e,if_neg e]; simp [zE]
 | [z],x,y=>by
  show zE [z,x,y] = if x = y then zE [z,x] else zE [z,x] ++ [y]
  have e3 : ∀ p q : Val,zE [p,q] = if p = q then [q] else [p,q]:=fun p q=>by simp [zE]
  rw [show zE [z,x,y] = if z = x then zE [x,y] else z :: zE [x,y] from zE.eq_3 z x [y],e3,e3]
  by_cases e : x = y <;> by_cases e2 : z = x <;> simp [e,e2]
 | z :: w :: l,x,y=>by
  have ih:=zCy (w :: l) x y
  show zE (z :: w :: (l ++ [x,y])) = if x = y then zE (z :: w :: (l ++ [x])) else zE (z :: w :: (l ++ [x])) ++ [y]
  rw [zE.eq_3,zE.eq_3]
  have ih : zE (w :: (l ++ [x,y])) = if x = y then zE (w :: (l ++ [x])) else zE (w :: (l ++ [x])) ++ [y]:=ih
  rw [ih]
  by_cases e : x = y <;> by_cases e2 : z = w <;> simp [e,e2]
theorem zFf (xs : List Val) : (zE xs).length ≤ xs.length:=by
 induction xs using zE.induct with
 | case1=>simp [zE]
 | case2 x=>simp [zE]
 | case3 x r ih=>rw [zE,if_pos rfl]; simp only [List.length_cons] at *; omega
 | case4 x y r h ih=>rw [zE,if_neg h]; simp only [List.length_cons] at *; omega
theorem zEs : ∀ (l : List Val) (x : Val),(zE (l ++ [x])).getLast? = some x
 | [],x=>rfl
 | [z],x=>by
  show (zE [z,x]).getLast? = some x
  unfold zE
  by_cases e : z = x
  ·rw [if_pos e]; rfl
  ·rw [if_neg e]; rfl
 | z :: w :: l,x=>by
  have ih:=zEs (w :: l) x
  show (zE (z :: w :: (l ++ [x]))).getLast? = some x
  rw [zE.eq_3]
  have ih : (zE (w :: (l ++ [x]))).getLast? = some x:=ih
  by_cases e : z = w
  ·rw [if_pos e]; exact ih
  ·rw [if_neg e,List.getLast?_cons,ih]; rfl
end Go.AM
set_option maxRecDepth 20000
namespace Go.AM
theorem zP7 {H : Heap} {b : Nat} (hb : b < H.length) (k : Nat) (ys : List AV) : zJ1 H (H.set b (.row k ys)) ∧ H.set b (.row k ys) = (H.set b (.row k ys)).take H.length:=by
 refine ⟨fun c hc=>?_, ?_⟩
 ·by_cases e : b = c
  ·subst e; exact .inr ⟨_,List.getElem?_set_self hc,rfl⟩
  ·exact .inl (List.getElem?_set_ne e)
 ·exact (List.take_of_length_le (by rw [List.length_set]; exact Nat.le_refl _)).symm
theorem zOp {b i : Nat} (j : Nat) (p q : Val) {H : Heap} {xs : List AV} {K : AV → Heap → Prop} (hi : i = j) (h : H[b]? = some (.row 3 xs)) (hx : xs[j]? = some (zB q)) (k : K .undef (H.set b (.row 3 (xs.set j (zB p))))) : actP (.store 3) [.ref b 3 i 0,zB p] H K:=by
 subst hi
 refine zLo ?_ k
 have e : zCl 0 (zB p) H = some (zB p,H):=rfl
 simp only [astep]
 rw [if_pos ⟨rfl,rfl⟩,h]
 simp only [e,h,hx]
 rw [if_pos ⟨trivial,by omega,by omega,rfl⟩]
 rfl
theorem zNY {b k n : Nat} (h : k < n) : zAN (some 3) (.sl (some true) b 3 0 n) (some (zBf k)) none = some (.sl (some true) b 3 k (n - k)):=by
 have hb : zAe n (some (zBf k)) none = some (k,n):=by
  have : k ≤ n:=by omega
  simp [zAe,aHi,aLo,zBf,this]
 simp only [zAN,if_true]
 rw [hb]
 simp [zPU,h]
theorem sl_to {b k n : Nat} (h0 : 0 < k) (h : k ≤ n) : zAN (some 3) (.sl (some true) b 3 0 n) none (some (zBf k)) = some (.sl (some true) b 3 0 k):=by
 have hb : zAe n none (some (zBf k)) = some (0,k):=by simp [zAe,aHi,aLo,zBf,h]
 simp only [zAN,if_true]
 rw [hb]
 simp [zPU,h0]
theorem zNZ {p q : Val} (h : q ≠ p) : (p.kind == q.kind && (p.num == q.num && (p.text == q.text && true))) = false:=by
 rw [Bool.and_true]
 cases hx : (p.kind == q.kind)
 ·rfl
 ·cases hy : (p.num == q.num)
  ·rfl
  ·cases hz : (p.text == q.text)
   ·rfl
   ·refine absurd ?_ h
    cases p; cases q
    simp only [beq_iff_eq] at hx hy hz
    subst hx hy hz
    rfl
def zLC (xs : List Val) : List Val:=zE xs ++ List.replicate (xs.length - (zE xs).length) ⟨0,0,[]⟩
theorem zOq {xs : List Val} {k : Nat} {p q : Val} (h1 : 1 ≤ k) (hp : xs[k]? = some p) (hq : xs[k - 1]? = some q) : xs.take (k + 1) = xs.take (k - 1) ++ [q,p] ∧ xs.take k = xs.take (k - 1) ++ [q]:=by
 have e1 : xs.take k = xs.take (k - 1) ++ [q]:=by
  conv=>lhs; rw [show k = k - 1 + 1 by omega]
  rw [List.take_succ,hq]; rfl
 refine ⟨?_,e1⟩
 rw [List.take_succ,hp,e1]; simp
theorem zFg {xs : List Val} {k : Nat} {p q : Val} (h1 : 1 ≤ k) (hp : xs[k]? = some p) (hq : xs[k - 1]? = some q) : zE (xs.take (k + 1)) = if q = p then zE (xs.take k) else zE (xs.take k) ++ [p]:=by
 obtain ⟨e1,e2⟩:=zOq h1 hp hq
 rw [e1,zCy,e2]
section
variable {C : CSpec} {GT : Nat → Option AV}
set_option maxHeartbeats 4000000 in
theorem zL5 (b : Nat) (xs : List Val) (H : Heap) (hb : H[b]? = some (.row 3 (xs.map zB))) (hne : xs ≠ []) (hl : xs.length ≤ 1000) :
  EFun C GT zW [.sl (some true) b 3 0 xs.length] H (.sl (some true) b 3 0 (zE xs).length) (H.set b (.row 3 ((zLC xs).map zB))):=by
 obtain ⟨n,hn⟩ : ∃ n,xs.length = n:=⟨_,rfl⟩
 have hn0 : 0 < n:=by rw [← hn]; exact List.length_pos_iff.2 hne
 have hbl:=(zg hb).1
 have hsame : zE xs = xs → AV.sl (some true) b 3 0 (zE xs).length = .sl (some true) b 3 0 n ∧ H.set b (.row 3 ((zLC xs).map zB)) = H:=fun e=>by
  refine ⟨by rw [e,hn], ?_⟩
  unfold zLC
  rw [e,Nat.sub_self,List.replicate_zero,List.append_nil]
  exact zK6 hb
 have hO0 : zJ1 H H ∧ H = H.take H.length:=⟨fun c _=>.inl rfl,(List.take_length).symm⟩
 rw [hn]
 refine zR ?_
 by_cases h2 : n < 2
 ·have e : zE xs = xs:=by
   match xs,hn with
   | [],hn=>simp at hn; omega
   | [x],_=>rfl
   | x :: y :: r,hn=>simp at hn; omega
  obtain ⟨e1,e2⟩:=hsame e
  rw [e1,e2]
  refine zCD ?_; refine zGz (tT) ?_
  exact zP0 rfl rfl (zGh hbl) (by simp [AV.bel,hbl]) hO0.1 hO0.2
 ·refine zCD ?_; refine zGg (tF) ?_; refine zAV (fun k : Nat=>[(3,zBf k),(0,.sl (some true) b 3 0 n)]) (fun k H'=>H' = H ∧ 1 ≤ k ∧ k ≤ n ∧ zE (xs.take k) = xs.take k) (fun k=>n - k) 1 rfl ⟨rfl,by omega,by omega,by
   obtain ⟨x,r,rfl⟩:=List.exists_cons_of_ne_nil hne
   rfl⟩ (fun k H1 hi=>?_)
  obtain ⟨hH,hk1,hkn,hck⟩:=hi
  subst hH
  dsimp only
  by_cases hlt : k < n
  ·obtain ⟨p,hp⟩ : ∃ p,xs[k]? = some p:=⟨_,List.getElem?_eq_getElem tO⟩
   obtain ⟨q,hq⟩ : ∃ q,xs[k - 1]? = some q:=⟨_,List.getElem?_eq_getElem tO⟩
   have hpm : (xs.map zB)[k]? = some (zB p):=by rw [List.getElem?_map,hp]; rfl
   have hqm : (xs.map zB)[k - 1]? = some (zB q):=by rw [List.getElem?_map,hq]; rfl
   have hst:=zFg hk1 hp hq
   have hS2 : zAN (some 3) (.sl (some true) b 3 0 n) (some (zBf k)) none = some (.sl (some true) b 3 k (n - k)):=zNY hlt
   by_cases he : q = p
   ·rw [if_pos he] at hst
    have ex : zOI false (p.kind == q.kind && (p.num == q.num && (p.text == q.text && true))) = true:=by subst he; simp [zOI]
    refine zCD ?_; refine zGz tT ?_; refine sAt ⟨by omega,by omega⟩ ?_; refine zAA k (zB p) (zB p) tO hb hpm rfl ?_; refine zY (r:=k - 1) tO tO ?_; refine sAt ⟨by omega,by omega⟩ ?_; refine zAA (k - 1) (zB q) (zB q) tO hb hqm rfl ?_; refine zA9 rfl ?_; refine zGz ex ?_; refine zA9 hS2 ?_; refine zAV (fun x : Nat × Nat × List Val=>[(5,zBf x.1),(3,zBf x.2.1),(4,.sl (some true) b 3 k (n - k)),(0,.sl (some true) b 3 0 n)]) (fun x H'=>H' = H1.set b (.row 3 (x.2.2.map zB)) ∧ x.2.2.length = n ∧ 1 ≤ x.1 ∧ k + x.1 ≤ n ∧ x.2.2.take x.2.1 = zE (xs.take (k + x.1)) ∧ x.2.1 = (zE (xs.take (k + x.1))).length ∧ x.2.1 + 1 ≤ k + x.1 ∧ ∀ j,k + x.1 ≤ j + 1 → x.2.2[j]? = xs[j]?) (fun x=>n - x.1) (1,k,xs) rfl ⟨(zK6 hb).symm,hn,by simp,by simp only; omega,by simp only; rw [hst,hck],by simp only; rw [hst,hck,List.length_take]; omega,by simp only; omega,fun _ _=>rfl⟩ (fun x H2 hi2=>?_)
    obtain ⟨k2,k',ys⟩:=x
    dsimp only at hi2 ⊢
    obtain ⟨hH2,hy,hk2,hkk,ht,hk',hkb,hsame2⟩:=hi2
    have hb2 : H2[b]? = some (.row 3 (ys.map zB)):=by rw [hH2]; exact List.getElem?_set_self hbl
    have hk'0 : 0 < k':=by
     rw [hk']
     refine List.length_pos_iff.2 fun e=>?_
     have:=(zBc (xs.take (k + k2)) (xs[0]'tO)).2 (by
      rw [List.mem_iff_getElem]
      exact ⟨0,by rw [List.length_take]; omega,by rw [List.getElem_take]⟩)
     rw [e] at this; simp at this
    by_cases hlt2 : k + k2 < n
    ·obtain ⟨p2,hp2⟩ : ∃ p,xs[k + k2]? = some p:=⟨_,List.getElem?_eq_getElem tO⟩
     obtain ⟨q2,hq2⟩ : ∃ q,xs[k + k2 - 1]? = some q:=⟨_,List.getElem?_eq_getElem tO⟩
     obtain ⟨r2,hr2⟩ : ∃ q,ys[k']? = some q:=⟨_,List.getElem?_eq_getElem tO⟩
     have hpm2 : (ys.map zB)[k + k2]? = some (zB p2):=by rw [List.getElem?_map,hsame2 _ tO,hp2]; rfl
     have hqm2 : (ys.map zB)[k + k2 - 1]? = some (zB q2):=by rw [List.getElem?_map,hsame2 _ tO,hq2]; rfl
     have hrm2 : (ys.map zB)[k']? = some (zB r2):=by rw [List.getElem?_map,hr2]; rfl
     have hst2:=zFg (k:=k + k2) tO hp2 hq2
     by_cases he2 : q2 = p2
     ·rw [if_pos he2] at hst2
      have ex2 : zOI true (p2.kind == q2.kind && (p2.num == q2.num && (p2.text == q2.text && true))) = false:=by subst he2; simp [zOI]
      refine zCD ?_; refine zGz tT ?_; refine sAt ⟨by omega,by omega⟩ ?_; refine zAA (k + k2) (zB p2) (zB p2) tO hb2 hpm2 rfl ?_; refine zY (r:=k2 - 1) tO tO ?_; refine sAt ⟨by omega,by omega⟩ ?_; refine zAA (k + k2 - 1) (zB q2) (zB q2) tO hb2 hqm2 rfl ?_; refine zA9 rfl ?_; refine zGg ex2 ?_; refine zY (r:=k2 + 1) rfl tO ?_; refine zw (k2 + 1,k',ys) rfl ⟨hH2,hy,by simp only; omega,by simp only; omega,by simp only; rw [ht]; exact hst2.symm,by simp only; rw [hk']; exact congrArg List.length hst2.symm,by simp only; omega,fun j hj=>hsame2 j (by simp only at hj; omega)⟩ (by simp only; omega)
     ·rw [if_neg he2] at hst2
      have ex2 : zOI true (p2.kind == q2.kind && (p2.num == q2.num && (p2.text == q2.text && true))) = true:=by rw [zNZ he2]; rfl
      refine zCD ?_; refine zGz tT ?_; refine sAt ⟨by omega,by omega⟩ ?_; refine zAA (k + k2) (zB p2) (zB p2) tO hb2 hpm2 rfl ?_; refine zY (r:=k2 - 1) tO tO ?_; refine sAt ⟨by omega,by omega⟩ ?_; refine zAA (k + k2 - 1) (zB q2) (zB q2) tO hb2 hqm2 rfl ?_; refine zA9 rfl ?_; refine zGz ex2 ?_; refine sAt ⟨by omega,by omega⟩ ?_; refine zAA (k + k2) (zB p2) (zB p2) tO hb2 hpm2 rfl ?_; refine sAt ⟨by omega,by omega⟩ ?_
      refine zOp k' p2 r2 tO hb2 hrm2 ?_; refine zY (r:=k' + 1) rfl tO ?_; refine zY (r:=k2 + 1) rfl tO ?_; refine zw (k2 + 1,k' + 1,ys.set k' p2) rfl ⟨?_,by simp only [List.length_set]; exact hy,by simp only; omega,by simp only; omega, ?_, ?_,by simp only; omega,fun j hj=>?_⟩ (by simp only; omega)
      ·simp only
       rw [hH2,List.set_set,List.map_set]
      ·simp only
       rw [show k + (k2 + 1) = k + k2 + 1 by omega,hst2,← ht,List.take_succ,List.getElem?_set_self tO,List.take_set_of_le tO]
       rfl
      ·simp only
       rw [show k + (k2 + 1) = k + k2 + 1 by omega,hst2,List.length_append,← hk']; rfl
      ·simp only at hj ⊢
       rw [List.getElem?_set_ne tO]
       exact hsame2 j tO
    ·have hfull : xs.take (k + k2) = xs:=List.take_of_length_le tO
     rw [hfull] at ht hk'
     have hS3 : zAN (some 3) (.sl (some true) b 3 0 n) (some (zBf k')) none = some (.sl (some true) b 3 k' (n - k')):=zNY tO
     have hS4 : zAN (some 3) (.sl (some true) b 3 0 n) none (some (zBf k')) = some (.sl (some true) b 3 0 k'):=sl_to hk'0 tO
     have hrow : (ys.map zB).take k' ++ List.replicate (n - k') (AV.agg [.int .i64 0,.int .i64 0,.str []]) ++ (ys.map zB).drop (k' + (n - k')) = (zLC xs).map zB:=by
      rw [show k' + (n - k') = n by omega,List.drop_of_length_le (by simp; omega),List.append_nil,← List.map_take,ht]
      unfold zLC
      rw [List.map_append,List.map_replicate,hn,← hk']
      rfl
     obtain ⟨o1,o2⟩:=zP7 hbl 3 ((zLC xs).map zB)
     rw [← hk']
     refine zCD ?_; refine zGg tF ?_; refine zA9 hS3 ?_; refine zQ0 hb2 (by simp; omega) tO rfl ?_; refine zA9 hS4 ?_; refine zP0 rfl rfl (zGh hbl) (by simp [AV.bel,hbl]) ?_ ?_
     ·rw [hrow,hH2,List.set_set]; exact o1
     ·rw [hrow,hH2,List.set_set]; exact o2
   ·rw [if_neg he] at hst
    have ex : zOI false (p.kind == q.kind && (p.num == q.num && (p.text == q.text && true))) = false:=by rw [zNZ he]; rfl
    refine zCD ?_; refine zGz tT ?_; refine sAt ⟨by omega,by omega⟩ ?_; refine zAA k (zB p) (zB p) tO hb hpm rfl ?_; refine zY (r:=k - 1) tO tO ?_; refine sAt ⟨by omega,by omega⟩ ?_; refine zAA (k - 1) (zB q) (zB q) tO hb hqm rfl ?_; refine zA9 rfl ?_; refine zGg ex ?_; refine zY (r:=k + 1) rfl tO ?_; refine zw (k + 1) rfl ⟨rfl,by omega,by omega, ?_⟩ tO
    rw [hst,hck,List.take_succ,hp]; rfl
  ·have hfull : xs.take k = xs:=List.take_of_length_le tO
   rw [hfull] at hck
   obtain ⟨e1,e2⟩:=hsame hck
   rw [e1,e2]
   refine zCD ?_; refine zGg tF ?_
   exact zP0 rfl rfl (zGh hbl) (by simp [AV.bel,hbl]) hO0.1 hO0.2
end
end Go.AM
namespace Go.AM
section
variable {C : CSpec} {GT : Nat → Option AV}
theorem zQ4 (n : Int) (H : Heap) : EFun C GT zEg [zJ n] H (zB ⟨1,n,[]⟩) H:=by
 refine zA9 rfl ?_; refine zDL zA rfl rfl (by simp) ?_
 exact zZ (cs:=splice [.int .i64 0,.int .i64 0,.str []] 0 [.int .i64 1,zJ n,.str []]) (o:=0) rfl rfl (zn (zN zA)) rfl rfl rfl ((Old.refl H).pushSet _ _)
end
end Go.AM
namespace Go.AM
section
variable {C : CSpec} {GT : Nat → Option AV}
theorem zOr (v : Val) (H : Heap) : EFun C GT zEl [zB v] H (.bool (v.kind == 4)) H:=by
 refine zK5 rfl ?_; refine zD (zJ v.kind) zA rfl ?_
 exact z2 rfl rfl rfl rfl ((Old.refl H).push _)
end
end Go.AM
