/- Several texts of mine in one (Sg0, Fs3, Fs4, Sg1, Sg2). Own work. -/
import Derived.Test.YtgcggndacnmhfaaDoorGFs2Fsh
import Derived.Test.YtgcggndacnmhfaaDoorGAm22Cc
set_option linter.all false
set_option maxRecDepth 20000
namespace Go.AM
def zEN (g : Bool) (z : Nat) : Bs1:=(if g = true then [35,44] else []) ++ List.replicate z 48
def fS (g : Bool) (z : Nat) : FormP:=⟨[],[],g,z,0⟩
theorem zKm : ∀ z,zc (List.replicate z 48) = z
  | 0=>rfl
  | z + 1=>by
    show zc (48 :: List.replicate z 48) = _
    unfold zc
    rw [if_pos rfl,zKm z]
theorem zHJ (z : Nat) : zCm (List.replicate z 48) = false:=by
  unfold zCm
  match z with
  | 0=>rfl
  | 1=>rfl
  | z + 2=>rfl
theorem zHK (g : Bool) (s : Bs1) (z : Nat) (hz : 1 ≤ z) (h1 : zCm s = g) (h2 : zj s = List.replicate z 48) : zGo [] s = some (fS g z):=by
  unfold zGo
  rw [h2,zKm,List.drop_of_length_le (by rw [List.length_replicate]; exact Nat.le_refl _),h1]
  show (if z = 0 then none else some (FormP.mk [] [] g z 0)) = _
  rw [if_neg tO]; rfl
theorem zIC (g : Bool) (z : Nat) (h : 1 ≤ z ∧ z ≤ 20) : zFU (zEN g z) = some (fS g z):=by
  obtain ⟨k,rfl⟩ : ∃ k,z = k + 1:=⟨z - 1,by omega⟩
  unfold zFU
  cases g with
  | false=>
    have e : zEN false (k + 1) = 48 :: List.replicate k 48:=rfl
    rw [e,if_neg (by simp only [List.length_cons,List.length_replicate]; omega)]
    have q : zAD (48 :: List.replicate k 48) = some ([],48 :: List.replicate k 48):=rfl
    rw [q]
    exact zHK false (List.replicate (k + 1) 48) (k + 1) h.1 (zHJ _) (by unfold zj; rw [zHJ]; rfl)
  | true=>
    have e : zEN true (k + 1) = 35 :: 44 :: List.replicate (k + 1) 48:=rfl
    rw [e,if_neg (by simp only [List.length_cons,List.length_replicate]; omega)]
    have q : zAD (35 :: 44 :: List.replicate (k + 1) 48) = some ([],35 :: 44 :: List.replicate (k + 1) 48):=rfl
    rw [q]
    exact zHK true (35 :: 44 :: List.replicate (k + 1) 48) (k + 1) h.1 rfl rfl
theorem zKG {s : Bs1} {f : FormP} (h : zFU s = some f) : zAx s = (f,true):=by
  have hr:=zJA s
  rw [h] at hr
  by_cases h2 : (zAx s).2 = true
  · rw [if_pos h2] at hr
    have e:=Option.some.inj hr
    rw [e,← h2]
  · rw [if_neg h2] at hr; cases hr
def zGK (z : Nat) (n : Int) : Bs1:=zKl z (zAH n.natAbs)
def zBd (g : Bool) (D : Bs1) (j : Nat) : Bs1:=if g = true then zB6 D j else D.drop (D.length - j)
theorem showS (g : Bool) (z : Nat) (n : Int) : zDG (fS g z) n = (if n < 0 then [45] else []) ++ zBd g (zGK z n) (zGK z n).length:=by
  unfold zDG fS
  have e : zKl (z + 0) (zAH n.natAbs) = zGK z n:=rfl
  dsimp only
  rw [e]
  have w : zB7 ⟨[],[],g,z,0⟩ (zGK z n) = zGK z n:=by
    unfold zB7
    exact List.take_length
  rw [w]
  show (if n < 0 then [45] else []) ++ ((if g = true then zB6 (zGK z n) (zGK z n).length else zGK z n) ++ []) = _
  rw [List.append_nil]
  unfold zBd
  cases g with
  | false=>rw [Nat.sub_self]; rfl
  | true=>rfl
theorem zEp (g : Bool) (D : Bs1) : zBd g D 0 = []:=by
  unfold zBd
  cases g with
  | false=>rw [if_neg (by decide),Nat.sub_zero,List.drop_length]
  | true=>rw [if_pos rfl]; rfl
theorem zEq (g : Bool) (D : Bs1) (j : Nat) (h : j < D.length) : zBd g D (j + 1) = D.getD (D.length - 1 - j) 0 :: (if g = true ∧ j ≠ 0 ∧ j % 3 = 0 then 44 :: zBd g D j else zBd g D j):=by
  unfold zBd
  cases g with
  | false=>
    rw [if_neg (by decide),if_neg (by simp),if_neg (by decide),z8 tO]
    have e1 : D.length - (j + 1) = D.length - 1 - j:=by omega
    have e2 : D.length - 1 - j + 1 = D.length - j:=by omega
    rw [e1,e2]
  | true=>
    rw [if_pos rfl,if_pos rfl]
    show D.getD (D.length - 1 - j) 0 :: (if j ≠ 0 ∧ j % 3 = 0 then 44 :: zB6 D j else zB6 D j) = _
    by_cases hj : j ≠ 0 ∧ j % 3 = 0
    · rw [if_pos hj,if_pos ⟨rfl,hj⟩]
    · rw [if_neg hj,if_neg (fun h=>hj h.2)]
theorem zGL (D : Bs1) : ∀ t,(zB6 D (3 * t)).length + 1 = 4 * t ∨ t = 0
  | 0=>.inr rfl
  | t + 1=>by
    refine .inl ?_
    have ih:=zGL D t
    have e : 3 * (t + 1) = 3 * t + 1 + 1 + 1:=by omega
    rw [e]
    unfold zB6
    rw [if_neg tO]
    unfold zB6
    rw [if_neg tO]
    unfold zB6
    by_cases h0 : t = 0
    · subst h0; rfl
    · rw [if_pos tO]
      simp only [List.length_cons]
      rcases ih with ih | ih
      · omega
      · exact absurd ih h0
def dz (s : Bs1) : Bs1:=s.drop (zc s)
theorem zD9 (c : UInt8) (r : Bs1) : dz (c :: r) = if c = 48 then dz r else c :: r:=by
  unfold dz
  by_cases h : c = 48
  · rw [if_pos h]
    have e : zc (c :: r) = zc r + 1:=by show (if c = 48 then zc r + 1 else 0) = _; rw [if_pos h]
    rw [e]; rfl
  · rw [if_neg h]
    have e : zc (c :: r) = 0:=by show (if c = 48 then zc r + 1 else 0) = _; rw [if_neg h]
    rw [e]; rfl
theorem zJC : ∀ (s : Bs1) (c : UInt8),dz (s ++ [c]) = if dz s = [] then (if c = 48 then [] else [c]) else dz s ++ [c]
  | [],c=>by
    have e : dz [] = []:=rfl
    rw [List.nil_append,zD9,e,if_pos rfl]
  | a :: r,c=>by
    rw [List.cons_append,zD9,zD9]
    by_cases h : a = 48
    · rw [if_pos h,if_pos h,zJC r c]
    · rw [if_neg h,if_neg h,if_neg (fun h=>by cases h),List.cons_append]
theorem zJD : ∀ (k : Nat) (s : Bs1),dz (List.replicate k 48 ++ s) = dz s
  | 0,s=>by rw [List.replicate_zero,List.nil_append]
  | k + 1,s=>by
    rw [List.replicate_succ,List.cons_append,zD9,if_pos rfl,zJD k s]
theorem zJE (m : Nat) : dz (zAH m) = if m = 0 then [] else zAH m:=by
  by_cases h : m = 0
  · subst h; rfl
  · rw [if_neg h]
    have hn:=zC0 m
    cases e : zAH m with
    | nil=>exact absurd e hn
    | cons c r=>
      rw [zD9]
      by_cases hc : c = 48
      · subst hc
        have:=zGG m (by rw [e]; rfl)
        rw [this] at e
        have hv:=zFT m
        rw [this] at hv
        exact absurd hv.symm h
      · rw [if_neg hc]
def kept (D : Bs1) (j : Nat) : Bs1:=if j = 0 ∧ dz D = [] then [48] else dz (D.take (D.length - j))
theorem zKH (z : Nat) (n : Int) : kept (zGK z n) 0 = zAH n.natAbs:=by
  unfold kept zGK zKl
  rw [zJD,zJE,Nat.sub_zero,List.take_length,zJD,zJE]
  by_cases h : n.natAbs = 0
  · rw [if_pos h,if_pos ⟨rfl,rfl⟩,h]; rfl
  · rw [if_neg h,if_neg (fun h=>zC0 _ h.2)]
theorem zEr (D : Bs1) (h : D ≠ []) : kept D D.length = []:=by
  have hl : D.length ≠ 0:=fun e=>h (List.length_eq_zero_iff.1 e)
  unfold kept
  rw [if_neg (fun h=>hl h.1),Nat.sub_self]; rfl
theorem zJF (D : Bs1) (j : Nat) (h : j < D.length) :
    kept D j = if kept D (j + 1) ≠ [] ∨ D.getD (D.length - 1 - j) 0 ≠ 48 ∨ j = 0 then kept D (j + 1) ++ [D.getD (D.length - 1 - j) 0] else kept D (j + 1):=by
  obtain ⟨c,hc⟩ : ∃ c,D.getD (D.length - 1 - j) 0 = c:=⟨_,rfl⟩
  have e : D.take (D.length - j) = D.take (D.length - (j + 1)) ++ [c]:=by
    have e1 : D.length - j = D.length - (j + 1) + 1:=by omega
    have e2 : D.length - (j + 1) = D.length - 1 - j:=by omega
    rw [e1,List.take_add_one,e2,getD_some tO,hc]; rfl
  have k1 : kept D (j + 1) = dz (D.take (D.length - (j + 1))):=by unfold kept; rw [if_neg tO]
  have k0 : dz (D.take (D.length - j)) = if kept D (j + 1) = [] then (if c = 48 then [] else [c]) else kept D (j + 1) ++ [c]:=by
    rw [e,zJC,k1]
  rw [hc]
  have kj : kept D j = if j = 0 ∧ dz D = [] then [48] else dz (D.take (D.length - j)):=rfl
  rw [kj,k0]
  generalize kept D (j + 1) = K at *
  have pos : ∀ {p : Prop} [Decidable p] (a b : Bs1),p → (if p then a else b) = a:=fun _ _ h=>if_pos h
  have neg : ∀ {p : Prop} [Decidable p] (a b : Bs1),¬ p → (if p then a else b) = b:=fun _ _ h=>if_neg h
  by_cases hK : K = []
  · subst hK
    rw [if_pos rfl] at k0 ⊢
    by_cases h48 : c = 48
    · rw [if_pos h48] at k0 ⊢
      by_cases hj : j = 0
      · subst hj
        have hd : dz D = []:=by rwa [Nat.sub_zero,List.take_length] at k0
        rw [pos (p:=0 = 0 ∧ dz D = []) _ _ ⟨rfl,hd⟩,pos (p:=([] : Bs1) ≠ [] ∨ c ≠ 48 ∨ 0 = 0) _ _ (.inr (.inr rfl)),h48]; rfl
      · rw [neg (p:=j = 0 ∧ dz D = []) _ _ (fun h=>hj h.1),neg (p:=([] : Bs1) ≠ [] ∨ c ≠ 48 ∨ j = 0) _ _ (by rintro (h | h | h); exact h rfl; exact h h48; exact hj h)]
    · rw [if_neg h48] at k0 ⊢
      have hd : ¬ (j = 0 ∧ dz D = []):=by
        rintro ⟨rfl,hd⟩
        rw [Nat.sub_zero,List.take_length,hd] at k0
        cases k0
      rw [neg (p:=j = 0 ∧ dz D = []) _ _ hd,pos (p:=([] : Bs1) ≠ [] ∨ c ≠ 48 ∨ j = 0) _ _ (.inr (.inl h48))]; rfl
  · rw [if_neg hK] at k0 ⊢
    have hd : ¬ (j = 0 ∧ dz D = []):=by
      rintro ⟨rfl,hd⟩
      rw [Nat.sub_zero,List.take_length,hd] at k0
      exact absurd k0.symm (by simp)
    rw [neg (p:=j = 0 ∧ dz D = []) _ _ hd,pos (p:=K ≠ [] ∨ c ≠ 48 ∨ j = 0) _ _ (.inl hK)]
theorem zHL (z : Nat) (n : Int) : (zGK z n).length = max z (zAH n.natAbs).length:=zHG _ _
theorem zGM (W : Bs1) : ∀ j,(zB6 W j).length ≤ 2 * j
  | 0=>Nat.le_refl _
  | j + 1=>by
    have ih:=zGM W j
    unfold zB6
    split <;> simp only [List.length_cons] <;> omega
theorem zJG (g : Bool) (D : Bs1) : (zBd g D D.length).length ≤ 2 * D.length:=by
  unfold zBd
  split
  · exact zGM D _
  · rw [List.length_drop]; omega
theorem zKI (z : Nat) (n : Int) : ∀ c ∈ zGK z n,c ≠ 44:=by
  intro c hc
  unfold zGK zKl at hc
  rcases List.mem_append.1 hc with h | h
  · rw [List.eq_of_mem_replicate h]; decide
  · have:=zFS _ c h
    rintro rfl
    exact absurd this (by decide)
theorem zCp (n : Int) : zDF n = (if n < 0 then [45] else []) ++ zAH n.natAbs:=by
  unfold zDF zAH signed
  by_cases h0 : n = 0
  · subst h0; rfl
  · have hz : n.natAbs ≠ 0:=by omega
    by_cases hn : n < 0
    · rw [if_neg h0,if_neg hz,if_pos hn,if_pos hn,List.reverse_append]; rfl
    · rw [if_neg h0,if_neg hz,if_neg hn,if_neg hn,List.nil_append]
end Go.AM
set_option maxRecDepth 20000
namespace Go.AM
theorem zHM (s : Bs1) (b : Nat) (hb : b ≤ s.length) : zk none (.str s) none (some (.int .i64 (b : Int))) = some (.str (s.take b)):=by
  simp only [zk,zAo,aHi,aLo]
  have h2 : ¬ ((b : Int) < 0):=by omega
  have e1 : (b : Int).toNat = b:=Int.toNat_natCast b
  simp [h2,e1,hb]
theorem zFX (W : Bs1) : ∀ j,(zB6 W j).length ≤ 2 * j
  | 0=>Nat.le_refl _
  | j + 1=>by
    have:=zFX W j
    unfold zB6
    by_cases h : j ≠ 0 ∧ j % 3 = 0
    · rw [if_pos h]; simp only [List.length_cons]; omega
    · rw [if_neg h]; simp only [List.length_cons]; omega
section
variable {C : CSpec} {GT : Nat → Option AV} {H H1 : Heap} {b : Nat} {f : FormP} (hb : H1[b]? = some (.box (zK f).cells)) (hO : Old H H1) (ha : f.ahead.length ≤ 1000) (hbe : f.behind.length ≤ 1000)
include hb hO ha hbe
theorem zKJ (W g p : Bs1) (hW : W.length ≤ 100000) (hgl : g.length ≤ 10) (hpl : p.length ≤ 1000) : EW C GT (zBU.behind 10) (zKh zAl H (.tup [.str ((((g ++ f.ahead) ++ W) ++ (if p = [] then [] else 46 :: p)) ++ f.behind),.nili]) H) [(6,.ref b 0 0 0),(11,.str W),(9,.str g),(12,.str p)] H1:=by
  by_cases hp : p = []
  · subst hp
    rw [if_pos rfl]
    refine zAI (b:=(([] : Bs1) != [])) rfl <| zA (.str f.ahead) hb rfl <| zBo (by first | omega | (simp only [List.length_append,List.length_cons,List.length_nil]; omega)) <| zBo (by first | omega | (simp only [List.length_append,List.length_cons,List.length_nil]; omega)) <| zBo (by first | omega | (simp only [List.length_append,List.length_cons,List.length_nil]; omega)) <| zA (.str f.behind) hb rfl ?_
    refine zBo (by first | omega | (simp only [List.length_append,List.length_cons,List.length_nil]; omega)) ?_
    exact zF8 rfl rfl rfl rfl hO
  · have hn : (p != ([] : Bs1)) = true:=bne_iff_ne.2 hp
    rw [if_neg hp]
    refine zBc hn <| zBo (by first | omega | (simp only [List.length_append,List.length_cons,List.length_nil]; omega)) <| zA (.str f.ahead) hb rfl <| zBo (by first | omega | (simp only [List.length_append,List.length_cons,List.length_nil]; omega)) <| zBo (by first | omega | (simp only [List.length_append,List.length_cons,List.length_nil]; omega)) <| zBo (by first | omega | (simp only [List.length_append,List.length_cons,List.length_nil]; omega)) ?_
    refine zA (.str f.behind) hb rfl <| zBo (by first | omega | (simp only [List.length_append,List.length_cons,List.length_nil]; omega)) ?_
    exact zF8 rfl rfl rfl rfl hO
set_option maxHeartbeats 4000000 in
set_option maxHeartbeats 4000000 in
theorem zLF (W g p : Bs1) (hl : W.length ≤ 1000) (hgl : g.length ≤ 10) (hpl : p.length ≤ 1000) : EW C GT (zBU.behind 9) (zKh zAl H (.tup [.str ((((g ++ f.ahead) ++ (if f.group = true then zB6 W W.length else W)) ++ (if p = [] then [] else 46 :: p)) ++ f.behind),.nili]) H) [(11,.str W),(6,.ref b 0 0 0),(9,.str g),(12,.str p)] H1:=by
  have key:=fun W hW=>zKJ (C:=C) (GT:=GT) hb hO ha hbe W g p hW hgl hpl
  by_cases hg : f.group = true
  · rw [if_pos hg]
    have hgr:=zFX W W.length
    have key:=key (zB6 W W.length) tO
    have w3 : IntKind.i64.wrap ((W.length : Int) - 3) = (W.length : Int) - 3:=by rw [IntKind.wrap_i64]; omega
    refine zA (.bool f.group) hb rfl <| zBc hg <| zFZ w3 ?_
    refine zHz (fun z : Nat × Int × Bs1=>[(13,.int .i64 z.2.1),(11,.str z.2.2),(6,.ref b 0 0 0),(9,.str g),(12,.str p)]) (fun z H'=>H' = H1 ∧ z.2.1 = (W.length : Int) - 3 * ((z.1 : Int) + 1) ∧ z.2.2 = zJT W z.1 ∧ (z.1 ≠ 0 → 3 * z.1 < W.length)) (fun z=>W.length - 3 * z.1) (0,(W.length : Int) - 3,W) rfl ⟨rfl,by simp only; omega,by simp [zJT],fun h=>absurd rfl h⟩ (fun z H2 hi=>?_)
    obtain ⟨t,i,X⟩:=z
    obtain ⟨rfl,h1,h2,h3⟩:=hi
    simp only at h1 h2 h3 ⊢
    have hXl : X.length ≤ 2001:=by
      rw [h2]; unfold zJT
      have:=zFX W (3 * t)
      rw [List.length_append,List.length_take]
      split <;> simp only [List.length_cons,List.length_nil] <;> omega
    by_cases hlt : 3 * (t + 1) < W.length
    · obtain ⟨n,hn⟩ : ∃ n : Nat,n = W.length - 3 * (t + 1):=⟨_,rfl⟩
      have hin : i = (n : Int):=by omega
      subst hin
      have hnx : n ≤ X.length:=by
        rw [h2]; unfold zJT
        rw [List.length_append,List.length_take]; omega
      have hst:=zJ5 hn hlt
      rw [← h2] at hst
      have w4 : IntKind.i64.wrap ((n : Int) - 3) = (n : Int) - 3:=by rw [IntKind.wrap_i64]; omega
      have htl : (X.take n).length = n:=by rw [List.length_take]; omega
      have hdl : (X.drop n).length ≤ 2001:=by rw [List.length_drop]; omega
      refine zBc tT <| zR (zHM X n hnx) <| zBo (by first | omega | (simp only [List.length_append,List.length_cons,List.length_nil]; omega)) <| zR (zCo X n hnx) <| zBo (by first | omega | (simp only [List.length_append,List.length_cons,List.length_nil]; omega)) <| zFZ w4 ?_
      exact zEG (t + 1,(n : Int) - 3,(X.take n ++ [44]) ++ X.drop n) rfl ⟨rfl,by simp only; omega,by simp only; rw [← hst,List.append_assoc]; rfl,fun _=>by simp only; omega⟩ (by simp only; omega)
    · have he:=zLA hlt h3
      rw [← h2] at he
      rw [← he] at key ⊢
      refine zAI tF ?_
      exact zCz rfl key rfl
  · rw [if_neg hg]
    have key:=key W tO
    have hg:=Bool.eq_false_iff.2 hg
    refine zA (.bool f.group) hb rfl <| zAI hg <| zCz rfl key ?_
    rfl
end
end Go.AM
set_option maxRecDepth 20000
namespace Go.AM
def zB8 (k n : Int) (t : Bs1) : AV:=.agg [.int .i64 k,.int .i64 n,.str t]
section
variable {C : CSpec} {GT : Nat → Option AV} (hR : ∀ (s : Bs1) H,C zAi [.str s] H (.tup [zK (zAx s).1,.bool (zAx s).2]) H)
include hR
set_option maxHeartbeats 8000000 in
theorem zJH (n : Int) (t s : Bs1) (h : (zAx s).2 = true) (hn : -9223372036854775808 ≤ n ∧ n ≤ 9223372036854775807) (hf1 : 1 ≤ (zAx s).1.least ∧ (zAx s).1.least ≤ 40 ∧ (zAx s).1.point ≤ 6 ∧ (zAx s).1.ahead.length ≤ 1000 ∧ (zAx s).1.behind.length ≤ 1000) (hd : (zAH n.natAbs).length ≤ 100)
    (hF : ∀ m : Nat,m < 18446744073709551616 → ∀ H,C zl [.int .u64 m,.int .i64 10] H (.str (zAH m)) H) (hRp : ∀ c : Nat,c ≤ 1000 → ∀ H,C zAB [.str [48],zAw c] H (.str (List.replicate c 48)) H) (H : Heap) : EFun C GT zAl [zB8 1 n t,.str s] H (.tup [.str (zDG (zAx s).1 n),.nili]) H:=by
  have hr:=fun H=>hR s H
  rw [h] at hr
  generalize (zAx s).1 = f at hr hf1 ⊢
  obtain ⟨f1,f2,f3,f4,f5⟩:=hf1
  have hff:=fun H=>hF n.natAbs tO H
  have hrp:=fun H=>hRp (f.least + f.point - (zAH n.natAbs).length) tO H
  have hbx : ∀ H1 : Heap,True:=fun _=>trivial
  obtain ⟨D,hD⟩ : ∃ D,zKl (f.least + f.point) (zAH n.natAbs) = D:=⟨_,rfl⟩
  have hDl : D.length = max (f.least + f.point) (zAH n.natAbs).length:=by rw [← hD]; exact zHG _ _
  have hDe : List.replicate (f.least + f.point - (zAH n.natAbs).length) 48 ++ zAH n.natAbs = D:=hD
  have es : ∀ g : Bs1,(if n < 0 then [45] else []) = g → zDG f n = ((((g ++ f.ahead) ++ (if f.group = true then zB6 (zB7 f D) (zB7 f D).length else zB7 f D)) ++ (if D.drop (D.length - f.point) = [] then [] else 46 :: D.drop (D.length - f.point))) ++ f.behind):=fun g hg=>by
    have ep : (D.drop (D.length - f.point) = []) ↔ f.point = 0:=by
      rw [← List.length_eq_zero_iff,List.length_drop]; omega
    unfold zDG
    rw [hD,hg]
    simp only [List.append_assoc,ep]
  have hWl : (zB7 f D).length ≤ 1000:=by unfold zB7; rw [List.length_take]; omega
  have hPl : (D.drop (D.length - f.point)).length ≤ 1000:=by rw [List.length_drop]; omega
  have u1:=zHM D (D.length - f.point) tO
  have u2:=zCo D (D.length - f.point) tO
  have hb0 : ∀ H1 : Heap,((H1 ++ [ABlk.box [.str [],.str [],.bool false,.int .i64 0,.int .i64 0]]).set H1.length (.box (zK f).cells))[H1.length]? = some (.box (zK f).cells):=fun H1=>zC zF
  have key:=fun g hgl=>zLF (C:=C) (GT:=GT) (H:=H) (hb0 (H ++ [ABlk.box (zB8 1 n t).cells])) ((((Old.refl H).push _).push _).set (by simp) _) f4 f5 (zB7 f D) g (D.drop (D.length - f.point)) hWl hgl hPl
  have w2 : IntKind.i64.wrap (((f.least + f.point : Nat) : Int) - ((zAH n.natAbs).length : Int)) = ((f.least + f.point : Nat) : Int) - ((zAH n.natAbs).length : Int):=by rw [IntKind.wrap_i64]; omega
  have w3 : (if ((f.least + f.point : Nat) : Int) - ((zAH n.natAbs).length : Int) > 0 then ((f.least + f.point : Nat) : Int) - ((zAH n.natAbs).length : Int) else 0) = ((f.least + f.point - (zAH n.natAbs).length : Nat) : Int):=by split <;> omega
  have hr0 : (List.replicate (f.least + f.point - (zAH n.natAbs).length) 48 : Bs1).length ≤ 1000:=by rw [List.length_replicate]; omega
  have w4 : IntKind.i64.wrap (((List.replicate (f.least + f.point - (zAH n.natAbs).length) 48 ++ zAH n.natAbs : Bs1).length : Int) - (f.point : Int)) = ((D.length - f.point : Nat) : Int):=by rw [hDe,IntKind.wrap_i64]; omega
  have v1 : zk none (.str (List.replicate (f.least + f.point - (zAH n.natAbs).length) 48 ++ zAH n.natAbs : Bs1)) none (some (.int .i64 ((D.length - f.point : Nat) : Int))) = some (.str (zB7 f D)):=by rw [hDe]; exact u1
  have v2 : zk none (.str (List.replicate (f.least + f.point - (zAH n.natAbs).length) 48 ++ zAH n.natAbs : Bs1)) (some (.int .i64 ((D.length - f.point : Nat) : Int))) none = some (.str (D.drop (D.length - f.point))):=by rw [hDe]; exact u2
  clear hR hF hRp
  refine zr ?_
  refine sBox (x:=zB8 1 n t) rfl ?_
  by_cases hneg : n < 0
  · have key:=key [45] (by simp)
    rw [es [45] (if_pos hneg)]
    have wu : IntKind.u64.wrap n = n + 18446744073709551616:=by rw [IntKind.wrap_u64]; omega
    have wv : IntKind.u64.wrap (0 - (n + 18446744073709551616)) = (n.natAbs : Int):=by rw [IntKind.wrap_u64]; omega
    have hff2 : ∀ H,C zl [.int .u64 (IntKind.u64.wrap (0 - (n + 18446744073709551616))),.int .i64 10] H (.str (zAH n.natAbs)) H:=by rw [wv]; exact hff
    refine zB (hr _) <| zR rfl <| zR rfl <| zI (v:=zK f) (zK f).cells zF rfl rfl rfl rfl <| zG <| zA (.int .i64 1) (zw tA (zAL zF)) rfl ?_
    refine zG <| zA (.int .i64 n) (zw tA (zAL zF)) rfl <| zFZ wu <| zA (.int .i64 n) (zw tA (zAL zF)) rfl <| zBc tT <| zR rfl ?_
    refine zB (hff2 _) <| zA (zAw f.least) (hb0 _) rfl <| zA (zAw f.point) (hb0 _) rfl <| zBq (r:=f.least + f.point) tO tO <| zFZ w2 <| zFZ w3 ?_
    refine zB (hrp _) <| zBo (by first | omega | (simp only [List.length_append,List.length_replicate]; omega)) <| zA (zAw f.point) (hb0 _) rfl <| zFZ w4 <| zR v1 <| zA (zAw f.point) (hb0 _) rfl ?_
    refine zFZ w4 <| zR v2 ?_
    exact zCz rfl key rfl
  · have key:=key [] (by simp)
    rw [es [] (if_neg hneg)]
    have wu : IntKind.u64.wrap n = (n.natAbs : Int):=by rw [IntKind.wrap_u64]; omega
    refine zB (hr _) <| zR rfl <| zR rfl <| zI (v:=zK f) (zK f).cells zF rfl rfl rfl rfl <| zG <| zA (.int .i64 1) (zw tA (zAL zF)) rfl ?_
    refine zG <| zA (.int .i64 n) (zw tA (zAL zF)) rfl <| zFZ wu <| zA (.int .i64 n) (zw tA (zAL zF)) rfl <| zAI tF <| zB (hff _) ?_
    refine zA (zAw f.least) (hb0 _) rfl <| zA (zAw f.point) (hb0 _) rfl <| zBq (r:=f.least + f.point) tO tO <| zFZ w2 <| zFZ w3 <| zB (hrp _) ?_
    refine zBo (by first | omega | (simp only [List.length_append,List.length_replicate]; omega)) <| zA (zAw f.point) (hb0 _) rfl <| zFZ w4 <| zR v1 <| zA (zAw f.point) (hb0 _) rfl <| zFZ w4 ?_
    refine zR v2 ?_
    exact zCz rfl key rfl
end
end Go.AM
set_option maxRecDepth 20000
namespace Go.AM
theorem zLG (n : Int) : zQ [.int .i64,.int .i64,.str] (zB8 1 n []).cells (zB8 1 n []).cells = some true:=by
  have e : zQ [.int .i64,.int .i64,.str] (zB8 1 n []).cells (zB8 1 n []).cells = some ((1 : Int) == 1 && ((n == n) && ((([] : Bs1) == []) && true))):=rfl
  rw [e,beq_self_eq_true n]; rfl
def zEs (g : Bool) (D : Bs1) (q : Bool) (j : Nat) : Bs1:=if q = true then 44 :: zBd g D j else zBd g D j
theorem zJI (g : Bool) (D : Bs1) (j : Nat) (h : j < D.length) : zEs g D false (j + 1) = D.getD (D.length - 1 - j) 0 :: zEs g D (decide (g = true ∧ j ≠ 0 ∧ j % 3 = 0)) j:=by
  show zBd g D (j + 1) = _
  rw [zEq g D j h]
  unfold zEs
  by_cases hc : g = true ∧ j ≠ 0 ∧ j % 3 = 0
  · rw [if_pos hc,decide_eq_true hc,if_pos rfl]
  · rw [if_neg hc,decide_eq_false hc,if_neg (by decide)]
theorem zKK (g : Bool) (D : Bs1) {j : Nat} (h : j ≠ 0) (hj : j ≤ D.length) : zBd g D j ≠ []:=by
  obtain ⟨k,rfl⟩ : ∃ k,j = k + 1:=⟨j - 1,by omega⟩
  rw [zEq g D k tO]
  exact fun h=>by cases h
theorem zID (D : Bs1) {j : Nat} (h0 : j ≠ 0) (h3 : j % 3 = 0) : (zEs true D true j).length % 4 = 0:=by
  obtain ⟨t,rfl⟩ : ∃ t,j = 3 * t:=⟨j / 3,by omega⟩
  have e : zEs true D true (3 * t) = 44 :: zB6 D (3 * t):=rfl
  rw [e,List.length_cons]
  rcases zGL D t with h | h
  · omega
  · omega
theorem zKL (D : Bs1) (j : Nat) : (kept D j).length ≤ D.length + 1:=by
  unfold kept
  split
  · simp
  · unfold dz
    rw [List.length_drop,List.length_take]; omega
section
variable {C : CSpec} {GT : Nat → Option AV} {H H1 : Heap}
set_option maxHeartbeats 8000000 in
theorem zL1 (hNum : ∀ n H,C zW [zCM n] H (zB8 1 n []) H) (n : Int) (hRead : ∀ H,C zx [.str (zDF n)] H (zB8 1 n []) H) (hO : Old H H1) (v : AV) (g : Bool) (z : Nat) (hz : 1 ≤ z ∧ z ≤ 20) (hd : (zAH n.natAbs).length ≤ 100)
    (ho : Owns H H1 v 1 (((if n < 0 then [45] else []) : Bs1).map zO)) (s : Bs1) (hs : s = (if n < 0 then [45] else []) ++ zBd g (zGK z n) (zGK z n).length) (hl : s.length ≤ 1000) :
    EW C GT (zh.behind 14) (zKh zT H (.bool true) H) [(16,.bool false),(15,zAw (if n < 0 then 1 else 0)),(13,v),(11,.str s),(14,zAw 0),(2,.bool g),(0,zCM n),(1,zAw z)] H1:=by
  obtain ⟨D,hD⟩ : ∃ D,zGK z n = D:=⟨_,rfl⟩
  have hDl:=zHL z n
  have hDd:=zKI z n
  have hke:=zKH z n
  have hsg:=zCp n
  rw [hD] at hs hDl hDd hke
  have hDn : D ≠ []:=by
    intro e
    rw [e] at hDl
    simp only [List.length_nil] at hDl
    omega
  obtain ⟨sg,hsgn⟩ : ∃ sg : Bs1,(if n < 0 then [45] else []) = sg:=⟨_,rfl⟩
  have hi0 : (if n < 0 then 1 else 0) = sg.length:=by rw [← hsgn]; split <;> rfl
  rw [hsgn] at ho hs hsg
  rw [hi0]
  have hsl : sg.length ≤ 1:=by rw [← hi0]; split <;> omega
  refine zHz (fun x : Nat × Bool × Bs1 × Nat × Bool × AV=>[(15,zAw x.1),(13,x.2.2.2.2.2),(16,.bool x.2.1),(11,.str s),(14,zAw (D.length - x.2.2.2.1)),(2,.bool g),(0,zCM n),(1,zAw z)])
    (fun x H2=>(x.1 = x.2.2.1.length ∧ x.2.1 = decide (kept D x.2.2.2.1 ≠ [])) ∧ s = x.2.2.1 ++ zEs g D x.2.2.2.2.1 x.2.2.2.1 ∧ x.2.2.2.1 ≤ D.length ∧ (x.2.2.2.2.1 = true → g = true ∧ x.2.2.2.1 ≠ 0 ∧ x.2.2.2.1 % 3 = 0) ∧ Owns H H2 x.2.2.2.2.2 1 ((sg ++ kept D x.2.2.2.1).map zO) ∧ Old H H2)
    (fun x=>(zEs g D x.2.2.2.2.1 x.2.2.2.1).length) (sg.length,false,sg,D.length,false,v) ?_ ⟨⟨rfl,by rw [zEr D hDn]; rfl⟩,hs,Nat.le_refl _,(fun h=>nomatch h),(by rw [zEr D hDn,List.append_nil]; exact ho),hO⟩ (fun x H2 hi=>?_)
  · dsimp only
    rw [Nat.sub_self]; rfl
  obtain ⟨i,bg,w,j,q,v2⟩:=x
  obtain ⟨⟨gi,gb⟩,g1,g2,g3,g4,g5⟩:=hi
  dsimp only at gi gb g1 g2 g3 g4 ⊢
  subst gi
  have hwl : w.length ≤ 1000:=by rw [g1,List.length_append] at hl; omega
  have hsw : s.length = w.length + (zEs g D q j).length:=by rw [g1,List.length_append]
  cases q with
  | true=>
    obtain ⟨rfl,h0,h3⟩:=g3 rfl
    have h4:=zID D h0 h3
    have hc : s[w.length]? = some 44:=by
      rw [g1,List.getElem?_append_right (Nat.le_refl _),Nat.sub_self]; rfl
    have hlt : decide (((w.length : Nat) : Int) < ((s.length : Nat) : Int)) = true:=tT (by
      have : (zEs true D true j).length ≠ 0:=by
        have e : zEs true D true j = 44 :: zBd true D j:=rfl
        rw [e]; simp
      omega)
    have wr : IntKind.i64.wrap (((s.length : Nat) : Int) - ((w.length : Nat) : Int)) = ((4 * ((zEs true D true j).length / 4) : Nat) : Int):=by
      rw [IntKind.wrap_i64]; omega
    have ht : Int.tmod ((4 * ((zEs true D true j).length / 4) : Nat) : Int) 4 = 0:=by rw [Int.natCast_mul]; exact Int.mul_tmod_right _ _
    refine zBc hlt ?_
    refine zFv (i:=w.length) rfl hc ?_
    refine zG ?_
    refine zG ?_
    refine zFZ wr ?_
    refine zBo (by decide) ?_
    refine zFZ ht ?_
    refine zG ?_
    refine zG ?_
    refine zBq (r:=w.length + 1) tO tO ?_
    exact zEG (w.length + 1,bg,w ++ [44],j,false,v2) rfl ⟨⟨by simp,gb⟩,(by rw [g1]; show _ = (w ++ [44]) ++ zBd true D j; rw [List.append_assoc]; rfl),g2,(fun h=>nomatch h),g4,g5⟩ (by show (zBd true D j).length < (44 :: zBd true D j).length; simp)
  | false=>
    cases j with
    | zero=>
      have e0 : zEs g D false 0 = []:=zEp g D
      rw [e0,List.length_nil] at hsw
      have hlt : decide (((w.length : Nat) : Int) < ((s.length : Nat) : Int)) = false:=tF
      rw [hke,← hsg] at g4
      have hge : decide (((D.length - 0 : Nat) : Int) ≥ ((z : Nat) : Int)) = true:=tT
      have he:=zLG n
      refine zAI hlt ?_
      refine zIx g4 ?_
      refine zB (hRead _) ?_
      refine zI (v:=zB8 1 n []) (AV.cells (zB8 1 n [])) zF rfl rfl rfl rfl ?_
      refine zBc hge ?_
      refine zA (zB8 1 n []) (zC zF) rfl ?_
      refine zB (hNum _ _) ?_
      refine zR (v:=true) he ?_
      refine zP ?_
      exact zF8 rfl rfl rfl rfl (g5.pushSet _ _)
    | succ k=>
      have hn:=zJI g D k tO
      have hks:=zJF D k tO
      have hcd:=hDd (D.getD (D.length - 1 - k) 0) (by rw [List.getD_eq_getElem?_getD,List.getElem?_eq_getElem tO]; exact List.getElem_mem _)
      obtain ⟨c,hcc⟩ : ∃ c,D.getD (D.length - 1 - k) 0 = c:=⟨_,rfl⟩
      rw [hcc] at hn hks hcd
      have hc : s[w.length]? = some c:=by
        rw [g1,List.getElem?_append_right (Nat.le_refl _),Nat.sub_self,hn]; rfl
      have hlt : decide (((w.length : Nat) : Int) < ((s.length : Nat) : Int)) = true:=tT (by rw [hn,List.length_cons] at hsw; omega)
      have h44 : (((c.toNat : Nat) : Int) != 44) = true:=bne_iff_ne.2 (fun e=>hcd (UInt8.toNat_inj.1 (by show c.toNat = 44; omega)))
      have hsl2 : s.length = w.length + (1 + (zEs g D (decide (g = true ∧ k ≠ 0 ∧ k % 3 = 0)) k).length):=by rw [hsw,hn,List.length_cons]; omega
      have hlast : k = 0 ↔ ((w.length : Nat) : Int) = ((s.length : Nat) : Int) - 1:=by
        by_cases h0 : k = 0
        · subst h0
          have e0 : zEs g D (decide (g = true ∧ 0 ≠ 0 ∧ 0 % 3 = 0)) 0 = []:=by
            rw [tF (by rintro ⟨_,h,_⟩; exact h rfl)]
            exact zEp g D
          rw [e0] at hsl2
          simp only [List.length_nil] at hsl2
          omega
        · have e0 : (zEs g D (decide (g = true ∧ k ≠ 0 ∧ k % 3 = 0)) k).length ≠ 0:=by
            have ht:=zKK g D h0 tO
            unfold zEs
            split
            · simp
            · exact fun h=>ht (List.length_eq_zero_iff.1 h)
          omega
      have hgo : ∀ (q2 : Bool) (v3 : AV) (H3 : Heap),q2 = decide (g = true ∧ k ≠ 0 ∧ k % 3 = 0) → Owns H H3 v3 1 ((sg ++ kept D k).map zO) → Old H H3 → ((w.length + 1 = (w ++ [c]).length) ∧ s = (w ++ [c]) ++ zEs g D q2 k ∧ k ≤ D.length ∧ (q2 = true → g = true ∧ k ≠ 0 ∧ k % 3 = 0) ∧ Owns H H3 v3 1 ((sg ++ kept D k).map zO) ∧ Old H H3):=fun q2 v3 H3 e ho hO=>⟨by simp,by rw [g1,hn,e,List.append_assoc]; rfl,by omega,fun h=>of_decide_eq_true (e ▸ h),ho,hO⟩
      have hmu : (zEs g D (decide (g = true ∧ k ≠ 0 ∧ k % 3 = 0)) k).length < (zEs g D false (k + 1)).length:=by rw [hn,List.length_cons]; omega
      have ew1 : IntKind.i64.wrap (((s.length : Nat) : Int) - 1) = ((s.length : Nat) : Int) - 1:=by rw [IntKind.wrap_i64]; omega
      have edig : D.length - (k + 1) + 1 = D.length - k:=by omega
      have hw1 : (w ++ [c]).length = w.length + 1:=by simp
      have hkl:=zKL D (k + 1)
      have hkt : kept D k = kept D (k + 1) ++ [c] → decide (kept D k ≠ []) = true:=fun e=>tT (by rw [e]; simp)
      have hkm : kept D k = kept D (k + 1) ++ [c] → ∀ {v3 : AV} {H3 : Heap},Owns H H3 v3 1 ((sg ++ kept D (k + 1)).map zO ++ [zO c]) → Owns H H3 v3 1 ((sg ++ kept D k).map zO):=fun e v3 H3 ho=>by
        have e2 : (sg ++ kept D k).map zO = (sg ++ kept D (k + 1)).map zO ++ [zO c]:=by rw [e,← List.append_assoc,List.map_append (l₂:=[c])]; rfl
        rw [e2]; exact ho
      by_cases h48 : c = 48
      · have b48 : (((c.toNat : Nat) : Int) != 48) = false:=by rw [h48]; rfl
        by_cases h0 : k = 0
        · rw [if_pos (.inr (.inr h0))] at hks
          have bl : (((w.length : Nat) : Int) == ((s.length : Nat) : Int) - 1) = true:=tE (hlast.1 h0)
          refine zBc hlt ?_
          refine zFv (i:=w.length) rfl hc ?_
          refine zBc h44 ?_
          refine zBq (r:=D.length - k) tO tO ?_
          refine zAI b48 ?_
          refine zFZ ew1 ?_
          refine zG ?_
          refine zBc bl ?_
          refine zP ?_
          refine zFD (vs':=[zO c]) rfl rfl ?_
          refine zFE (H0:=H) (ys:=[zO c]) (g4.push _) (g5.push _) zDT (by decide) (by simp only [List.length_map,List.length_append,List.length_singleton]; omega) (by simp) (fun v3 H3 ho3 hO3 _ _=>?_)
          refine zBq (r:=w.length + 1) tO tO ?_
          exact zEG (w.length + 1,true,w ++ [c],k,decide (g = true ∧ k ≠ 0 ∧ k % 3 = 0),v3) rfl ⟨⟨hw1.symm,(hkt hks).symm⟩,(hgo _ v3 H3 rfl (hkm hks ho3) hO3).2⟩ hmu
        · have bl : (((w.length : Nat) : Int) == ((s.length : Nat) : Int) - 1) = false:=tN (fun e=>h0 (hlast.2 e))
          by_cases hK : kept D (k + 1) = []
          · rw [if_neg (by rintro (h | h | h); exact h hK; exact h h48; exact h0 h)] at hks
            have hf : decide (kept D (k + 1) ≠ []) = false:=tF (fun h=>h hK)
            have hf2 : decide (kept D k ≠ []) = false:=by rw [hks]; exact hf
            rw [hf] at gb
            subst gb
            refine zBc hlt ?_
            refine zFv (i:=w.length) rfl hc ?_
            refine zBc h44 ?_
            refine zBq (r:=D.length - k) tO tO ?_
            refine zAI b48 ?_
            refine zFZ ew1 ?_
            refine zG ?_
            refine zAI bl ?_
            refine zG ?_
            refine zBq (r:=w.length + 1) tO tO ?_
            exact zEG (w.length + 1,false,w ++ [c],k,decide (g = true ∧ k ≠ 0 ∧ k % 3 = 0),v2) rfl ⟨⟨hw1.symm,hf2.symm⟩,(hgo _ v2 H2 rfl (by rw [hks]; exact g4) g5).2⟩ hmu
          · rw [if_pos (.inl hK)] at hks
            have hf : decide (kept D (k + 1) ≠ []) = true:=decide_eq_true hK
            rw [hf] at gb
            subst gb
            refine zBc hlt ?_
            refine zFv (i:=w.length) rfl hc ?_
            refine zBc h44 ?_
            refine zBq (r:=D.length - k) tO tO ?_
            refine zAI b48 ?_
            refine zFZ ew1 ?_
            refine zG ?_
            refine zAI bl ?_
            refine zP ?_
            refine zFD (vs':=[zO c]) rfl rfl ?_
            refine zFE (H0:=H) (ys:=[zO c]) (g4.push _) (g5.push _) zDT (by decide) (by simp only [List.length_map,List.length_append,List.length_singleton]; omega) (by simp) (fun v3 H3 ho3 hO3 _ _=>?_)
            refine zBq (r:=w.length + 1) tO tO ?_
            exact zEG (w.length + 1,true,w ++ [c],k,decide (g = true ∧ k ≠ 0 ∧ k % 3 = 0),v3) rfl ⟨⟨hw1.symm,(hkt hks).symm⟩,(hgo _ v3 H3 rfl (hkm hks ho3) hO3).2⟩ hmu
      · have b48 : (((c.toNat : Nat) : Int) != 48) = true:=bne_iff_ne.2 (fun e=>h48 (UInt8.toNat_inj.1 (by show c.toNat = 48; omega)))
        rw [if_pos (.inr (.inl h48))] at hks
        refine zBc hlt ?_
        refine zFv (i:=w.length) rfl hc ?_
        refine zBc h44 ?_
        refine zBq (r:=D.length - k) tO tO ?_
        refine zBc b48 ?_
        refine zP ?_
        refine zP ?_
        refine zP ?_
        refine zFD (vs':=[zO c]) rfl rfl ?_
        refine zFE (H0:=H) (ys:=[zO c]) (g4.push _) (g5.push _) zDT (by decide) (by simp only [List.length_map,List.length_append,List.length_singleton]; omega) (by simp) (fun v3 H3 ho3 hO3 _ _=>?_)
        refine zBq (r:=w.length + 1) tO tO ?_
        exact zEG (w.length + 1,true,w ++ [c],k,decide (g = true ∧ k ≠ 0 ∧ k % 3 = 0),v3) rfl ⟨⟨hw1.symm,(hkt hks).symm⟩,(hgo _ v3 H3 rfl (hkm hks ho3) hO3).2⟩ hmu
end
end Go.AM
set_option maxRecDepth 20000
namespace Go.AM
section
variable {C : CSpec} {GT : Nat → Option AV} {H H1 : Heap}
set_option maxHeartbeats 8000000 in
theorem sg_t7 (hNum : ∀ n H,C zW [zCM n] H (zB8 1 n []) H) (n : Int) (hRead : ∀ H,C zx [.str (zDF n)] H (zB8 1 n []) H) (g : Bool) (z : Nat) (hz : 1 ≤ z ∧ z ≤ 20) (hd : (zAH n.natAbs).length ≤ 100)
    (hShow : ∀ H,C zf [zB8 1 n [],.str (zEN g z)] H (.tup [.str (zDG (fS g z) n),.nili]) H) (hO : Old H H1) :
    EW C GT (zh.behind 7) (zKh zT H (.bool true) H) [(2,.bool g),(0,zCM n),(1,zAw z),(9,.str (zEN g z))] H1:=by
  have hs:=showS g z n
  have hl : (zDG (fS g z) n).length ≤ 1000:=by
    rw [hs,List.length_append]
    have h1 : (if n < 0 then [45] else [] : Bs1).length ≤ 1:=by split <;> simp
    have h2:=zJG g (zGK z n)
    have h3:=zHL z n
    omega
  generalize zDG (fS g z) n = s at hs hl hShow
  generalize zEN g z = cd at hShow
  have key:=fun (v : AV) (H2 : Heap) (hO : Old H H2) ho=>zL1 (C:=C) (GT:=GT) (H:=H) (H1:=H2) hNum n hRead hO v g z hz hd ho s hs hl
  by_cases hn : n < 0
  · simp only [if_pos hn] at key hs
    have hc : s[0]? = some 45:=by rw [hs]; rfl
    have hne : (s == ([] : Bs1)) = false:=by rw [hs]; rfl
    have hlt : decide (n < 0) = true:=decide_eq_true hn
    refine zB (hNum _ _) ?_
    refine zB (hShow _) ?_
    refine zR rfl ?_
    refine zR rfl ?_
    refine zR rfl ?_
    refine zG ?_
    refine zBc hlt ?_
    refine zAI hne ?_
    refine zFv (i:=0) rfl hc ?_
    refine zG ?_
    refine zG ?_
    refine zFD (vs':=[AV.int IntKind.u8 45]) rfl rfl ?_
    refine zFE (H0:=H) (xs:=[]) (ys:=[zO 45]) (.inl ⟨rfl,rfl⟩) (hO.push _) zDT (by decide) (by simp) (by simp) (fun v3 H3 ho3 hO3 _ _=>?_)
    exact zCz rfl (key v3 H3 hO3 ho3) rfl
  · simp only [if_neg hn] at key hs
    have hlt : decide (n < 0) = false:=decide_eq_false hn
    refine zB (hNum _ _) ?_
    refine zB (hShow _) ?_
    refine zR rfl ?_
    refine zR rfl ?_
    refine zR rfl ?_
    refine zG ?_
    refine zAI hlt ?_
    exact zCz rfl (key _ _ hO (.inl ⟨rfl,rfl⟩)) rfl
def zLH : Bs1:=[34,36,34,35,44,48,46,48,48]
def zL2 : Bs1:=[45,36,49,50,44,51,52,53,46,54,55]
set_option maxHeartbeats 8000000 in
theorem zL3 (hNum : ∀ n H,C zW [zCM n] H (zB8 1 n []) H) (n : Int) (hRead : ∀ H,C zx [.str (zDF n)] H (zB8 1 n []) H) (g : Bool) (z : Nat) (hz : 1 ≤ z ∧ z ≤ 20) (hd : (zAH n.natAbs).length ≤ 100)
    (hShow : ∀ H,C zf [zB8 1 n [],.str (zEN g z)] H (.tup [.str (zDG (fS g z) n),.nili]) H) (hO : Old H H1) (pre : Bs1) (hp : zEN g z = pre ++ List.replicate z 48) (hpl : pre.length ≤ 2) :
    EW C GT (zh.behind 6) (zKh zT H (.bool true) H) [(9,.str pre),(2,.bool g),(0,zCM n),(1,zAw z)] H1:=by
  have key:=sg_t7 (C:=C) (GT:=GT) (H:=H) (H1:=H1) hNum n hRead g z hz hd hShow hO
  rw [hp] at key
  refine zHz (fun i : Nat=>[(10,zAw i),(9,.str (pre ++ List.replicate i 48)),(2,.bool g),(0,zCM n),(1,zAw z)]) (fun i H2=>i ≤ z ∧ H2 = H1) (fun i=>z - i) 0 ?_ ⟨Nat.zero_le _,rfl⟩ (fun i H2 hi=>?_)
  · dsimp only
    rw [List.replicate_zero,List.append_nil]; rfl
  obtain ⟨hi,rfl⟩:=hi
  dsimp only
  by_cases hlt : i < z
  · have hl : decide (((i : Nat) : Int) < ((z : Nat) : Int)) = true:=tT
    have hsz : (pre ++ List.replicate i 48 : Bs1).length ≤ 100:=by rw [List.length_append,List.length_replicate]; omega
    have hnx : pre ++ List.replicate (i + 1) 48 = (pre ++ List.replicate i 48) ++ [48]:=by rw [List.append_assoc,List.replicate_succ']
    generalize pre ++ List.replicate i 48 = cd at *
    refine zBc hl ?_
    refine zBo (by first | omega | (simp only [List.length_append,List.length_cons,List.length_nil]; omega)) ?_
    refine zBq (r:=i + 1) tO tO ?_
    exact zEG (i + 1) (by show _ = [(10,zAw (i + 1)),(9,AV.str (pre ++ List.replicate (i + 1) 48)),(2,AV.bool g),(0,zCM n),(1,zAw z)]; rw [hnx]; rfl) ⟨by omega,rfl⟩ (by show z - (i + 1) < z - i; omega)
  · have e : i = z:=by omega
    subst e
    have hl : decide (((i : Nat) : Int) < ((i : Nat) : Int)) = false:=tF
    refine zAI hl ?_
    exact zCz rfl key rfl
set_option maxHeartbeats 8000000 in
theorem zKM (hNum : ∀ n H,C zW [zCM n] H (zB8 1 n []) H) (n : Int) (hRead : ∀ H,C zx [.str (zDF n)] H (zB8 1 n []) H) (g : Bool) (z : Int) (hd : (zAH n.natAbs).length ≤ 100)
    (hShow : ∀ z : Nat,1 ≤ z → z ≤ 20 → ∀ H,C zf [zB8 1 n [],.str (zEN g z)] H (.tup [.str (zDG (fS g z) n),.nili]) H) (hFact : ∀ H,C zf [zB8 1 (-1234567) [],.str zLH] H (.tup [.str zL2,.nili]) H) (H : Heap) :
    EFun C GT zT [zCM n,zCM z,.bool g] H (.bool true) H:=by
  have hn1:=hNum (-1234567)
  refine zr ?_
  by_cases hz1 : 1 ≤ z
  · by_cases hz2 : z ≤ 20
    · obtain ⟨k,rfl⟩ : ∃ k : Nat,z = k:=⟨z.toNat,by omega⟩
      have hsh:=hShow k tO tO
      have l1 : decide (((k : Nat) : Int) < 1) = false:=tF
      have l2 : decide (((k : Nat) : Int) > 20) = false:=tF
      cases g with
      | true=>
        have key:=fun (H1 : Heap) hO=>zL3 (C:=C) (GT:=GT) (H:=H) (H1:=H1) hNum n hRead true k tO hd hsh hO [35,44] rfl (by decide)
        clear hShow hRead
        refine zB (hn1 _) ?_
        refine zB (hFact _) ?_
        refine zR rfl ?_
        refine zR rfl ?_
        refine zR rfl ?_
        refine zG ?_
        refine zG ?_
        refine zG ?_
        refine zP ?_
        refine zAI l1 ?_
        refine zG ?_
        refine zAI l2 ?_
        exact zCz rfl (key _ (Old.refl _)) rfl
      | false=>
        have key:=fun (H1 : Heap) hO=>zL3 (C:=C) (GT:=GT) (H:=H) (H1:=H1) hNum n hRead false k tO hd hsh hO [] rfl (by decide)
        clear hShow hRead
        refine zB (hn1 _) ?_
        refine zB (hFact _) ?_
        refine zR rfl ?_
        refine zR rfl ?_
        refine zR rfl ?_
        refine zG ?_
        refine zG ?_
        refine zG ?_
        refine zG ?_
        refine zAI l1 ?_
        refine zG ?_
        refine zAI l2 ?_
        exact zCz rfl (key _ (Old.refl _)) rfl
    · have l1 : decide (z < 1) = false:=tF
      have l2 : decide (z > 20) = true:=tT
      clear hShow hRead
      cases g with
      | true => refine zB (hn1 _) ?_
                refine zB (hFact _) ?_
                refine zR rfl ?_
                refine zR rfl ?_
                refine zR rfl ?_
                refine zG ?_
                refine zG ?_
                refine zG ?_
                refine zP ?_
                refine zAI l1 ?_
                refine zG ?_
                refine zBc l2 ?_
                exact sRr
      | false => refine zB (hn1 _) ?_
                 refine zB (hFact _) ?_
                 refine zR rfl ?_
                 refine zR rfl ?_
                 refine zR rfl ?_
                 refine zG ?_
                 refine zG ?_
                 refine zG ?_
                 refine zG ?_
                 refine zAI l1 ?_
                 refine zG ?_
                 refine zBc l2 ?_
                 exact sRr
  · have l1 : decide (z < 1) = true:=tT
    clear hShow hRead
    cases g with
    | true => refine zB (hn1 _) ?_
              refine zB (hFact _) ?_
              refine zR rfl ?_
              refine zR rfl ?_
              refine zR rfl ?_
              refine zG ?_
              refine zG ?_
              refine zG ?_
              refine zP ?_
              refine zBc l1 ?_
              refine zP ?_
              refine zP ?_
              exact sRr
    | false => refine zB (hn1 _) ?_
               refine zB (hFact _) ?_
               refine zR rfl ?_
               refine zR rfl ?_
               refine zR rfl ?_
               refine zG ?_
               refine zG ?_
               refine zG ?_
               refine zG ?_
               refine zBc l1 ?_
               refine zP ?_
               refine zP ?_
               exact sRr
end
end Go.AM
