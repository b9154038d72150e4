/- Several texts of mine in one (Pre, Bg0, Fp2, Lea, Fr1). Own work. -/
import Derived.Test.YtmmbcogejaofpaaGreatDoorGMcMk
import Derived.Test.YtmmbcogejaofpaaGreatDoorGAm23Am29
import Derived.Test.YtmmbcogejaofpaaGreatDoorGFp0Trm
set_option linter.all false
namespace Go.AM
theorem slice_to' (s : List UInt8) (n : Nat) (h : n ≤ s.length) : zAq none (.str s) none (some (.int .i64 (n : Int))) = some (.str (s.take n)):=by
  simp only [zAq,zB2,aHi,aLo]
  rw [if_pos ⟨by omega,by omega⟩]
  simp
theorem zCV : ∀ (p s : List UInt8),p.isPrefixOf s = (decide (p.length ≤ s.length) && (s.take p.length == p))
  | [],s=>by simp
  | a :: p,[]=>by simp
  | a :: p,b :: s=>by
    simp only [List.isPrefixOf,zCV p s,List.length_cons,List.take_succ_cons]
    rw [Bool.eq_iff_iff]
    simp only [Bool.and_eq_true,beq_iff_eq,decide_eq_true_eq,List.cons.injEq]
    constructor
    · rintro ⟨h1,h2,h3⟩; exact ⟨by omega,h1.symm,h3⟩
    · rintro ⟨h1,h2,h3⟩; exact ⟨h2.symm,by omega,h3⟩
section
variable {C : CSpec} {GT : Nat → Option AV}
theorem sl_prefix_ev (s p : List UInt8) (H : Heap) : EFun C GT zA8 [.str s,.str p] H (.bool (p.isPrefixOf s)) H:=by
  refine sCond (fun h=>?_) (fun h=>?_)
  · have h : p.length ≤ s.length:=by
      have:=of_decide_eq_true h
      omega
    have e : p.isPrefixOf s = (s.take p.length == p):=by rw [zCV,decide_eq_true h,Bool.true_and]
    rw [e]
    refine zT (slice_to' s p.length h) <| zH ?_
    exact sRr
  · have h : ¬ p.length ≤ s.length:=by
      have:=of_decide_eq_false h
      omega
    have e : p.isPrefixOf s = false:=by rw [zCV,decide_eq_false h,Bool.false_and]
    rw [e]
    refine zF ?_
    exact sRr
theorem prefix_ev (hS : ∀ s p H,C zi [.str s,.str p] H (.bool (p.isPrefixOf s)) H) (s p : List UInt8) (H : Heap) : EFun C GT zBe [.str s,.str p] H (.bool (p.isPrefixOf s)) H:=by
  refine zI (hS s p H) ?_
  exact sRr
end
end Go.AM
namespace Go.AM
def zGv (n : Int) : Prop:=-9223372036854775808 ≤ n ∧ n ≤ 9223372036854775807
instance (n : Int) : Decidable (zGv n):=by unfold zGv; exact inferInstance
def bitsF : Nat → Nat → Nat
  | 0,_=>0
  | f + 1,n=>if n = 0 then 0 else bitsF f (n / 2) + 1
def bits (n : Nat) : Nat:=bitsF n n
end Go.AM
set_option maxRecDepth 20000
namespace Go.AM
def zBT (s : Bs) : Bool × Bs:=
  match s with
  | []=>(false,[])
  | c :: r=>if c = 45 then (true,r) else (false,c :: r)
def zBg (s : Bs) : Prop:=(zBT s).2 ≠ [] ∧ ¬ ((zBT s).2.head? = some 48 ∧ s ≠ [48]) ∧ (zBT s).2.all digB = true
instance (s : Bs) : Decidable (zBg s):=by unfold zBg; exact inferInstance
def zGw (s : Bs) : Int:=if (zBT s).1 = true then -(zC2 (zBT s).2 : Int) else zC2 (zBT s).2
def wholeS (s : Bs) : Option Int:=if zBg s then (if zGv (zGw s) then some (zGw s) else none) else none
theorem zGL {t : Bs} (h : t.head? ≠ some 45) : zBT t = (false,t):=by
  cases t with
  | nil=>rfl
  | cons c r=>
    unfold zBT
    simp only
    rw [if_neg (fun e=>h (by rw [e]; rfl))]
theorem zH7 {t : Bs} (h1 : t ≠ []) (h2 : ¬ (t.head? = some 48 ∧ t ≠ [48])) (h3 : t.all digB = true) : zGe t = if zC2 t ≤ 9223372036854775807 then some (zC2 t : Int) else none:=by
  unfold zGe
  rw [if_neg (fun x=>x.elim h1 h2),if_pos h3]
theorem wholeP_no {t : Bs} (h : ¬ (t ≠ [] ∧ ¬ (t.head? = some 48 ∧ t ≠ [48]) ∧ t.all digB = true)) : zGe t = none:=by
  unfold zGe
  split
  · rfl
  · rename_i h1
    rw [if_neg (fun h3=>h ⟨fun e=>h1 (.inl e),fun e=>h1 (.inr e),h3⟩)]
theorem wholeS_of {t : Bs} (h : t.head? ≠ some 45) : wholeS t = zGe t:=by
  have hd : zBg t ↔ (t ≠ [] ∧ ¬ (t.head? = some 48 ∧ t ≠ [48]) ∧ t.all digB = true):=by unfold zBg; rw [zGL h]
  have hv : zGw t = zC2 t:=by unfold zGw; rw [zGL h]; rfl
  unfold wholeS
  rw [hv]
  by_cases hf : zBg t
  · obtain ⟨h1,h2,h3⟩:=hd.1 hf
    rw [if_pos hf,zH7 h1 h2 h3]
    by_cases h4 : zC2 t ≤ 9223372036854775807
    · rw [if_pos h4,if_pos (show zGv (zC2 t : Int) by unfold zGv; omega)]
    · rw [if_neg h4,if_neg (show ¬ zGv (zC2 t : Int) by unfold zGv; omega)]
  · rw [if_neg hf,wholeP_no (fun x=>hf (hd.2 x))]
theorem decF (l : Bs) : ∀ n : Nat,l.foldl (fun n c=>n * 10 + (c.toNat - 48)) n = n * 10 ^ l.length + zC2 l:=by
  unfold zC2
  induction l with
  | nil=>intro n; simp
  | cons c r ih=>
    intro n
    simp only [List.foldl_cons,List.length_cons]
    rw [ih,ih (0 * 10 + (c.toNat - 48)),Nat.pow_succ,Nat.add_mul,Nat.zero_mul,Nat.zero_add]
    have : n * 10 * 10 ^ r.length = n * (10 ^ r.length * 10):=by rw [Nat.mul_assoc,Nat.mul_comm 10]
    omega
theorem decV_cons (c : UInt8) (r : Bs) : zC2 (c :: r) = (c.toNat - 48) * 10 ^ r.length + zC2 r:=by
  show (c :: r).foldl _ 0 = _
  rw [List.foldl_cons,decF]; simp
theorem decV_snoc (l : Bs) (c : UInt8) : zC2 (l ++ [c]) = zC2 l * 10 + (c.toNat - 48):=by unfold zC2; rw [List.foldl_append]; rfl
theorem zHD (c : UInt8) : digB c = true ↔ 48 ≤ c.toNat ∧ c.toNat ≤ 57:=by unfold digB; rw [Bool.and_eq_true,decide_eq_true_iff,decide_eq_true_iff]
theorem capB_iff (c : UInt8) : capB c = true ↔ 65 ≤ c.toNat ∧ c.toNat ≤ 90:=by unfold capB; rw [Bool.and_eq_true,decide_eq_true_iff,decide_eq_true_iff]
theorem decV_lt : ∀ l : Bs,l.all digB = true → zC2 l < 10 ^ l.length
  | [],_=>by simp [zC2]
  | c :: r,h=>by
    rw [List.all_cons,Bool.and_eq_true] at h
    have h1:=(zHD c).1 h.1
    have h2:=decV_lt r h.2
    rw [decV_cons,List.length_cons,Nat.pow_succ]
    have : (c.toNat - 48) * 10 ^ r.length ≤ 9 * 10 ^ r.length:=Nat.mul_le_mul_right _ tO
    omega
theorem decV_ge {c : UInt8} {r : Bs} (h : 49 ≤ c.toNat) : 10 ^ r.length ≤ zC2 (c :: r):=by
  rw [decV_cons]
  have : 1 * 10 ^ r.length ≤ (c.toNat - 48) * 10 ^ r.length:=Nat.mul_le_mul_right _ tO
  omega
def zGM (t : Bs) : Prop:=t ≠ [] ∧ t.length ≤ 2 ∧ t.head? ≠ some 48 ∧ t.all digB = true
instance (t : Bs) : Decidable (zGM t):=by unfold zGM; exact inferInstance
theorem rowP_is (fc : Bool) (col : Int) (p : Bool × Bs) : rowP fc col p = if zGM p.2 then some ⟨col,zC2 p.2,fc,p.1⟩ else none:=by
  obtain ⟨d,t⟩:=p
  unfold rowP
  simp only
  by_cases hf : zGM t
  · obtain ⟨h1,h2,h3,h4⟩:=hf
    rw [if_pos ⟨h1,h2,h3,h4⟩,zH7 h1 (fun x=>h3 x.1) h4]
    obtain ⟨c,r,rfl⟩ : ∃ c r,t = c :: r:=List.exists_cons_of_ne_nil h1
    have hlt:=decV_lt _ h4
    have hc:=(zHD c).1 (by rw [List.all_cons,Bool.and_eq_true] at h4; exact h4.1)
    have h49 : 49 ≤ c.toNat:=by
      have : c.toNat ≠ 48:=fun e=>h3 (by rw [show c = 48 from UInt8.toNat_inj.1 e]; rfl)
      omega
    have hge:=decV_ge (r:=r) h49
    have hp : 10 ^ (c :: r).length ≤ 10 ^ 2:=Nat.pow_le_pow_right tO h2
    have hq : 0 < 10 ^ r.length:=Nat.pow_pos tO
    have e2 : (10 : Nat) ^ 2 = 100:=rfl
    rw [if_pos tO]
    simp only
    rw [if_pos ⟨by omega,by omega⟩]
  · rw [if_neg hf]
    by_cases hw : t ≠ [] ∧ ¬ (t.head? = some 48 ∧ t ≠ [48]) ∧ t.all digB = true
    · obtain ⟨h1,h2,h4⟩:=hw
      rw [zH7 h1 h2 h4]
      by_cases h0 : t.head? = some 48
      · have : t = [48]:=Decidable.byContradiction fun e=>h2 ⟨h0,e⟩
        subst this
        rfl
      · obtain ⟨c,r,rfl⟩ : ∃ c r,t = c :: r:=List.exists_cons_of_ne_nil h1
        have hc:=(zHD c).1 (by rw [List.all_cons,Bool.and_eq_true] at h4; exact h4.1)
        have h49 : 49 ≤ c.toNat:=by
          have : c.toNat ≠ 48:=fun e=>h0 (by rw [show c = 48 from UInt8.toNat_inj.1 e]; rfl)
          omega
        have hge:=decV_ge (r:=r) h49
        have hl : 2 ≤ r.length:=by
          rcases Nat.lt_or_ge r.length 2 with h | h
          · exact absurd ⟨h1,by simp only [List.length_cons]; omega,h0,h4⟩ hf
          · exact h
        have hp : 10 ^ 2 ≤ 10 ^ r.length:=Nat.pow_le_pow_right tO hl
        have e2 : (10 : Nat) ^ 2 = 100:=rfl
        split
        · rename_i n hn
          split at hn
          · cases hn
            rw [if_neg tO]
          · cases hn
        · rfl
    · rw [wholeP_no hw]
def litP (s : Bs) : Option (Int × Int):=
  if s = trueW then some (3,1) else if s = zH2 then some (3,0) else
  if s = [35,68,73,86,33] then some (4,1) else if s = [35,86,65,76,85,69,33] then some (4,2) else if s = [35,82,69,70,33] then some (4,3) else
  if s = [35,78,65,77,69,33] then some (4,4) else if s = [35,78,85,77,33] then some (4,5) else if s = [35,78,79,78,69,33] then some (4,6) else none
end Go.AM
set_option maxRecDepth 20000
namespace Go.AM
def v3 (k n : Int) : AV:=.agg [.int .i64 k,.int .i64 n,.str []]
def textsV : AV:=.agg [.str [],.str [35,68,73,86,33],.str [35,86,65,76,85,69,33],.str [35,82,69,70,33],.str [35,78,65,77,69,33],.str [35,78,85,77,33],.str [35,78,79,78,69,33]]
def litV (r : Option (Int × Int)) : AV:=match r with
  | some (k,n)=>.tup [v3 k n,.bool true]
  | none=>.tup [v3 0 0,.bool false]
def wholeV (r : Option Int) (n0 : Int) : AV:=match r with
  | some n=>.tup [zf n,.bool true]
  | none=>.tup [zf n0,.bool false]
def rV (r : RefP) : AV:=.agg [.int .i64 r.col,.int .i64 r.row,.bool r.fc,.bool r.fr]
def refV (r : Option RefP) : AV:=match r with
  | some r=>.tup [rV r,.nili]
  | none=>.tup [rV noRef,zD6 2]
def zF1 (r : Option Nd) : AV:=match r with
  | some n=>.tup [ndV n,.bool true]
  | none=>.tup [ndV zo,.bool false]
section
variable {C : CSpec} {GT : Nat → Option AV}
theorem zGx (hP : ∀ s p H,C zi [.str s,.str p] H (.bool (p.isPrefixOf s)) H) (s p : Bs) (H : Heap) : EFun C GT zA0 [.str s,.str p] H (.str (if p.isPrefixOf s = true then s.drop p.length else s)) H:=by
  have hp:=hP s p H
  clear hP
  refine ze ?_
  by_cases h : p.isPrefixOf s = true
  · rw [h] at hp
    rw [if_pos h]
    have hl : p.length ≤ s.length:=by rw [zCV,Bool.and_eq_true,decide_eq_true_iff] at h; exact h.1
    refine zI (hp) <| zH <| zT (v:=.str (s.drop p.length)) (zEi s p.length hl) ?_
    exact sRr
  · rw [Bool.eq_false_iff.2 h] at hp
    rw [if_neg h]
    refine zI (hp) <| zF ?_
    exact sRr
theorem trimPrefix_ev (hP : ∀ s p H,C z6 [.str s,.str p] H (.str (if p.isPrefixOf s = true then s.drop p.length else s)) H) (s p : Bs) (H : Heap) : EFun C GT zBV [.str s,.str p] H (.str (if p.isPrefixOf s = true then s.drop p.length else s)) H:=by
  have hp:=hP s p H
  clear hP
  refine ze ?_
  refine zI (hp) ?_
  exact sRr
theorem wrong_ev (n : Int) (H : Heap) : EFun C GT zDs [zf n] H (v3 4 n) H:=by
  refine ze ?_
  refine zT (v:=[.int .i64 4,zf n,AV.str []]) rfl <| zG (v:=AV.agg [.int .i64 4,zf n,AV.str []]) (AV.cells (AV.agg [.int .i64 4,zf n,AV.str []])) zD rfl rfl rfl rfl ?_
  exact zHB (o:=0) rfl rfl (zQ (zE zD)) rfl rfl rfl (((Old.refl _).push _).set (by first | assumption | exact Nat.le_refl _ | simp | omega) _)
theorem is_ev (b : Bool) (H : Heap) : EFun C GT zGH [.bool b] H (v3 3 (if b = true then 1 else 0)) H:=by
  refine ze ?_
  cases b
  · refine zT (v:=[.int .i64 3,.int .i64 0,AV.str []]) rfl <| zG (v:=AV.agg [.int .i64 3,.int .i64 0,AV.str []]) (AV.cells (AV.agg [.int .i64 3,.int .i64 0,AV.str []])) zD rfl rfl rfl rfl <| zF <| zC (AV.agg [.int .i64 3,.int .i64 0,AV.str []]) (zE zD) rfl <| zG (v:=AV.agg [.int .i64 3,.int .i64 0,AV.str []]) (AV.cells (AV.agg [.int .i64 3,.int .i64 0,AV.str []])) (zB (by first | assumption | simp | omega) (zA zD)) rfl rfl rfl rfl ?_
    exact zHB (o:=0) rfl rfl (zQ (zE (zB (by first | assumption | simp | omega) (zA zD)))) rfl rfl rfl (((((Old.refl _).push _).push _).set (by first | assumption | exact Nat.le_refl _ | simp | omega) _).set (by first | assumption | exact Nat.le_refl _ | simp | omega) _)
  · refine zT (v:=[.int .i64 3,.int .i64 0,AV.str []]) rfl <| zG (v:=AV.agg [.int .i64 3,.int .i64 0,AV.str []]) (AV.cells (AV.agg [.int .i64 3,.int .i64 0,AV.str []])) zD rfl rfl rfl rfl <| zH <| zG (v:=.int .i64 1) [.int .i64 3,.int .i64 1,AV.str []] (zE zD) rfl rfl rfl rfl <| zC (AV.agg [.int .i64 3,.int .i64 1,AV.str []]) (zE (zE zD)) rfl <| zG (v:=AV.agg [.int .i64 3,.int .i64 1,AV.str []]) (AV.cells (AV.agg [.int .i64 3,.int .i64 1,AV.str []])) (zB (by first | assumption | simp | omega) (zB (by first | assumption | simp | omega) (zA zD))) rfl rfl rfl rfl ?_
    exact zHB (o:=0) rfl rfl (zQ (zE (zB (by first | assumption | simp | omega) (zB (by first | assumption | simp | omega) (zA zD))))) rfl rfl rfl ((((((Old.refl _).push _).push _).set (by first | assumption | exact Nat.le_refl _ | simp | omega) _).set (by first | assumption | exact Nat.le_refl _ | simp | omega) _).set (by first | assumption | exact Nat.le_refl _ | simp | omega) _)
theorem digs_all (s : Bs) : (trimS s [48,49,50,51,52,53,54,55,56,57] = []) ↔ s.all digB = true:=by
  rw [trim_nil]
  have : (fun c : UInt8=>zEP [48,49,50,51,52,53,54,55,56,57] c.toNat) = digB:=by
    funext c
    unfold zEP digB
    rw [Bool.eq_iff_iff]
    simp only [List.any_cons,List.any_nil,Bool.or_false,Bool.or_eq_true,Bool.and_eq_true,decide_eq_true_eq,beq_iff_eq]
    have e : ∀ n : Nat,n < 256 → (UInt8.ofNat n).toNat = n:=fun n h=>by simp; omega
    have e48 : (48 : UInt8).toNat = 48:=rfl
    have e49 : (49 : UInt8).toNat = 49:=rfl
    have e50 : (50 : UInt8).toNat = 50:=rfl
    have e51 : (51 : UInt8).toNat = 51:=rfl
    have e52 : (52 : UInt8).toNat = 52:=rfl
    have e53 : (53 : UInt8).toNat = 53:=rfl
    have e54 : (54 : UInt8).toNat = 54:=rfl
    have e55 : (55 : UInt8).toNat = 55:=rfl
    have e56 : (56 : UInt8).toNat = 56:=rfl
    have e57 : (57 : UInt8).toNat = 57:=rfl
    rw [e48,e49,e50,e51,e52,e53,e54,e55,e56,e57]
    omega
  rw [this]
def capsL : Bs:=[65,66,67,68,69,70,71,72,73,74,75,76,77,78,79,80,81,82,83,84,85,86,87,88,89,90]
theorem caps_tab : ∀ n : Fin 256,zEP capsL n.val = (decide (65 ≤ n.val) && decide (n.val ≤ 90)):=by decide +kernel
theorem caps_all (s : Bs) : (trimS s capsL = []) ↔ s.all capB = true:=by
  rw [trim_nil]
  have : (fun c : UInt8=>zEP capsL c.toNat) = capB:=by
    funext c
    exact caps_tab ⟨c.toNat,UInt8.toNat_lt c⟩
  rw [this]
theorem called_ev (hT : ∀ s cs H,(∀ c ∈ cs,c.toNat < 128) → 2 ≤ cs.length → cs.length ≤ 1000 → s.length ≤ 1000 → C zAn [.str s,.str cs] H (.str (trimS s cs)) H) (s : Bs) (H : Heap) (hl : s.length ≤ 1000) : EFun C GT zCK [.str s] H (.bool (zCf s)) H:=by
  obtain ⟨r,hr⟩ : ∃ r,zCf s = r:=⟨_,rfl⟩
  rw [hr]
  unfold zCf at hr
  have ht:=hT s capsL H (by decide) (by decide) (by decide) hl
  clear hT
  refine ze ?_
  by_cases h1 : 2 ≤ s.length
  · by_cases h2 : s.length ≤ 10
    · rw [decide_eq_true h1,decide_eq_true h2,Bool.true_and,Bool.true_and] at hr
      refine za tT <| zH <| za tT <| zI (ht) <| zH ?_
      refine sRetE (v0:=.bool (trimS s capsL == [])) (congrArg AV.bool ?_) rfl rfl rfl rfl (Old.refl _)
      rw [← hr,Bool.eq_iff_iff,beq_iff_eq,caps_all]
    · rw [decide_eq_false h2,Bool.and_false,Bool.false_and] at hr
      subst hr
      refine za tT <| zH <| zV tF <| zF ?_
      exact sRr
  · rw [decide_eq_false h1,Bool.false_and,Bool.false_and] at hr
    subst hr
    refine zV tF <| zF <| zF <| zF ?_
    exact sRr
theorem dollar_ev (b : Nat) (t : Bs) (H : Heap) (hb : H[b]? = some (.box [.str t])) (x' : AV) : zCL C GT zDv [pR b] H b [.undef] x' (some (.bool (dollar t).1,.box [.str (dollar t).2])):=by
  refine zx ?_
  cases t with
  | nil=>
    refine zC (AV.str []) hb rfl <| zF <| zF <| zF ?_
    exact sRetO _ (by first | rfl | assumption) rfl rfl rfl rfl (OldB.start hb) rfl
  | cons c r=>
    by_cases h : c = 36
    · subst h
      have e : dollar (36 :: r) = (true,r):=rfl
      rw [e]
      refine zC (AV.str (36 :: r)) hb rfl <| zH <| zC (AV.str (36 :: r)) hb rfl <| zBB (i:=0) rfl rfl <| zH <| za (tE (by rfl)) ?_
      refine zC (AV.str (36 :: r)) hb rfl <| zT (v:=.str r) (zEi (36 :: r) 1 (by simp)) <| zG (v:=AV.str r) [AV.str r] hb rfl rfl rfl rfl ?_
      exact sRetO _ (by first | rfl | assumption) rfl rfl rfl rfl ((OldB.start hb).setB _) rfl
    · have hn : c.toNat ≠ 36:=fun e=>h (UInt8.toNat_inj.1 e)
      have e : dollar (c :: r) = (false,c :: r):=if_neg h
      rw [e]
      refine zC (AV.str (c :: r)) hb rfl <| zH <| zC (AV.str (c :: r)) hb rfl <| zBB (i:=0) rfl rfl <| zH <| zV tN ?_
      exact sRetO _ (by first | rfl | assumption) rfl rfl rfl rfl (OldB.start hb) rfl
theorem whole_ev (hT : ∀ s cs H,(∀ c ∈ cs,c.toNat < 128) → 2 ≤ cs.length → cs.length ≤ 1000 → s.length ≤ 1000 → C zAn [.str s,.str cs] H (.str (trimS s cs)) H) (hP : ∀ s H,C zAG [.str s,.str [45]] H (.str (zBT s).2) H)
    (hA : ∀ s H,zBg s → zGv (zGw s) → s.length ≤ 1000 → C zAM [.str s] H (.tup [zf (zGw s),.nili]) H) (hA2 : ∀ s H,zBg s → ¬ zGv (zGw s) → s.length ≤ 1000 → ∃ n t,C zAM [.str s] H (.tup [zf n,.iface t .undef]) H)
    (s : Bs) (H : Heap) (hl : s.length ≤ 1000) : ∃ n0,EFun C GT zDt [.str s] H (wholeV (wholeS s) n0) H:=by
  have hp:=hP s H
  have hdl : (zBT s).2.length ≤ 1000:=by
    unfold zBT
    split
    · simp
    · rename_i c r
      simp only [List.length_cons] at hl
      split <;> simp only [List.length_cons] <;> omega
  have ht:=hT (zBT s).2 [48,49,50,51,52,53,54,55,56,57] H (by decide) (by decide) (by decide) hdl
  have hda:=digs_all (zBT s).2
  have hdf : zBg s ↔ ((zBT s).2 ≠ [] ∧ ¬ ((zBT s).2.head? = some 48 ∧ s ≠ [48]) ∧ (zBT s).2.all digB = true):=Iff.rfl
  have ha:=hA s H
  have ha2:=hA2 s H
  clear hT hP hA hA2
  unfold wholeS
  obtain ⟨d,hd⟩ : ∃ d,(zBT s).2 = d:=⟨_,rfl⟩
  rw [hd] at hp ht hda hdf
  generalize trimS d [48,49,50,51,52,53,54,55,56,57] = tr at *
  by_cases hf : zBg s
  · rw [if_pos hf]
    obtain ⟨h1,h2,h3⟩:=hdf.1 hf
    have htr : tr = []:=hda.2 h3
    subst htr
    obtain ⟨c,r,rfl⟩ : ∃ c r,d = c :: r:=List.exists_cons_of_ne_nil h1
    have hres : ∃ n x,C zAM [.str s] H (.tup [zf n,x]) H ∧ ((x = .nili ∧ (if zGv (zGw s) then some (zGw s) else none : Option Int) = some n) ∨ ((∃ t,x = .iface t .undef) ∧ (if zGv (zGw s) then some (zGw s) else none : Option Int) = none)):=by
      by_cases hi : zGv (zGw s)
      · exact ⟨_,_,ha hf hi hl,.inl ⟨rfl,by rw [if_pos hi]⟩⟩
      · obtain ⟨n,t,h⟩:=ha2 hf hi hl
        exact ⟨n,_,h,.inr ⟨⟨t,rfl⟩,by rw [if_neg hi]⟩⟩
    obtain ⟨n,x,hat,hx⟩:=hres
    clear ha ha2
    have h48 : c.toNat = 48 → s = [48]:=fun e=>Decidable.byContradiction fun h=>h2 ⟨by rw [show c = 48 from UInt8.toNat_inj.1 e]; rfl,h⟩
    by_cases hc : c.toNat = 48
    · have:=h48 hc
      rcases hx with ⟨rfl,e⟩ | ⟨⟨t,rfl⟩,e⟩
      · rw [e]
        refine ⟨n,ze ?_⟩
        refine zI (hp) <| zF <| zBB (i:=0) rfl rfl ?_
        refine za tE <| zH <| zF <| zV (bne_eq_false_iff_eq.2 this) <| zI (ht) ?_
        refine zF <| zF <| zI (hat) <| zT rfl <| zT rfl <| zT rfl ?_
        exact sRr
      · rw [e]
        refine ⟨n,ze ?_⟩
        refine zI (hp) <| zF <| zBB (i:=0) rfl rfl ?_
        refine za tE <| zH <| zF <| zV (bne_eq_false_iff_eq.2 this) <| zI (ht) ?_
        refine zF <| zF <| zI (hat) <| zT rfl <| zT rfl <| zT rfl ?_
        exact sRr
    · rcases hx with ⟨rfl,e⟩ | ⟨⟨t,rfl⟩,e⟩
      · rw [e]
        refine ⟨n,ze ?_⟩
        refine zI (hp) <| zV tN <| zBB (i:=0) rfl rfl ?_
        refine zV tN <| zF <| zF <| zF <| zI (ht) ?_
        refine zF <| zF <| zI (hat) <| zT rfl <| zT rfl <| zT rfl ?_
        exact sRr
      · rw [e]
        refine ⟨n,ze ?_⟩
        refine zI (hp) <| zV tN <| zBB (i:=0) rfl rfl ?_
        refine zV tN <| zF <| zF <| zF <| zI (ht) ?_
        refine zF <| zF <| zI (hat) <| zT rfl <| zT rfl <| zT rfl ?_
        exact sRr
  · rw [if_neg hf]
    refine ⟨0,ze ?_⟩
    clear ha ha2
    cases d with
    | nil => refine zI (hp) ?_
             refine zH <| zH <| zH <| zH <| zH ?_
             exact sRr
    | cons c r=>
      by_cases hc : c.toNat = 48
      · by_cases hs : s = [48]
        · have htr : tr ≠ []:=fun e=>hf (hdf.2 ⟨by simp,fun x=>x.2 hs,hda.1 e⟩)
          refine zI (hp) <| zF <| zBB (i:=0) rfl rfl ?_
          refine za tE <| zH <| zF <| zV (bne_eq_false_iff_eq.2 hs) <| zI (ht) ?_
          refine zF <| za (bne_iff_ne.2 htr) ?_
          exact sRr
        · refine zI (hp) <| zF <| zBB (i:=0) rfl rfl ?_
          refine za tE <| zH <| zF <| za (bne_iff_ne.2 hs) <| zH <| zH ?_
          exact sRr
      · have htr : tr ≠ []:=fun e=>hf (hdf.2 ⟨by simp,fun x=>hc (by have:=x.1; simp only [List.head?_cons,Option.some.injEq] at this; rw [this]; rfl),hda.1 e⟩)
        refine zI (hp) <| zF <| zBB (i:=0) rfl rfl ?_
        refine zV tN <| zF <| zF <| zF <| zI (ht) ?_
        refine zF <| za (bne_iff_ne.2 htr) ?_
        exact sRr
theorem textsV_get (k : Nat) (h : k < 7) : ∃ t : Bs,[AV.str [],.str [35,68,73,86,33],.str [35,86,65,76,85,69,33],.str [35,82,69,70,33],.str [35,78,65,77,69,33],.str [35,78,85,77,33],.str [35,78,79,78,69,33]][k]? = some (.str t) ∧ (∀ s : Bs,s ≠ [] → s ≠ trueW → s ≠ zH2 → (t = s → litP s = some (4,(k : Int)))) ∧ (k = 0 → t = []):=by
  rcases k with _ | _ | _ | _ | _ | _ | _ | k
  · exact ⟨_,rfl,fun s h _ _ e=>absurd e.symm h,fun _=>rfl⟩
  · exact ⟨_,rfl,fun s _ h1 h2 e=>by subst e; rfl,fun h=>by cases h⟩
  · exact ⟨_,rfl,fun s _ h1 h2 e=>by subst e; rfl,fun h=>by cases h⟩
  · exact ⟨_,rfl,fun s _ h1 h2 e=>by subst e; rfl,fun h=>by cases h⟩
  · exact ⟨_,rfl,fun s _ h1 h2 e=>by subst e; rfl,fun h=>by cases h⟩
  · exact ⟨_,rfl,fun s _ h1 h2 e=>by subst e; rfl,fun h=>by cases h⟩
  · exact ⟨_,rfl,fun s _ h1 h2 e=>by subst e; rfl,fun h=>by cases h⟩
  · omega
theorem literal_ev (hG : GT zDq = some textsV) (hI : ∀ b H,C zBk [.bool b] H (v3 3 (if b = true then 1 else 0)) H) (hW : ∀ n H,C zBq [zf n] H (v3 4 n) H) (s : Bs) (H : Heap) :
    EFun C GT zCc [.str s] H (litV (litP s)) H:=by
  refine ze ?_
  by_cases h1 : s = trueW
  · have e : litP s = some (3,1):=if_pos h1
    have h1' : (s == [84,82,85,69]) = true:=tE h1
    have hi : C zBk [.bool true] (H ++ [.box [.int .i64 0,.int .i64 0,.str []]]) (v3 3 1) (H ++ [.box [.int .i64 0,.int .i64 0,.str []]]):=hI true _
    clear hI hW
    rw [e]
    refine za h1' <| zI (hi) <| zG (v:=v3 3 1) (AV.cells (v3 3 1)) zD rfl rfl rfl rfl ?_
    exact zAD (o:=0) rfl rfl (zQ (zE zD)) rfl rfl rfl rfl (((Old.refl _).push _).set (by first | assumption | exact Nat.le_refl _ | simp | omega) _)
  by_cases h2 : s = zH2
  · have e : litP s = some (3,0):=by unfold litP; rw [if_neg h1,if_pos h2]
    have h1' : (s == [84,82,85,69]) = false:=tN h1
    have h2' : (s == [70,65,76,83,69]) = true:=tE h2
    have hi : C zBk [.bool false] (H ++ [.box [.int .i64 0,.int .i64 0,.str []]]) (v3 3 0) (H ++ [.box [.int .i64 0,.int .i64 0,.str []]]):=hI false _
    clear hI hW
    rw [e]
    refine zV h1' <| za h2' <| zI (hi) <| zG (v:=v3 3 0) (AV.cells (v3 3 0)) zD rfl rfl rfl rfl ?_
    exact zAD (o:=0) rfl rfl (zQ (zE zD)) rfl rfl rfl rfl (((Old.refl _).push _).set (by first | assumption | exact Nat.le_refl _ | simp | omega) _)
  have h1' : (s == [84,82,85,69]) = false:=tN h1
  have h2' : (s == [70,65,76,83,69]) = false:=tN h2
  obtain ⟨r,hr⟩ : ∃ r,litP s = r:=⟨_,rfl⟩
  rw [hr]
  clear hI
  refine zV h1' <| zV h2' <| sLoadG textsV hG rfl ?_
  refine zCI (fun k : Nat=>[(2,pR H.length),(14,zP k),(0,.str s),(13,textsV)]) (fun k H'=>H' = H ++ [.box [.int .i64 0,.int .i64 0,.str []]] ∧ k ≤ 7 ∧ ∀ j t,j < k → [AV.str [],.str [35,68,73,86,33],.str [35,86,65,76,85,69,33],.str [35,82,69,70,33],.str [35,78,65,77,69,33],.str [35,78,85,77,33],.str [35,78,79,78,69,33]][j]? = some (.str t) → s = [] ∨ t ≠ s) (fun k=>7 - k) 0 rfl ⟨rfl,by omega,fun j t h=>by omega⟩ (fun k H1 ⟨e,hk,hno⟩=>?_)
  subst e
  by_cases hlt : k < 7
  · obtain ⟨t,ht,hts,ht0⟩:=textsV_get k hlt
    have hw:=hW k (H ++ [.box [.int .i64 0,.int .i64 0,.str []]])
    clear hW
    by_cases he : t = s
    · by_cases hs : s = []
      · refine za tT <| zFb ⟨by omega,by omega⟩ <| zT (v:=.str t) (by simpa [part] using ht) <| za (tE he) <| zH <| zV (bne_eq_false_iff_eq.2 hs) ?_
        refine zb (r:=k + 1) rfl tO ?_
        exact zAf (k + 1) rfl ⟨rfl,by omega,fun j t' _ _=>.inl hs⟩ tO
      · have e:=hts s hs h1 h2 he
        rw [hr] at e
        subst e
        refine za tT <| zFb ⟨by omega,by omega⟩ <| zT (v:=.str t) (by simpa [part] using ht) <| za (tE he) <| zH <| za (bne_iff_ne.2 hs) ?_
        refine zI (hw) <| zG (v:=v3 4 ↑k) (AV.cells (v3 4 ↑k)) zD rfl rfl rfl rfl ?_
        exact zAD (v:=v3 4 k) (v1:=.bool true) (o:=0) rfl rfl (zQ (zE zD)) rfl rfl rfl rfl (((Old.refl _).push _).set (Nat.le_refl _) _)
    · refine za tT <| zFb ⟨by omega,by omega⟩ <| zT (v:=.str t) (by simpa [part] using ht) <| zV (tN he) <| zF <| zF ?_
      refine zb (r:=k + 1) rfl tO ?_
      refine zAf (k + 1) rfl ⟨rfl,by omega,fun j t' hj hjt=>?_⟩ tO
      by_cases e : j = k
      · subst e
        rw [ht] at hjt
        cases hjt
        exact .inr he
      · exact hno j t' tO hjt
  · have e : k = 7:=by omega
    subst e
    have e : litP s = none:=by
      unfold litP
      rw [if_neg h1,if_neg h2]
      have n1:=hno 1 _ tO rfl
      have n2:=hno 2 _ tO rfl
      have n3:=hno 3 _ tO rfl
      have n4:=hno 4 _ tO rfl
      have n5:=hno 5 _ tO rfl
      have n6:=hno 6 _ tO rfl
      by_cases hs : s = []
      · subst hs; rfl
      · rw [if_neg (fun x=>n1.elim hs fun y=>y x.symm),if_neg (fun x=>n2.elim hs fun y=>y x.symm),if_neg (fun x=>n3.elim hs fun y=>y x.symm),if_neg (fun x=>n4.elim hs fun y=>y x.symm),if_neg (fun x=>n5.elim hs fun y=>y x.symm),if_neg (fun x=>n6.elim hs fun y=>y x.symm)]
    rw [e] at hr
    subst hr
    refine zF <| zT (v:=[.int .i64 0,.int .i64 0,AV.str []]) rfl <| zG (v:=AV.agg [.int .i64 0,.int .i64 0,AV.str []]) (AV.cells (AV.agg [.int .i64 0,.int .i64 0,AV.str []])) zD rfl rfl rfl rfl ?_
    exact zAD (v:=v3 0 0) (v1:=.bool false) (o:=0) rfl rfl (zQ (zE zD)) rfl rfl rfl rfl (((Old.refl _).push _).set (Nat.le_refl _) _)
theorem sGenA {a : AK} {vs : List AV} {H : Heap} {K : AV → Heap → Prop} (P : Heap → Prop) (h : P H) (k : ∀ H',P H' → actP a vs H' K) : actP a vs H K:=k H h
theorem sStrB {s : Bs} {H : Heap} {K : AV → Heap → Prop} (h : s.length ≤ 140737488355328) (q : K (.sl (some false) H.length 1 0 s.length) (H ++ [.row 1 (s.map zAS)])) : actP .strToBytes [.str s] H K:=by
  refine sAct (v:=.sl (some false) H.length 1 0 s.length) (H':=H ++ [.row 1 (s.map zAS)]) ?_ q
  simp only [astep]
  rw [if_pos h]
theorem Old.at {H0 H : Heap} (h : Old H0 H) (x : List ABlk) : Old H0 (H ++ x):=h.push x
theorem refP_of {s : Bs} {fc : Bool} {t : Bs} (h : dollar s = (fc,t)) : refP s = colP (fc,t):=by unfold refP; rw [h]
theorem colP_cap {fc : Bool} {c : UInt8} {r : Bs} (h : capB c = true) : colP (fc,c :: r) = if zGM (dollar r).2 then some ⟨(c.toNat : Int) - 64,zC2 (dollar r).2,fc,(dollar r).1⟩ else none:=by
  unfold colP
  simp only
  rw [if_pos h,rowP_is]
theorem colP_not {fc : Bool} {c : UInt8} {r : Bs} (h : capB c = false) : colP (fc,c :: r) = none:=by
  unfold colP
  simp only
  rw [h]; rfl
structure RSt where
  k : Nat
  b : Bool
theorem ref_ev (hD : ∀ b t H,H[b]? = some (.box [.str t]) → C zBr [pR b] H (.bool (dollar t).1) (H.set b (.box [.str (dollar t).2]))) (s : Bs) (H : Heap) (hl : s.length ≤ 1000) :
    EFun C GT zGI [.str s] H (refV (refP s)) H:=by
  have hd1:=hD H.length s
  have hd2:=fun t=>hD H.length t
  clear hD
  obtain ⟨⟨fc,t⟩,hds⟩ : ∃ p,dollar s = p:=⟨_,rfl⟩
  rw [hds] at hd1
  simp only at hd1
  rw [refP_of hds]
  refine ze ?_
  cases t with
  | nil=>
    have e : refV (colP (fc,[])) = .tup [rV noRef,zD6 2]:=rfl
    rw [e]
    refine zDm (x:=AV.str s) rfl <| z7 (hd1 _ (zA zD)) (fun h=>by cases h) <| zG (v:=AV.bool fc) [.int .i64 0,.int .i64 0,AV.bool fc,AV.bool false] (zB (by first | assumption | simp | omega) zD) rfl rfl rfl rfl <| zC (AV.str []) (zB (by first | assumption | simp | omega) (zE (zA zD))) rfl ?_
    refine zH <| zH <| zH <| zH <| zH <| zT (v:=[.int .i64 0,.int .i64 0,AV.bool false,AV.bool false]) rfl ?_
    refine zG (v:=AV.agg [.int .i64 0,.int .i64 0,AV.bool false,AV.bool false]) (AV.cells (AV.agg [.int .i64 0,.int .i64 0,AV.bool false,AV.bool false])) (zE (zB (by first | assumption | simp | omega) zD)) rfl rfl rfl rfl ?_
    exact zAD (o:=0) rfl rfl (zQ (zE (zE (zB (by first | assumption | simp | omega) zD)))) rfl rfl rfl rfl ((((((Old.refl _).push _).push _).set (by first | assumption | exact Nat.le_refl _ | simp | omega) _).set (by first | assumption | exact Nat.le_refl _ | simp | omega) _).set (by first | assumption | exact Nat.le_refl _ | simp | omega) _)
  | cons c r=>
    have hc256 : c.toNat < 256:=UInt8.toNat_lt c
    by_cases hcap : capB c = true
    case neg=>
      have hcap:=Bool.eq_false_iff.2 hcap
      rw [colP_not hcap]
      have e : refV none = .tup [rV noRef,zD6 2]:=rfl
      rw [e]
      by_cases h65 : c.toNat < 65
      · refine zDm (x:=AV.str s) rfl <| z7 (hd1 _ (zA zD)) (fun h=>by cases h) <| zG (v:=AV.bool fc) [.int .i64 0,.int .i64 0,AV.bool fc,AV.bool false] (zB (by first | assumption | simp | omega) zD) rfl rfl rfl rfl <| zC (AV.str (c :: r)) (zB (by first | assumption | simp | omega) (zE (zA zD))) rfl <| zF <| zC (AV.str (c :: r)) (zB (by first | assumption | simp | omega) (zE (zA zD))) rfl ?_
        refine zBB (i:=0) rfl rfl <| zF <| za tT <| zH <| zH <| zT (v:=[.int .i64 0,.int .i64 0,AV.bool false,AV.bool false]) rfl ?_
        refine zG (v:=AV.agg [.int .i64 0,.int .i64 0,AV.bool false,AV.bool false]) (AV.cells (AV.agg [.int .i64 0,.int .i64 0,AV.bool false,AV.bool false])) (zE (zB (by first | assumption | simp | omega) zD)) rfl rfl rfl rfl ?_
        exact zAD (o:=0) rfl rfl (zQ (zE (zE (zB (by first | assumption | simp | omega) zD)))) rfl rfl rfl rfl ((((((Old.refl _).push _).push _).set (by first | assumption | exact Nat.le_refl _ | simp | omega) _).set (by first | assumption | exact Nat.le_refl _ | simp | omega) _).set (by first | assumption | exact Nat.le_refl _ | simp | omega) _)
      · have h90 : 90 < c.toNat:=by
          unfold capB at hcap
          rw [Bool.and_eq_false_iff,decide_eq_false_iff_not,decide_eq_false_iff_not] at hcap
          omega
        refine zDm (x:=AV.str s) rfl <| z7 (hd1 _ (zA zD)) (fun h=>by cases h) <| zG (v:=AV.bool fc) [.int .i64 0,.int .i64 0,AV.bool fc,AV.bool false] (zB (by first | assumption | simp | omega) zD) rfl rfl rfl rfl <| zC (AV.str (c :: r)) (zB (by first | assumption | simp | omega) (zE (zA zD))) rfl <| zF <| zC (AV.str (c :: r)) (zB (by first | assumption | simp | omega) (zE (zA zD))) rfl ?_
        refine zBB (i:=0) rfl rfl <| zF <| zV tF <| zC (AV.str (c :: r)) (zB (by first | assumption | simp | omega) (zE (zA zD))) rfl <| zBB (i:=0) rfl rfl ?_
        refine zF <| za tT <| zT (v:=[.int .i64 0,.int .i64 0,AV.bool false,AV.bool false]) rfl <| zG (v:=AV.agg [.int .i64 0,.int .i64 0,AV.bool false,AV.bool false]) (AV.cells (AV.agg [.int .i64 0,.int .i64 0,AV.bool false,AV.bool false])) (zE (zB (by first | assumption | simp | omega) zD)) rfl rfl rfl rfl ?_
        exact zAD (o:=0) rfl rfl (zQ (zE (zE (zB (by first | assumption | simp | omega) zD)))) rfl rfl rfl rfl ((((((Old.refl _).push _).push _).set (by first | assumption | exact Nat.le_refl _ | simp | omega) _).set (by first | assumption | exact Nat.le_refl _ | simp | omega) _).set (by first | assumption | exact Nat.le_refl _ | simp | omega) _)
    case pos=>
      have hcc:=(capB_iff c).1 hcap
      rw [colP_cap hcap]
      obtain ⟨⟨fr,u⟩,hdr⟩ : ∃ p,dollar r = p:=⟨_,rfl⟩
      have hd3:=hd2 r
      rw [hdr] at hd3 ⊢
      simp only at hd3 ⊢
      clear hd2
      obtain ⟨w,hw⟩ : ∃ w,(if zGM u then some (⟨(c.toNat : Int) - 64,zC2 u,fc,fr⟩ : RefP) else none) = w:=⟨_,rfl⟩
      rw [hw]
      refine zDm (x:=AV.str s) rfl <| z7 (hd1 _ hP) (fun h=>by cases h) <| zG (v:=AV.bool fc) [.int .i64 0,.int .i64 0,AV.bool fc,AV.bool false] (zB (by first | assumption | simp | omega) zD) rfl rfl rfl rfl <| zC (AV.str (c :: r)) (zB (by first | assumption | simp | omega) (zE (zA zD))) rfl <| zF <| zC (AV.str (c :: r)) (zB (by first | assumption | simp | omega) (zE (zA zD))) rfl ?_
      refine zBB (i:=0) rfl rfl <| zF <| zV tF <| zC (AV.str (c :: r)) (zB (by first | assumption | simp | omega) (zE (zA zD))) rfl <| zBB (i:=0) rfl rfl ?_
      refine zF <| zV tF <| zC (AV.str (c :: r)) (zB (by first | assumption | simp | omega) (zE (zA zD))) rfl <| zBB (i:=0) rfl rfl <| sVal (r:=(c.toNat : Int) - 65) (by rw [IntKind.wrap_u8]; omega) <| sVal (r:=(c.toNat : Int) - 65) (by rw [IntKind.wrap_i64]; omega) ?_
      refine sVal (r:=(c.toNat : Int) - 64) (by rw [IntKind.wrap_i64]; omega) <| zG (v:=.int .i64 (↑c.toNat - 64)) [.int .i64 (↑c.toNat - 64),.int .i64 0,AV.bool fc,AV.bool false] (zE (zB (by first | assumption | simp | omega) zD)) rfl rfl rfl rfl <| zC (AV.str (c :: r)) (zB (by first | assumption | simp | omega) (zB (by first | assumption | simp | omega) (zE (zA zD)))) rfl <| zT (v:=.str r) (zEi (c :: r) 1 (by simp)) <| zG (v:=AV.str r) [AV.str r] (zB (by first | assumption | simp | omega) (zB (by first | assumption | simp | omega) (zE (zA zD)))) rfl rfl rfl rfl <| z7 (hd3 _ hP) (fun h=>by cases h) ?_
      refine zG (v:=AV.bool fr) [.int .i64 (↑c.toNat - 64),.int .i64 0,AV.bool fc,AV.bool fr] (zB (by first | assumption | simp | omega) (zB (by first | assumption | simp | omega) (zE (zE (zB (by first | assumption | simp | omega) zD))))) rfl rfl rfl rfl <| zC (AV.str u) (zB (by first | assumption | simp | omega) (zE (zE (zB (by first | assumption | simp | omega) (zB (by first | assumption | simp | omega) (zE (zA zD))))))) rfl ?_
      by_cases h0 : u = []
      · subst h0
        rw [if_neg (fun x=>x.1 rfl)] at hw
        subst hw
        have ew : refV none = .tup [rV noRef,zD6 2]:=rfl
        rw [ew]
        refine zH <| zH <| zH <| zH <| zH <| zT (v:=[.int .i64 0,.int .i64 0,AV.bool false,AV.bool false]) rfl ?_
        refine zG (v:=AV.agg [.int .i64 0,.int .i64 0,AV.bool false,AV.bool false]) (AV.cells (AV.agg [.int .i64 0,.int .i64 0,AV.bool false,AV.bool false])) (zE (zB (by first | assumption | simp | omega) (zB (by first | assumption | simp | omega) (zE (zE (zB (by first | assumption | simp | omega) zD)))))) rfl rfl rfl rfl ?_
        exact zAD (o:=0) rfl rfl (zQ (zE (zE (zB (by first | assumption | simp | omega) (zB (by first | assumption | simp | omega) (zE (zE (zB (by first | assumption | simp | omega) zD)))))))) rfl rfl rfl rfl ((((((((((Old.refl _).push _).push _).set (by first | assumption | exact Nat.le_refl _ | simp | omega) _).set (by first | assumption | exact Nat.le_refl _ | simp | omega) _).set (by first | assumption | exact Nat.le_refl _ | simp | omega) _).set (by first | assumption | exact Nat.le_refl _ | simp | omega) _).set (by first | assumption | exact Nat.le_refl _ | simp | omega) _).set (by first | assumption | exact Nat.le_refl _ | simp | omega) _).set (by first | assumption | exact Nat.le_refl _ | simp | omega) _)
      obtain ⟨e,u',hu⟩ : ∃ e u',u = e :: u':=List.exists_cons_of_ne_nil h0
      have he0 : u[0]? = some e:=by rw [hu]; rfl
      by_cases h2' : u.length ≤ 2
      case neg=>
        rw [if_neg (fun x=>h2' x.2.1)] at hw
        subst hw
        have ew : refV none = .tup [rV noRef,zD6 2]:=rfl
        rw [ew]
        refine zV (tN h0) <| zC (AV.str u) (zB (by first | assumption | simp | omega) (zE (zE (zB (by first | assumption | simp | omega) (zB (by first | assumption | simp | omega) (zE (zA zD))))))) rfl <| zF <| za tT <| zH <| zH ?_
        refine zT (v:=[.int .i64 0,.int .i64 0,AV.bool false,AV.bool false]) rfl <| zG (v:=AV.agg [.int .i64 0,.int .i64 0,AV.bool false,AV.bool false]) (AV.cells (AV.agg [.int .i64 0,.int .i64 0,AV.bool false,AV.bool false])) (zE (zB (by first | assumption | simp | omega) (zB (by first | assumption | simp | omega) (zE (zE (zB (by first | assumption | simp | omega) zD)))))) rfl rfl rfl rfl ?_
        exact zAD (o:=0) rfl rfl (zQ (zE (zE (zB (by first | assumption | simp | omega) (zB (by first | assumption | simp | omega) (zE (zE (zB (by first | assumption | simp | omega) zD)))))))) rfl rfl rfl rfl ((((((((((Old.refl _).push _).push _).set (by first | assumption | exact Nat.le_refl _ | simp | omega) _).set (by first | assumption | exact Nat.le_refl _ | simp | omega) _).set (by first | assumption | exact Nat.le_refl _ | simp | omega) _).set (by first | assumption | exact Nat.le_refl _ | simp | omega) _).set (by first | assumption | exact Nat.le_refl _ | simp | omega) _).set (by first | assumption | exact Nat.le_refl _ | simp | omega) _).set (by first | assumption | exact Nat.le_refl _ | simp | omega) _)
      by_cases h48 : e.toNat = 48
      · have he : e = 48:=UInt8.toNat_inj.1 h48
        subst he
        rw [if_neg (fun x=>x.2.2.1 (by rw [hu]; rfl))] at hw
        subst hw
        have ew : refV none = .tup [rV noRef,zD6 2]:=rfl
        rw [ew]
        refine zV (tN h0) <| zC (AV.str u) (zB (by first | assumption | simp | omega) (zE (zE (zB (by first | assumption | simp | omega) (zB (by first | assumption | simp | omega) (zE (zA zD))))))) rfl <| zF <| zV tF <| zC (AV.str u) (zB (by first | assumption | simp | omega) (zE (zE (zB (by first | assumption | simp | omega) (zB (by first | assumption | simp | omega) (zE (zA zD))))))) rfl <| zBB (i:=0) rfl he0 ?_
        refine zF <| za tT <| zT (v:=[.int .i64 0,.int .i64 0,AV.bool false,AV.bool false]) rfl <| zG (v:=AV.agg [.int .i64 0,.int .i64 0,AV.bool false,AV.bool false]) (AV.cells (AV.agg [.int .i64 0,.int .i64 0,AV.bool false,AV.bool false])) (zE (zB (by first | assumption | simp | omega) (zB (by first | assumption | simp | omega) (zE (zE (zB (by first | assumption | simp | omega) zD)))))) rfl rfl rfl rfl ?_
        exact zAD (o:=0) rfl rfl (zQ (zE (zE (zB (by first | assumption | simp | omega) (zB (by first | assumption | simp | omega) (zE (zE (zB (by first | assumption | simp | omega) zD)))))))) rfl rfl rfl rfl ((((((((((Old.refl _).push _).push _).set (by first | assumption | exact Nat.le_refl _ | simp | omega) _).set (by first | assumption | exact Nat.le_refl _ | simp | omega) _).set (by first | assumption | exact Nat.le_refl _ | simp | omega) _).set (by first | assumption | exact Nat.le_refl _ | simp | omega) _).set (by first | assumption | exact Nat.le_refl _ | simp | omega) _).set (by first | assumption | exact Nat.le_refl _ | simp | omega) _).set (by first | assumption | exact Nat.le_refl _ | simp | omega) _)
      refine zV (tN h0) <| zC (AV.str u) (zB (by first | assumption | simp | omega) (zE (zE (zB (by first | assumption | simp | omega) (zB (by first | assumption | simp | omega) (zE (zA zD))))))) rfl <| zF <| zV tF <| zC (AV.str u) (zB (by first | assumption | simp | omega) (zE (zE (zB (by first | assumption | simp | omega) (zB (by first | assumption | simp | omega) (zE (zA zD))))))) rfl <| zBB (i:=0) rfl he0 ?_
      refine zF <| zV tF <| zC (AV.str u) (zB (by first | assumption | simp | omega) (zE (zE (zB (by first | assumption | simp | omega) (zB (by first | assumption | simp | omega) (zE (zA zD))))))) rfl ?_
      refine sGenA (fun H'=>Old H H' ∧ H'[(H ++ [ABlk.box [AV.str s]]).length]? = some (.box [.int .i64 ((c.toNat : Int) - 64),.int .i64 0,.bool fc,.bool fr])) ⟨?_,hP⟩ (fun H2 ⟨ho,hb2⟩=>?_)
      · have hp:=((Old.refl H).push [ABlk.box [AV.str s]]).push [ABlk.box [AV.int .i64 0,AV.int .i64 0,AV.bool false,AV.bool false]]
        have h1 : H.length ≤ H.length:=Nat.le_refl _
        have h2 : H.length ≤ (H ++ [ABlk.box [AV.str s]]).length:=by simp
        exact (((((hp.set h1 _).set h2 _).set h2 _).set h1 _).set h1 _).set h2 _
      have h2 : H.length ≤ (H ++ [ABlk.box [AV.str s]]).length:=by simp
      refine sStrB tO <| zEY ?_
      refine zCI (fun k : Nat=>[(2,pR (H ++ [ABlk.box [AV.str s]]).length),(54,zP k),(52,.sl (some false) H2.length 1 0 u.length),(53,zP u.length)])
        (fun k H'=>Old H H' ∧ H'[(H ++ [ABlk.box [AV.str s]]).length]? = some (.box [.int .i64 ((c.toNat : Int) - 64),zP (zC2 (u.take k)),.bool fc,.bool fr]) ∧ H'[H2.length]? = some (.row 1 (u.map zAS)) ∧ k ≤ u.length ∧ (u.take k).all digB = true)
        (fun k=>u.length - k) 0 rfl ⟨ho.push _,zA hb2,zD,Nat.zero_le _,rfl⟩ (fun k H1 ⟨ho1,hb1,hr1,hk,hall⟩=>?_)
      have hbl : (H ++ [ABlk.box [AV.str s]]).length < H2.length:=(zg hb2).1
      by_cases hlt : k < u.length
      · obtain ⟨x,hx⟩ : ∃ x,u[k]? = some x:=⟨_,List.getElem?_eq_getElem hlt⟩
        have hx256 : x.toNat < 256:=UInt8.toNat_lt x
        have hxm : (u.map zAS)[k]? = some (byV x):=by rw [List.getElem?_map,hx]; rfl
        have etk : u.take (k + 1) = u.take k ++ [x]:=by
          obtain ⟨q1,q2⟩:=zg hx
          rw [List.take_succ_eq_append_getElem q1,q2]
        by_cases hd : digB x = true
        · have hdd:=(zHD x).1 hd
          have hv:=decV_lt _ hall
          have hpw : 10 ^ (u.take k).length ≤ 10 ^ 2:=Nat.pow_le_pow_right tO (by rw [List.length_take]; omega)
          have e2 : (10 : Nat) ^ 2 = 100:=rfl
          refine za tT <| sAt ⟨by omega,by omega⟩ <| zAs k (byV x) (byV x) tO hr1 hxm rfl <| zV tF <| zF <| zV tF ?_
          refine zC (zP (zC2 (List.take k u))) hb1 rfl <| zb (r:=zC2 (u.take k) * 10) tO tO <| sVal (r:=(x.toNat : Int) - 48) (by rw [IntKind.wrap_u8]; omega) <| sVal (r:=(x.toNat : Int) - 48) (by rw [IntKind.wrap_i64]; omega) <| zb (r:=zC2 (u.take k) * 10 + (x.toNat - 48)) tO tO <| zG (v:=.int .i64 ↑(zC2 (List.take k u) * 10 + (x.toNat - 48))) [.int .i64 (↑c.toNat - 64),.int .i64 ↑(zC2 (List.take k u) * 10 + (x.toNat - 48)),AV.bool fc,AV.bool fr] hb1 rfl rfl rfl rfl ?_
          refine zb (r:=k + 1) rfl tO ?_
          refine zAf (k + 1) rfl ⟨ho1.set h2 _, ?_,zB tO hr1,by omega, ?_⟩ tO
          · rw [etk,decV_snoc]; exact zE hb1
          · rw [etk,List.all_append,hall]; simp [hd]
        · have hd:=Bool.eq_false_iff.2 hd
          rw [if_neg (fun y=>by
            have:=List.all_eq_true.1 y.2.2.2 x (List.mem_of_getElem? hx)
            rw [hd] at this; cases this)] at hw
          subst hw
          have ew : refV none = .tup [rV noRef,zD6 2]:=rfl
          rw [ew]
          by_cases h48' : x.toNat < 48
          · refine za tT <| sAt ⟨by omega,by omega⟩ <| zAs k (byV x) (byV x) tO hr1 hxm rfl <| za tT <| zH <| zH ?_
            refine zT (v:=[.int .i64 0,.int .i64 0,AV.bool false,AV.bool false]) rfl <| zG (v:=AV.agg [.int .i64 0,.int .i64 0,AV.bool false,AV.bool false]) (AV.cells (AV.agg [.int .i64 0,.int .i64 0,AV.bool false,AV.bool false])) hb1 rfl rfl rfl rfl ?_
            exact zAD (v:=rV noRef) (v1:=zD6 2) (o:=0) rfl rfl (zQ (zE hb1)) rfl rfl rfl rfl (ho1.set h2 _)
          · have : 57 < x.toNat:=by
              unfold digB at hd
              rw [Bool.and_eq_false_iff,decide_eq_false_iff_not,decide_eq_false_iff_not] at hd
              omega
            refine za tT <| sAt ⟨by omega,by omega⟩ <| zAs k (byV x) (byV x) tO hr1 hxm rfl <| zV tF <| zF <| za tT ?_
            refine zT (v:=[.int .i64 0,.int .i64 0,AV.bool false,AV.bool false]) rfl <| zG (v:=AV.agg [.int .i64 0,.int .i64 0,AV.bool false,AV.bool false]) (AV.cells (AV.agg [.int .i64 0,.int .i64 0,AV.bool false,AV.bool false])) hb1 rfl rfl rfl rfl ?_
            exact zAD (v:=rV noRef) (v1:=zD6 2) (o:=0) rfl rfl (zQ (zE hb1)) rfl rfl rfl rfl (ho1.set h2 _)
      · have ek : k = u.length:=by omega
        subst ek
        rw [List.take_length] at hall hb1
        rw [if_pos ⟨h0,h2',fun y=>h48 (by rw [hu] at y; rw [Option.some.inj y]; rfl),hall⟩] at hw
        subst hw
        have ew : refV (some ⟨(c.toNat : Int) - 64,zC2 u,fc,fr⟩) = .tup [.agg [.int .i64 ((c.toNat : Int) - 64),zP (zC2 u),.bool fc,.bool fr],.nili]:=rfl
        rw [ew]
        refine zV tF <| zC (AV.agg [.int .i64 (↑c.toNat - 64),zP (zC2 u),AV.bool fc,AV.bool fr]) hb1 rfl <| zG (v:=AV.agg [.int .i64 (↑c.toNat - 64),zP (zC2 u),AV.bool fc,AV.bool fr]) (AV.cells (AV.agg [.int .i64 (↑c.toNat - 64),zP (zC2 u),AV.bool fc,AV.bool fr])) hb1 rfl rfl rfl rfl ?_
        exact zAD (v:=.agg [.int .i64 ((c.toNat : Int) - 64),zP (zC2 u),.bool fc,.bool fr]) (v1:=.nili) (o:=0) rfl rfl (zQ (zE hb1)) rfl rfl rfl rfl (ho1.set h2 _)
end
end Go.AM
set_option maxRecDepth 20000
namespace Go.AM
def CR (C : CSpec) (f : Nat) (args : List AV) (H : Heap) (b : Nat) (s : Bs) (d : Nat) (r : Option (Nd × Nat)) : Prop:=
  (∀ n e,r = some (n,e) → C f args H (ndV n) (H.set b (rdB s e d))) ∧ (r = none → C f (.pan .undef :: args) H zC3 (H.set b (.box (wkC s))))
def mkR (s : Bs) (d : Nat) (r : Option (Nd × Nat)) : Option (AV × ABlk):=r.map fun p=>(ndV p.1,rdB s p.2 d)
def Off (H : Heap) (b : Nat) (H' : Heap) : Prop:=∀ c x,H[c]? = some x → c ≠ b → H'[c]? = some x
def nodeW (k num : Int) (t : Bs) (x : AV) : AV:=.agg [.int .i64 k,.int .i64 num,.str t,.int .i64 0,.int .i64 0,.bool false,.bool false,.int .i64 0,.int .i64 0,.bool false,.bool false,x]
theorem frz_node {n0 nb m : Nat} {k num : Int} {t : Bs} {xs : List AV} {H : Heap} (h : H[nb]? = some (.row 12 xs)) (hn : n0 ≤ nb) (hm : xs.length = m) :
    zB0 n0 (nodeW k num t (.sl (some false) nb 12 0 m)) H = some (nodeW k num t (.lst (some false) 12 xs),H.set nb (.frz 12 xs)):=by
  subst hm
  have : ¬ nb < n0:=by omega
  simp only [nodeW,zB0,zGR,this,if_false,h]
  simp [frzQ]
section
variable {C : CSpec} {GT : Nat → Option AV}
theorem opOf_ev (t : Bs) (H : Heap) (h : zBz t ≠ 0) : EFun C GT zDB [.str t] H (zP (zBz t)) H:=by
  refine ze ?_
  by_cases h1 : t = [61]
  · subst h1
    refine zH ?_
    exact sRr
  by_cases h2 : t = [60,62]
  · subst h2
    refine zF <| zH ?_
    exact sRr
  by_cases h3 : t = [60]
  · subst h3
    refine zF <| zF <| zH ?_
    exact sRr
  by_cases h4 : t = [60,61]
  · subst h4
    refine zF <| zF <| zF <| zH ?_
    exact sRr
  by_cases h5 : t = [62]
  · subst h5
    refine zF <| zF <| zF <| zF <| zH ?_
    exact sRr
  by_cases h6 : t = [62,61]
  · subst h6
    refine zF <| zF <| zF <| zF <| zF <| zH ?_
    exact sRr
  by_cases h7 : t = [38]
  · subst h7
    refine zF <| zF <| zF <| zF <| zF <| zF <| zH ?_
    exact sRr
  by_cases h8 : t = [43]
  · subst h8
    refine zF <| zF <| zF <| zF <| zF <| zF <| zF <| zH ?_
    exact sRr
  by_cases h9 : t = [45]
  · subst h9
    refine zF <| zF <| zF <| zF <| zF <| zF <| zF <| zF ?_
    refine zH ?_
    exact sRr
  by_cases h10 : t = [42]
  · subst h10
    refine zF <| zF <| zF <| zF <| zF <| zF <| zF <| zF ?_
    refine zF <| zH ?_
    exact sRr
  by_cases h11 : t = [47]
  · subst h11
    refine zF <| zF <| zF <| zF <| zF <| zF <| zF <| zF ?_
    refine zF <| zF ?_
    exact sRr
  · exact absurd (by unfold zBz; simp only [h1,h2,h3,h4,h5,h6,h7,h8,h9,h10,h11,if_false]) h
theorem want_ev (hB : ∀ b s p d H,H[b]? = some (rdB s p d) → p ≤ s.length → s.length ≤ 200 → C zL [pR b] H (.tup []) (H.set b (rdB s (skip s p) d)))
    (hF : ∀ b s p d a e H,H[b]? = some (rdB s p d) → C zK (.pan .undef :: [pR b,.int .i64 a,zD6 e]) H zC3 (H.set b (.box (wkC s))))
    (c : UInt8) (b : Nat) (s : Bs) (p d : Nat) (H : Heap) (hb : H[b]? = some (rdB s p d)) (hp : p ≤ s.length) (hl : s.length ≤ 200) :
    zCL C GT zBE [pR b,byV c] H b (wkC s) zC3 (if s[skip s p]? = some c then some (.tup [],rdB s (skip s p + 1) d) else none):=by
  have hbl:=hB b s p d H hb hp hl
  have hq:=zA1 hp
  generalize skip s p = q at *
  have hf:=hF b s q d q 2 (H.set b (rdB s q d)) (zE hb)
  clear hB hF
  refine zx ?_
  by_cases hlt : q < s.length
  · obtain ⟨x,hx⟩ : ∃ x,s[q]? = some x:=⟨_,List.getElem?_eq_getElem hlt⟩
    by_cases h : x = c
    · subst h
      rw [if_pos hx]
      refine z7 hbl (fun h=>by cases h) <| zC (zP q) (zE hb) rfl <| zC (AV.str s) (zE hb) rfl <| zV tN <| zC (AV.str s) (zE hb) rfl <| zC (zP q) (zE hb) rfl ?_
      refine zBB rfl hx <| zF <| zV (bne_eq_false_iff_eq.2 rfl) <| zC (zP q) (zE hb) rfl <| zb (r:=q + 1) rfl tO <| zG (v:=.int .i64 ↑(q + 1)) [AV.str s,.int .i64 ↑(q + 1),zP d] (zE hb) rfl rfl rfl rfl ?_
      exact sRetO _ (by first | rfl | assumption) rfl rfl rfl rfl (((OldB.start hb).setB _).setB _) rfl
    · rw [if_neg (by rw [hx]; exact fun e=>h (Option.some.inj e))]
      have hn : x.toNat ≠ c.toNat:=fun e=>h (UInt8.toNat_inj.1 e)
      refine z7 hbl (fun h=>by cases h) <| zC (zP q) (zE hb) rfl <| zC (AV.str s) (zE hb) rfl <| zV tN <| zC (AV.str s) (zE hb) rfl <| zC (zP q) (zE hb) rfl ?_
      refine zBB rfl hx <| zF <| za (bne_iff_ne.2 tO) <| zC (zP q) (zE hb) rfl <| zy hf ?_
      exact zA3 (by first | rfl | assumption) rfl rfl rfl (((OldB.start hb).setB _).setB _) rfl (by first | exact WkL.refl _ | exact zDj _ _ _) (by first | exact Wk.refl _ | exact zA4 _ _)
  · rw [if_neg (by rw [List.getElem?_eq_none tO]; simp)]
    refine z7 hbl (fun h=>by cases h) <| zC (zP q) (zE hb) rfl <| zC (AV.str s) (zE hb) rfl <| za tE <| zH <| zH ?_
    refine zC (zP q) (zE hb) rfl <| zy hf ?_
    exact zA3 (by first | rfl | assumption) rfl rfl rfl (((OldB.start hb).setB _).setB _) rfl (by first | exact WkL.refl _ | exact zDj _ _ _) (by first | exact Wk.refl _ | exact zA4 _ _)
theorem within_ev (hF : ∀ b s p d a e H,H[b]? = some (rdB s p d) → C zK (.pan .undef :: [pR b,.int .i64 a,zD6 e]) H zC3 (H.set b (.box (wkC s))))
    (f : Nat) (caps : List AV) (a : Int) (b : Nat) (s : Bs) (p d : Nat) (H : Heap) (hb : H[b]? = some (rdB s p d)) (hd : d ≤ 1000) (r : Option (Nd × Nat))
    (hC : ∀ H',H'[b]? = some (rdB s p (d + 1)) → Off H b H' → CR C f caps H' b s (d + 1) r) :
    zCL C GT zAx [pR b,.int .i64 a,.fn f [] caps] H b (wkC s) zC3 (mkR s d (if d = 30 then none else r)):=by
  have hbl : b < H.length:=(zg hb).1
  refine zx ?_
  by_cases h30 : d = 30
  · rw [if_pos h30]
    have e : mkR s d none = none:=rfl
    rw [e]
    have hf:=hF b s p d a 4
    clear hF hC
    refine zC (zP d) (zA hb) rfl <| za tE <| zy (hf _ hP) ?_
    exact zA3 (by first | rfl | assumption) rfl rfl rfl (((OldB.start hb).push _).setB _) rfl (by first | exact WkL.refl _ | exact zDj _ _ _) (by first | exact Wk.refl _ | exact zA4 _ _)
  · rw [if_neg h30]
    have hoff : ∀ X Y,Off H b ((H ++ [X]).set b Y):=fun X Y c x hc hn=>zB (Ne.symm hn) (zA hc)
    cases r with
    | none=>
      have e : mkR s d none = none:=rfl
      rw [e]
      have hc:=fun H' h1 h2=>(hC H' h1 h2).2 rfl
      clear hF hC
      refine zC (zP d) (zA hb) rfl <| zV tN <| zC (zP d) (zA hb) rfl <| zb (r:=d + 1) rfl tO <| zG (v:=.int .i64 ↑(d + 1)) [AV.str s,zP p,.int .i64 ↑(d + 1)] (zA hb) rfl rfl rfl rfl <| zy (hc _ (zE (zA hb)) (hoff _ _)) ?_
      exact zA3 (by first | rfl | assumption) rfl rfl rfl ((((OldB.start hb).push _).setB _).setB _) rfl (by first | exact WkL.refl _ | exact zDj _ _ _) (by first | exact Wk.refl _ | exact zA4 _ _)
    | some p'=>
      obtain ⟨n,e⟩:=p'
      have e0 : mkR s d (some (n,e)) = some (ndV n,rdB s e d):=rfl
      rw [e0]
      have hc:=fun H' h1 h2=>(hC H' h1 h2).1 n e rfl
      clear hF hC
      refine zC (zP d) (zA hb) rfl <| zV tN <| zC (zP d) (zA hb) rfl <| zb (r:=d + 1) rfl tO <| zG (v:=.int .i64 ↑(d + 1)) [AV.str s,zP p,.int .i64 ↑(d + 1)] (zA hb) rfl rfl rfl rfl <| zAr (hc _ (zE (zA hb)) (hoff _ _)) ?_
      refine zG (v:=ndV n) (AV.cells (ndV n)) zD rfl rfl rfl rfl <| zC (zP (d + 1)) (zB tA (zA (zE (zE (zA hb))))) rfl <| zb (r:=d) tO tO <| zG (v:=.int .i64 ↑d) [AV.str s,zP e,.int .i64 ↑d] (zB tA (zA (zE (zE (zA hb))))) rfl rfl rfl rfl <| zC (ndV n) (zB tA (zE zD)) rfl <| zG (v:=ndV n) (AV.cells (ndV n)) (zB tA (zB tA (zA (zB tA (zB tA zD))))) rfl rfl rfl rfl ?_
      exact zA2 (o:=0) (ndV n) (by first | rfl | assumption) rfl rfl (zQ (zE (zB tA (zB tA (zA (zB tA (zB tA zD))))))) rfl rfl rfl ((((((((OldB.start hb).push _).setB _).setB _).push _).set tA _).setB _).set tA _) rfl
theorem negc_ev (b rb : Nat) (s : Bs) (p d : Nat) (H : Heap) (hb : H[b]? = some (rdB s p d)) (hr : H[rb]? = some (.box [pR b])) (hp : p < s.length) (hl : s.length ≤ 200)
    (hN : ∀ H',H'[b]? = some (rdB s (p + 1) d) → CR C zh [pR b] H' b s d ((P s).one (p + 1) d)) :
    zCL C GT zAy [pR rb] H b (wkC s) zC3 (mkR s d (((P s).one (p + 1) d).map fun q=>(negN q.1,q.2))):=by
  have hbl : b < H.length:=(zg hb).1
  have hne : rb ≠ b:=fun e=>by rw [e,hb] at hr; cases hr
  generalize (P s).one (p + 1) d = r at *
  refine zx ?_
  cases r with
  | none=>
    have hc:=fun H' h1=>(hN H' h1).2 rfl
    clear hN
    have e : mkR s d (Option.map (fun q : Nd × Nat=>(negN q.1,q.2)) none) = none:=rfl
    rw [e]
    refine zC (pR b) (zA hr) rfl <| zC (zP p) (zA hb) rfl <| zb (r:=p + 1) rfl tO <| zG (v:=.int .i64 ↑(p + 1)) [AV.str s,.int .i64 ↑(p + 1),zP d] (zA hb) rfl rfl rfl rfl <| zC (pR b) (zB tA (zA hr)) rfl <| zy (hc _ (zE (zA hb))) ?_
    exact zA3 (by first | rfl | assumption) rfl rfl rfl ((((OldB.start hb).push _).setB _).setB _) rfl (by first | exact WkL.refl _ | exact zDj _ _ _) (by first | exact Wk.refl _ | exact zA4 _ _)
  | some p'=>
    obtain ⟨n,e⟩:=p'
    have hc:=fun H' h1=>(hN H' h1).1 n e rfl
    clear hN
    have e0 : mkR s d (Option.map (fun q : Nd × Nat=>(negN q.1,q.2)) (some (n,e))) = some (ndV (negN n),rdB s e d):=rfl
    rw [e0]
    refine zC (pR b) (zA hr) rfl <| zC (zP p) (zA hb) rfl <| zb (r:=p + 1) rfl tO <| zG (v:=.int .i64 ↑(p + 1)) [AV.str s,.int .i64 ↑(p + 1),zP d] (zA hb) rfl rfl rfl rfl <| zC (pR b) (zB tA (zA hr)) rfl <| zAr (hc _ (zE (zA hb))) ?_
    refine zAv (vs':=[ndV n]) rfl rfl <| zT (v:=[.int .i64 7,.int .i64 0,AV.str [],.int .i64 0,.int .i64 0,AV.bool false,AV.bool false,.int .i64 0,.int .i64 0,AV.bool false,AV.bool false,AV.sl (some false) ((List.set (H ++ [ABlk.box [.int .i64 0,.int .i64 0,AV.str [],.int .i64 0,.int .i64 0,AV.bool false,AV.bool false,.int .i64 0,.int .i64 0,AV.bool false,AV.bool false,AV.lst (some true) 0 []]]) b (ABlk.box [AV.str s,.int .i64 ↑(p + 1),zP d])).set b (rdB s e d)).length 12 0 [ndV n].length]) rfl <| zG (v:=AV.agg [.int .i64 7,.int .i64 0,AV.str [],.int .i64 0,.int .i64 0,AV.bool false,AV.bool false,.int .i64 0,.int .i64 0,AV.bool false,AV.bool false,AV.sl (some false) ((List.set (H ++ [ABlk.box [.int .i64 0,.int .i64 0,AV.str [],.int .i64 0,.int .i64 0,AV.bool false,AV.bool false,.int .i64 0,.int .i64 0,AV.bool false,AV.bool false,AV.lst (some true) 0 []]]) b (ABlk.box [AV.str s,.int .i64 ↑(p + 1),zP d])).set b (rdB s e d)).length 12 0 [ndV n].length]) (AV.cells (AV.agg [.int .i64 7,.int .i64 0,AV.str [],.int .i64 0,.int .i64 0,AV.bool false,AV.bool false,.int .i64 0,.int .i64 0,AV.bool false,AV.bool false,AV.sl (some false) ((List.set (H ++ [ABlk.box [.int .i64 0,.int .i64 0,AV.str [],.int .i64 0,.int .i64 0,AV.bool false,AV.bool false,.int .i64 0,.int .i64 0,AV.bool false,AV.bool false,AV.lst (some true) 0 []]]) b (ABlk.box [AV.str s,.int .i64 ↑(p + 1),zP d])).set b (rdB s e d)).length 12 0 [ndV n].length])) (zA (zB tA (zB tA zD))) rfl rfl rfl rfl ?_
    exact zA2 (o:=0) (nodeW 7 0 [] (.sl (some false) (((H ++ [ABlk.box (ndC zo)]).set b (rdB s (p + 1) d)).set b (rdB s e d)).length 12 0 1)) rfl rfl rfl (zQ hP) rfl (frz_node (xs:=[ndV n]) hP tC rfl) rfl (by (repeat' (first | exact OldB.start (by assumption) | apply OldB.push | apply OldB.setB | refine OldB.set ?_ tC _)); done) rfl
end
end Go.AM
