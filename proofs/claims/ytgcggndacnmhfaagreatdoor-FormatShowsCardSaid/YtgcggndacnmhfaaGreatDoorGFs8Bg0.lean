/- Several texts of mine in one (Fs8, Fs9, Fs5, Fs6, Bg0). Own work. -/
import Derived.Test.YtgcggndacnmhfaaGreatDoorGFs0Fs4
import Derived.Test.YtgcggndacnmhfaaGreatDoorGAm23Bc
import Derived.Test.YtgcggndacnmhfaaGreatDoorGAm22Am30
set_option linter.all false
set_option maxRecDepth 20000
namespace Go.AM
def isV (k n : Int) (t : Bs1) : Bool:=if k = 0 then decide (n = 0 ∧ t = []) else if k = 1 then decide (t = []) else if k = 2 then decide (n = 0 ∧ t.length ≤ 200) else if k = 3 then decide (t = [] ∧ (n = 0 ∨ n = 1)) else if k = 4 then decide (t = [] ∧ 1 ≤ n ∧ n ≤ 6) else false
section
variable {C : CSpec} {GT : Nat → Option AV}
set_option maxHeartbeats 8000000 in
theorem zMc (k n : Int) (t s : Bs1) (hI : ∀ H,C zAM [zBW k n t] H (.bool false) H) (H : Heap) : EFun C GT zz [zBW k n t,.str s] H (.bool true) H:=by
  refine zS ?_
  refine zJy (x:=zBW k n t) rfl <| zA (zBW k n t) zB rfl <| zK (hI _) <| zE ?_
  exact zAS rfl rfl rfl rfl ((Old.refl _).push _)
set_option maxHeartbeats 8000000 in
theorem zMd (k n : Int) (t s : Bs1) (g : FormP) (hI : ∀ H,C zAM [zBW k n t] H (.bool true) H) (hC : ∀ H,C zAY [.str s] H (.tup [zC g,.bool false]) H) (hK : ∀ H,C zAZ [.str s] H (zIx 2) H)
    (hS : ∀ H,C zAT [zBW k n t,.str s] H (.tup [.str [],zIx 2]) H) (hE : ∀ H,C zw [zIx 2,zu 2] H (.bool true) H) (H : Heap) : EFun C GT zz [zBW k n t,.str s] H (.bool true) H:=by
  refine zS ?_
  refine zJy (x:=zBW k n t) rfl <| zA (zBW k n t) zB rfl <| zK (hI _) <| zD <| zK (hC _) <| za rfl ?_
  refine za rfl <| zJ (v:=zC g) (zC g).cells zB rfl rfl rfl rfl <| zD <| zK (hK _) <| zK (hE _) <| zA (zBW k n t) (zI tA (zT zB)) rfl ?_
  refine zK (hS _) <| za rfl <| za rfl <| zK (hE _) ?_
  refine zE <| zE <| zE <| zE ?_
  exact zAS rfl rfl rfl rfl ((((Old.refl _).push _).push _).set tA _)
set_option maxHeartbeats 8000000 in
theorem zLT (k n : Int) (t s u w : Bs1) (f : FormP) (hI : ∀ H,C zAM [zBW k n t] H (.bool true) H) (hC : ∀ H,C zAY [.str s] H (.tup [zC f,.bool true]) H) (hK : ∀ H,C zAZ [.str s] H .nili H)
    (hR : ∀ H,C zAy [zBW k n t] H (.str u) H) (hM : k = 1 → ∀ H,C zAz [.int .i64 n,zC f] H (.str w) H) (hw : k ≠ 1 → w = u)
    (hS : ∀ H,C zAT [zBW k n t,.str s] H (.tup [.str w,.nili]) H) (hE : ∀ H,C zw [.nili,zu 0] H (.bool true) H) (H : Heap) : EFun C GT zz [zBW k n t,.str s] H (.bool true) H:=by
  have hww : (w == w) = true:=beq_self_eq_true w
  have hfb : ∀ H1 : Heap,((H1 ++ [ABlk.box [.str [],.str [],.bool false,.int .i64 0,.int .i64 0]]).set H1.length (.box (zC f).cells))[H1.length]? = some (.box (zC f).cells):=fun H1=>zH zB
  refine zS ?_
  refine zJy (x:=zBW k n t) rfl ?_
  by_cases hk : k = 1
  · have hM:=hM hk
    clear hw
    have hk1 : (k == 1) = true:=tE hk
    refine zA (zBW k n t) zB rfl <| zK (hI _) <| zD <| zK (hC _) <| za rfl <| za rfl ?_
    refine zJ (v:=zC f) (zC f).cells zB rfl rfl rfl rfl <| zE <| zA (zBW k n t) (zI tA (zT zB)) rfl <| zK (hR _) <| zA (.int .i64 k) (zI tA (zT zB)) rfl <| zq hk1 ?_
    refine zA (.int .i64 n) (zI tA (zT zB)) rfl <| zA (zC f) (hfb _) rfl <| zK (hM _) <| zK (hK _) <| zK (hE _) <| zA (zBW k n t) (zI tA (zT zB)) rfl ?_
    refine zK (hS _) <| za rfl <| za rfl <| zK (hE _) ?_
    refine zE <| zE <| zE <| zE ?_
    all_goals exact zDk (v0:=.bool (w == w)) (by rw [hww]) rfl rfl rfl rfl (by repeat' (first | exact Old.refl _ | refine Old.set ?_ tC _ | apply Old.push))
  · obtain rfl:=hw hk
    clear hM
    have hk1 : (k == 1) = false:=tN hk
    refine zA (zBW k n t) zB rfl <| zK (hI _) <| zD <| zK (hC _) <| za rfl <| za rfl ?_
    refine zJ (v:=zC f) (zC f).cells zB rfl rfl rfl rfl <| zE <| zA (zBW k n t) (zI tA (zT zB)) rfl <| zK (hR _) <| zA (.int .i64 k) (zI tA (zT zB)) rfl <| zU hk1 ?_
    refine zK (hK _) <| zK (hE _) <| zA (zBW k n t) (zI tA (zT zB)) rfl <| zK (hS _) <| za rfl <| za rfl ?_
    refine zK (hE _) <| zE <| zE <| zE <| zE ?_
    all_goals exact zDk (v0:=.bool (w == w)) (by rw [hww]) rfl rfl rfl rfl (by repeat' (first | exact Old.refl _ | refine Old.set ?_ tC _ | apply Old.push))
end
end Go.AM
set_option maxRecDepth 20000
namespace Go.AM
section
variable {C : CSpec} {GT : Nat → Option AV}
set_option maxHeartbeats 8000000 in
theorem is_ev (k n : Int) (t : Bs1) (H : Heap) : EFun C GT zDw [zBW k n t] H (.bool (isV k n t)) H:=by
  have tt : (t == ([] : Bs1)) = decide (t = []):=by cases t <;> rfl
  unfold isV
  refine zS ?_
  refine zJy (x:=zBW k n t) rfl ?_
  by_cases k0 : k = 0
  · subst k0
    rw [if_pos rfl]
    by_cases h1 : n = 0
    · refine zA (.int .i64 0) zB rfl <| zq tT <| zA (.int .i64 n) zB rfl <| zq tT <| zA (AV.str t) zB rfl <| zE ?_
      all_goals exact zDk (v0:=.bool (t == [])) (by rw [tt]; simp [h1]) rfl rfl rfl rfl ((Old.refl _).push _)
    · rw [decide_eq_false fun h=>h1 h.1]
      refine zA (.int .i64 0) zB rfl <| zq tT <| zA (.int .i64 n) zB rfl <| zU tF <| zD ?_
      exact zAS rfl rfl rfl rfl ((Old.refl _).push _)
      all_goals exact zDk (v0:=.bool (n == 0)) (by rw [tN h1]) rfl rfl rfl rfl ((Old.refl _).push _)
  rw [if_neg k0]
  by_cases k1 : k = 1
  · subst k1
    rw [if_pos rfl]
    refine zA (.int .i64 1) zB rfl <| zU tF <| zq tT <| zA (AV.str t) zB rfl ?_
    all_goals exact zDk (v0:=.bool (t == [])) (by rw [tt]) rfl rfl rfl rfl ((Old.refl _).push _)
  rw [if_neg k1]
  by_cases k2 : k = 2
  · subst k2
    rw [if_pos rfl]
    by_cases h1 : n = 0
    · by_cases h2 : t.length ≤ 200
      · rw [decide_eq_true ⟨h1,h2⟩]
        refine zA (.int .i64 2) zB rfl <| zU tF <| zU tF <| zq tT <| zA (.int .i64 n) zB rfl <| zq tT ?_
        refine zA (AV.str t) zB rfl <| zE ?_
        all_goals exact zDk (v0:=.bool (decide ((t.length : Int) ≤ 200))) (by rw [tT]) rfl rfl rfl rfl ((Old.refl _).push _)
      · rw [decide_eq_false fun h=>h2 h.2]
        refine zA (.int .i64 2) zB rfl <| zU tF <| zU tF <| zq tT <| zA (.int .i64 n) zB rfl <| zq tT ?_
        refine zA (AV.str t) zB rfl <| zE ?_
        all_goals exact zDk (v0:=.bool (decide ((t.length : Int) ≤ 200))) (by rw [tF]) rfl rfl rfl rfl ((Old.refl _).push _)
    · rw [decide_eq_false fun h=>h1 h.1]
      refine zA (.int .i64 2) zB rfl <| zU tF <| zU tF <| zq tT <| zA (.int .i64 n) zB rfl ?_
      refine zU tF <| zD ?_
      exact zAS rfl rfl rfl rfl ((Old.refl _).push _)
  rw [if_neg k2]
  by_cases k3 : k = 3
  · subst k3
    rw [if_pos rfl]
    by_cases h1 : t = []
    · have ht : (t == ([] : Bs1)) = true:=by rw [h1]; rfl
      by_cases h2 : n = 0
      · rw [decide_eq_true ⟨h1,.inl h2⟩]
        refine zA (.int .i64 3) zB rfl <| zU tF <| zU tF <| zU tF <| zq tT <| zA (AV.str t) zB rfl ?_
        refine zq ht <| zA (.int .i64 n) zB rfl <| zq tT <| zE <| zE ?_
        exact zAS rfl rfl rfl rfl ((Old.refl _).push _)
      · by_cases h3 : n = 1
        · rw [decide_eq_true ⟨h1,.inr h3⟩]
          refine zA (.int .i64 3) zB rfl <| zU tF <| zU tF <| zU tF <| zq tT <| zA (AV.str t) zB rfl ?_
          refine zq ht <| zA (.int .i64 n) zB rfl <| zU tF <| zA (.int .i64 n) zB rfl <| zD <| zE ?_
          all_goals exact zDk (v0:=.bool (n == 1)) (by rw [tE h3]) rfl rfl rfl rfl ((Old.refl _).push _)
        · rw [decide_eq_false fun h=>h.2.elim h2 h3]
          refine zA (.int .i64 3) zB rfl <| zU tF <| zU tF <| zU tF <| zq tT <| zA (AV.str t) zB rfl ?_
          refine zq ht <| zA (.int .i64 n) zB rfl <| zU tF <| zA (.int .i64 n) zB rfl <| zD <| zE ?_
          all_goals exact zDk (v0:=.bool (n == 1)) (by rw [tN h3]) rfl rfl rfl rfl ((Old.refl _).push _)
    · have ht : (t == ([] : Bs1)) = false:=tN h1
      rw [decide_eq_false fun h=>h1 h.1]
      refine zA (.int .i64 3) zB rfl <| zU tF <| zU tF <| zU tF <| zq tT <| zA (AV.str t) zB rfl ?_
      refine zU ht <| zD ?_
      exact zAS rfl rfl rfl rfl ((Old.refl _).push _)
  rw [if_neg k3]
  by_cases k4 : k = 4
  · subst k4
    rw [if_pos rfl]
    by_cases h1 : t = []
    · have ht : (t == ([] : Bs1)) = true:=by rw [h1]; rfl
      by_cases h2 : 1 ≤ n
      · by_cases h3 : n ≤ 6
        · rw [decide_eq_true ⟨h1,h2,h3⟩]
          refine zA (.int .i64 4) zB rfl <| zU tF <| zU tF <| zU tF <| zU tF <| zq tT ?_
          refine zA (AV.str t) zB rfl <| zq ht <| zA (.int .i64 n) zB rfl <| zE <| zq tT <| zA (.int .i64 n) zB rfl ?_
          refine zE ?_
          all_goals exact zDk (v0:=.bool (decide (n ≤ 6))) (by rw [decide_eq_true h3]) rfl rfl rfl rfl ((Old.refl _).push _)
        · rw [decide_eq_false fun h=>h3 h.2.2]
          refine zA (.int .i64 4) zB rfl <| zU tF <| zU tF <| zU tF <| zU tF <| zq tT ?_
          refine zA (AV.str t) zB rfl <| zq ht <| zA (.int .i64 n) zB rfl <| zE <| zq tT <| zA (.int .i64 n) zB rfl ?_
          refine zE ?_
          all_goals exact zDk (v0:=.bool (decide (n ≤ 6))) (by rw [decide_eq_false h3]) rfl rfl rfl rfl ((Old.refl _).push _)
      · rw [decide_eq_false fun h=>h2 h.2.1]
        refine zA (.int .i64 4) zB rfl <| zU tF <| zU tF <| zU tF <| zU tF <| zq tT ?_
        refine zA (AV.str t) zB rfl <| zq ht <| zA (.int .i64 n) zB rfl <| zE <| zU tF <| zU tN ?_
        exact zAS rfl rfl rfl rfl ((Old.refl _).push _)
    · have ht : (t == ([] : Bs1)) = false:=tN h1
      rw [decide_eq_false fun h=>h1 h.1]
      refine zA (.int .i64 4) zB rfl <| zU tF <| zU tF <| zU tF <| zU tF <| zq tT ?_
      refine zA (AV.str t) zB rfl <| zU ht <| zD <| zD <| zD ?_
      exact zAS rfl rfl rfl rfl ((Old.refl _).push _)
  rw [if_neg k4]
  refine zA (.int .i64 k) zB rfl <| zU tF <| zU tF <| zU tF <| zU tF <| zU tF ?_
  exact zAS rfl rfl rfl rfl ((Old.refl _).push _)
end
end Go.AM
set_option maxRecDepth 20000
namespace Go.AM
section
variable {C : CSpec} {GT : Nat → Option AV} {K : Post} {H : Heap} {b : Nat} {f : FormP} (hb : H[b]? = some (.box (zC f).cells)) (hf : f.least ≤ 1000 ∧ f.point ≤ 1000)
include hb hf
def shB : AC:=zB8.rest.first.body
theorem zMe (i : Int) (k : Nat) (c : UInt8) (o s : Bs1) (m : Bool) (ho : o.length ≤ 100000) (hk : k ≤ 10000)
    (hK : ∀ fr',zO fr' [9,3,8,7,6,10] = [(9,zu (k + 1)),(3,.ref b 0 0 0),(8,.str (c :: (if f.group = true ∧ f.point < k ∧ (k - f.point) % 3 = 0 then 44 :: o else o))),(7,.str s),(6,.bool m),(10,.int .i64 i)] → K .normal fr' H) :
    EW C GT (shB.behind 3) K [(3,.ref b 0 0 0),(7,.str s),(6,.bool m),(10,.int .i64 i),(9,zu k),(11,.str [c]),(8,.str o)] H:=by
  by_cases hg : f.group = true
  · by_cases h1 : f.point < k
    · have wk : IntKind.i64.wrap ((k : Int) - (f.point : Int)) = ((k - f.point : Nat) : Int):=by rw [IntKind.wrap_i64]; omega
      have wr : Int.tmod ((k - f.point : Nat) : Int) 3 = (((k - f.point) % 3 : Nat) : Int):=rfl
      by_cases h2 : (k - f.point) % 3 = 0
      · rw [if_pos ⟨hg,h1,h2⟩] at hK
        refine zA (.bool f.group) hb rfl <| zq hg <| zA (zu f.point) hb rfl <| zE <| zq tT <| zA (zu f.point) hb rfl ?_
        refine zC3 wk <| zAe (by first | omega | (simp only [List.length_append,List.length_cons,List.length_nil]; omega)) <| zC3 wr <| zE <| zq tT <| zAe (by first | omega | (simp only [List.length_append,List.length_cons,List.length_nil]; omega)) ?_
        refine zAe (by first | omega | (simp only [List.length_append,List.length_cons,List.length_nil]; omega)) <| zAf (r:=k + 1) tO tO ?_
        exact hK _ rfl
      · rw [if_neg (fun h=>h2 h.2.2)] at hK
        refine zA (.bool f.group) hb rfl <| zq hg <| zA (zu f.point) hb rfl <| zE <| zq tT <| zA (zu f.point) hb rfl ?_
        refine zC3 wk <| zAe (by first | omega | (simp only [List.length_append,List.length_cons,List.length_nil]; omega)) <| zC3 wr <| zE <| zU tF <| zAe (by first | omega | (simp only [List.length_append,List.length_cons,List.length_nil]; omega)) ?_
        refine zAf (r:=k + 1) tO tO ?_
        exact hK _ rfl
    · rw [if_neg (fun h=>h1 h.2.1)] at hK
      refine zA (.bool f.group) hb rfl <| zq hg <| zA (zu f.point) hb rfl ?_
      refine zE <| zU tF <| zD <| zD <| zAe (by first | omega | (simp only [List.length_append,List.length_cons,List.length_nil]; omega)) <| zAf (r:=k + 1) tO tO ?_
      exact hK _ rfl
  · rw [if_neg (fun h=>hg h.1)] at hK
    have hg:=Bool.eq_false_iff.2 hg
    refine zA (.bool f.group) hb rfl <| zU hg <| zD <| zD <| zD <| zD ?_
    refine zAe (by first | omega | (simp only [List.length_append,List.length_cons,List.length_nil]; omega)) <| zAf (r:=k + 1) tO tO ?_
    exact hK _ rfl
theorem zNV (i : Int) (k : Nat) (c : UInt8) (o s : Bs1) (m : Bool) (ho : o.length ≤ 90000) (hk : k ≤ 10000)
    (hK : ∀ fr',zO fr' [9,3,8,7,6,10] = [(9,zu (k + 1)),(3,.ref b 0 0 0),(8,.str (zIz f c k o)),(7,.str s),(6,.bool m),(10,.int .i64 i)] → K .normal fr' H) :
    EW C GT (shB.behind 2) K [(3,.ref b 0 0 0),(7,.str s),(6,.bool m),(10,.int .i64 i),(9,zu k),(11,.str [c]),(8,.str o)] H:=by
  unfold zIz at hK
  dsimp only at hK
  by_cases h1 : 0 < f.point
  · by_cases h2 : k = f.point
    · rw [if_pos (⟨h1,h2⟩ : 0 < f.point ∧ k = f.point)] at hK
      have key:=zMe (C:=C) (GT:=GT) (K:=K) hb hf i k c (46 :: o) s m (by simp only [List.length_cons]; omega) hk hK
      clear hK
      refine zA (zu f.point) hb rfl <| zq tT <| zA (zu f.point) hb rfl <| zE <| zq tT <| zAe (by first | omega | (simp only [List.length_append,List.length_cons,List.length_nil]; omega)) ?_
      exact zAo rfl key rfl
    · rw [if_neg (fun h=>h2 h.2 : ¬ (0 < f.point ∧ k = f.point))] at hK
      have key:=zMe (C:=C) (GT:=GT) (K:=K) hb hf i k c o s m tO hk hK
      clear hK
      refine zA (zu f.point) hb rfl <| zq tT <| zA (zu f.point) hb rfl <| zE <| zU tF <| zAo rfl key ?_
      rfl
  · rw [if_neg (fun h=>h1 h.1 : ¬ (0 < f.point ∧ k = f.point))] at hK
    have key:=zMe (C:=C) (GT:=GT) (K:=K) hb hf i k c o s m tO hk hK
    clear hK
    refine zA (zu f.point) hb rfl <| zU tF <| zD <| zD <| zAo rfl key ?_
    rfl
end
end Go.AM
set_option maxRecDepth 20000
namespace Go.AM
theorem zLU (s : Bs1) (a b : Nat) (h : a ≤ b) (hb : b ≤ s.length) : zf none (.str s) (some (.int .i64 (a : Int))) (some (.int .i64 (b : Int))) = some (.str ((s.drop a).take (b - a))):=by
  simp only [zf,zAv,aHi,aLo]
  have h1 : ¬ ((a : Int) < 0):=by omega
  have h2 : ¬ ((b : Int) < 0):=by omega
  have e1 : (a : Int).toNat = a:=Int.toNat_natCast a
  have e2 : (b : Int).toNat = b:=Int.toNat_natCast b
  simp [h1,h2,e1,e2,h,hb,List.drop_take]
theorem zLV (s : Bs1) (j : Nat) (h : j < s.length) : zf none (.str s) (some (.int .i64 (j : Int))) (some (.int .i64 ((j + 1 : Nat) : Int))) = some (.str [s.getD j 0]):=by
  rw [zLU s j (j + 1) tO tO,show j + 1 - j = 1 by omega,zAN h]; rfl
theorem zNW {id : Nat} {L : List Nat} {K : Post} {fr F : Fr} {H : Heap} (h : zO fr L = F) (k : K .normal F H) : zEo id L K .normal fr H:=by
  show K .normal (zO fr L) H
  rw [h]; exact k
theorem zLW (f : FormP) (D : Bs1) (k : Nat) : (zKC f D k).length ≤ 2 * k + D.length + 1:=by
  unfold zKC
  have hg : ∀ W : Bs1,∀ j,(zDY W j).length ≤ 2 * j:=fun W j=>by
    induction j with
    | zero=>exact Nat.le_refl _
    | succ j ih=>
      unfold zDY
      by_cases h : j ≠ 0 ∧ j % 3 = 0
      · rw [if_pos h]; simp only [List.length_cons]; omega
      · rw [if_neg h]; simp only [List.length_cons]; omega
  split
  · rw [List.length_drop]; omega
  · rw [List.length_append]
    have h1 : (if f.group = true then zDY (zAK f D) (k - f.point) else (D.drop (D.length - k)).take (k - f.point)).length ≤ 2 * k:=by
      split
      · have:=hg (zAK f D) (k - f.point); omega
      · rw [List.length_take]; omega
    have h2 : (if f.point = 0 then ([] : Bs1) else 46 :: D.drop (D.length - f.point)).length ≤ D.length + 1:=by
      split
      · simp
      · rw [List.length_cons,List.length_drop]; omega
    omega
section
variable {C : CSpec} {GT : Nat → Option AV} {H H0 : Heap} {b : Nat} {f : FormP}
set_option maxHeartbeats 8000000 in
theorem zMf (hb : H[b]? = some (.box (zC f).cells)) (hO : Old H0 H) (hf : f.least ≤ 1000 ∧ f.point ≤ 1000) (h1 : 1 ≤ f.least) (ha : f.ahead.length ≤ 1000) (hbe : f.behind.length ≤ 1000) (s : Bs1) (hs : 1 ≤ s.length ∧ s.length ≤ 1000) (m : Bool) :
    EW C GT (zCs.behind 7) (zIu zBd H0 (.str ((if m = true then [45] else []) ++ ((f.ahead ++ zKC f (zKB (f.least + f.point) s) (zKB (f.least + f.point) s).length) ++ f.behind))) H0) [(9,.int .i64 0),(3,.ref b 0 0 0),(8,.str []),(7,.str s),(6,.bool m)] H:=by
  obtain ⟨D,hD⟩ : ∃ D,zKB (f.least + f.point) s = D:=⟨_,rfl⟩
  have hDl : D.length = max (f.least + f.point) s.length:=by rw [← hD]; exact zDW _ _
  rw [hD]
  have w0 : IntKind.i64.wrap ((s.length : Int) - 1) = (s.length : Int) - 1:=by rw [IntKind.wrap_i64]; omega
  refine zC3 w0 ?_
  refine zE6 (fun z : Nat × Int × Bs1=>[(10,.int .i64 z.2.1),(9,zu z.1),(3,.ref b 0 0 0),(8,.str z.2.2),(7,.str s),(6,.bool m)]) (fun z H'=>H' = H ∧ z.1 ≤ D.length ∧ z.2.1 = (s.length : Int) - 1 - z.1 ∧ z.2.2 = zKC f D z.1) (fun z=>D.length - z.1) (0,(s.length : Int) - 1,[]) rfl ⟨rfl,Nat.zero_le _,by simp only; omega,by simp [zKC]⟩ (fun z H2 hi=>?_)
  obtain ⟨k,i,o⟩:=z
  obtain ⟨rfl,g1,g2,g3⟩:=hi
  simp only at g1 g2 g3 ⊢
  have hol : o.length ≤ 90000:=by have:=zLW f D k; rw [← g3] at this; omega
  by_cases hk : k < D.length
  · have hst:=zKD f tO hk
    rw [← g3] at hst
    by_cases hks : k < s.length
    · obtain ⟨j,hj⟩ : ∃ j : Nat,j = s.length - 1 - k:=⟨_,rfl⟩
      have hij : i = (j : Int):=by omega
      subst hij
      have hc : D.getD (D.length - 1 - k) 0 = s.getD j 0:=by
        rw [← hD,zDW]
        unfold zKB
        rw [List.getD_eq_getElem?_getD,List.getD_eq_getElem?_getD,List.getElem?_append_right (by rw [List.length_replicate]; omega),List.length_replicate]
        congr 2; omega
      rw [hc] at hst
      have hsl:=zLV s j tO
      refine zq tT <| zE <| zE <| zq tT <| zAf (r:=j + 1) rfl tO <| za hsl ?_
      refine zAo rfl (zNV hb hf (j : Int) k (s.getD j 0) o s m hol tO (fun fr' hfr=>?_)) rfl
      refine zNW hfr ?_
      have wj : IntKind.i64.wrap ((j : Int) - 1) = (j : Int) - 1:=by rw [IntKind.wrap_i64]; omega
      refine zC3 wj ?_
      exact zEq (k + 1,(j : Int) - 1,zIz f (s.getD j 0) k o) rfl ⟨rfl,by simp only; omega,by simp only; omega,by simp only; exact hst⟩ (by simp only; omega)
    · have hc : D.getD (D.length - 1 - k) 0 = 48:=by
        rw [← hD,zDW]
        unfold zKB
        rw [List.getD_eq_getElem?_getD,List.getElem?_append_left (by rw [List.length_replicate]; omega),List.getElem?_replicate,if_pos tO]; rfl
      rw [hc] at hst
      refine zU tF <| zA (zu f.point) hb rfl <| zA (zu f.least) hb rfl <| zAf (r:=f.point + f.least) tO tO ?_
      refine zD <| zq tT <| zU tF ?_
      refine zAo rfl (zNV hb hf i k 48 o s m hol tO (fun fr' hfr=>?_)) ?_
      · refine zNW hfr ?_
        have wj : IntKind.i64.wrap (i - 1) = i - 1:=by rw [IntKind.wrap_i64]; omega
        refine zC3 wj ?_
        exact zEq (k + 1,i - 1,zIz f 48 k o) rfl ⟨rfl,by simp only; omega,by simp only; omega,by simp only; exact hst⟩ (by simp only; omega)
      · rfl
  · have hkd : k = D.length:=by omega
    subst hkd
    rw [← g3]
    cases m with
    | true => refine zU tF ?_
              refine zA (zu f.point) hb rfl <| zA (zu f.least) hb rfl <| zAf (r:=f.point + f.least) tO tO <| zD <| zU tF <| zA (.str f.ahead) hb rfl ?_
              refine zAe (by first | omega | (simp only [List.length_append,List.length_cons,List.length_nil]; omega)) <| zA (.str f.behind) hb rfl <| zAe (by first | omega | (simp only [List.length_append,List.length_cons,List.length_nil]; omega)) <| zE <| zAe (by first | omega | (simp only [List.length_append,List.length_cons,List.length_nil]; omega)) ?_
              exact zAS rfl rfl rfl rfl hO
    | false => refine zU tF ?_
               refine zA (zu f.point) hb rfl <| zA (zu f.least) hb rfl <| zAf (r:=f.point + f.least) tO tO <| zD <| zU tF <| zA (.str f.ahead) hb rfl ?_
               refine zAe (by first | omega | (simp only [List.length_append,List.length_cons,List.length_nil]; omega)) <| zA (.str f.behind) hb rfl <| zAe (by first | omega | (simp only [List.length_append,List.length_cons,List.length_nil]; omega)) <| zD ?_
               exact zAS rfl rfl rfl rfl hO
end
end Go.AM
namespace Go.AM
def zCf (n : Int) : Prop:=-9223372036854775808 ≤ n ∧ n ≤ 9223372036854775807
instance (n : Int) : Decidable (zCf n):=by unfold zCf; exact inferInstance
def zNC : Nat → Nat → List Nat
  | 0,_=>[]
  | f + 1,n=>if n = 0 then [] else (n % 4294967296) :: zNC f (n / 4294967296)
def wds (n : Nat) : List Nat:=zNC n n
def wval : List Nat → Nat
  | []=>0
  | w :: ws=>w + 4294967296 * wval ws
def Small (ws : List Nat) : Prop:=∀ w ∈ ws,w < 4294967296
theorem zG0 : ∀ f g n,n ≤ f → n ≤ g → zNC f n = zNC g n
  | 0,0,_,_,_=>rfl
  | 0,g + 1,n,h,_=>by
    have : n = 0:=by omega
    subst this; rfl
  | f + 1,0,n,_,h=>by
    have : n = 0:=by omega
    subst this; rfl
  | f + 1,g + 1,n,h,k=>by
    simp only [zNC]
    split
    · rfl
    · rw [zG0 f g (n / 4294967296) tO tO]
theorem zCc : wds 0 = []:=rfl
theorem zBL {n : Nat} (h : n ≠ 0) : wds n = (n % 4294967296) :: wds (n / 4294967296):=by
  unfold wds
  obtain ⟨m,rfl⟩ : ∃ m,n = m + 1:=⟨n - 1,by omega⟩
  rw [zNC,if_neg h,zG0 m ((m + 1) / 4294967296) _ tO (Nat.le_refl _)]
theorem zIF (n : Nat) : wval (wds n) = n:=by
  induction n using Nat.strongRecOn with
  | ind n ih=>
    by_cases h : n = 0
    · subst h; rfl
    · rw [zBL h,wval,ih _ tO]; omega
theorem zG1 (n : Nat) : Small (wds n):=by
  induction n using Nat.strongRecOn with
  | ind n ih=>
    by_cases h : n = 0
    · subst h; intro w hw; cases hw
    · rw [zBL h]
      intro w hw
      rcases List.mem_cons.1 hw with rfl | hw
      · omega
      · exact ih _ tO w hw
theorem zLX {w : Nat} {v : Nat} (hw : w < 4294967296) (h : w ≠ 0 ∨ v ≠ 0) : wds (w + 4294967296 * v) = w :: wds v:=by
  rw [zBL tO]
  have e1 : (w + 4294967296 * v) % 4294967296 = w:=by omega
  have e2 : (w + 4294967296 * v) / 4294967296 = v:=by omega
  rw [e1,e2]
theorem zHd : ∀ ws : List Nat,Small ws → ∃ k,ws = wds (wval ws) ++ List.replicate k 0
  | [],_=>⟨0,rfl⟩
  | w :: ws,h=>by
    obtain ⟨k,hk⟩:=zHd ws fun x hx=>h x (List.mem_cons_of_mem _ hx)
    have hw:=h w (by simp)
    by_cases hz : w = 0 ∧ wval ws = 0
    · refine ⟨k + 1, ?_⟩
      rw [wval,hz.1,hz.2]
      rw [hz.2] at hk
      simp only [Nat.mul_zero,Nat.add_zero,zCc,List.nil_append] at hk ⊢
      rw [List.replicate_succ,← hk]
    · refine ⟨k, ?_⟩
      rw [wval,zLX hw tO,List.cons_append,← hk]
theorem zLY {ws : List Nat} (h : Small ws) : (wds (wval ws)).length ≤ ws.length ∧ ws.take (wds (wval ws)).length = wds (wval ws):=by
  obtain ⟨k,hk⟩:=zHd ws h
  constructor
  · conv=>rhs; rw [hk]
    simp
  · conv=>lhs; rw [hk]
    have : wval (wds (wval ws) ++ List.replicate k 0) = wval ws:=by rw [← hk]
    rw [this]
    simp
theorem zMg {ws : List Nat} (h : Small ws) (hl : ∀ w,ws.getLast? = some w → w ≠ 0) : wds (wval ws) = ws:=by
  obtain ⟨k,hk⟩:=zHd ws h
  cases k with
  | zero=>rw [List.replicate_zero,List.append_nil] at hk; exact hk.symm
  | succ k=>
    exfalso
    refine hl 0 ?_ rfl
    rw [hk,List.replicate_succ',← List.append_assoc,List.getLast?_append]
    simp
theorem zEy : ∀ xs ys : List Nat,wval (xs ++ ys) = wval xs + 4294967296 ^ xs.length * wval ys
  | [],ys=>by simp [wval]
  | x :: xs,ys=>by
    simp only [List.cons_append,wval,zEy xs ys,List.length_cons]
    rw [Nat.mul_add,← Nat.mul_assoc,Nat.pow_succ,Nat.mul_comm (4294967296 ^ xs.length) 4294967296]
    omega
theorem zKO (xs : List Nat) (y : Nat) : wval (xs ++ [y]) = wval xs + 4294967296 ^ xs.length * y:=by
  rw [zEy]; simp [wval]
theorem zKP : ∀ {ws : List Nat},Small ws → wval ws < 4294967296 ^ ws.length
  | [],_=>by simp [wval]
  | w :: ws,h=>by
    have h1:=h w (by simp)
    have h2:=zKP (ws:=ws) fun x hx=>h x (List.mem_cons_of_mem _ hx)
    simp only [wval,List.length_cons]
    rw [Nat.pow_succ,Nat.mul_comm (4294967296 ^ ws.length) 4294967296]
    omega
theorem zL5 : ∀ (n : Nat),n ≠ 0 → 4294967296 ^ ((wds n).length - 1) ≤ n:=by
  intro n
  induction n using Nat.strongRecOn with
  | ind n ih=>
    intro h
    rw [zBL h,List.length_cons,Nat.add_sub_cancel]
    by_cases h2 : n / 4294967296 = 0
    · rw [h2]; simp [zCc]; omega
    · have h3:=ih _ tO h2
      have h4 : (wds (n / 4294967296)).length ≠ 0:=by rw [zBL h2]; simp
      obtain ⟨m,hm⟩ : ∃ m,(wds (n / 4294967296)).length = m + 1:=⟨(wds (n / 4294967296)).length - 1,by omega⟩
      rw [hm] at h3 ⊢
      simp only [Nat.add_sub_cancel] at h3
      rw [Nat.pow_succ]
      omega
theorem zNX (n : Nat) : n < 4294967296 ^ (wds n).length:=by
  have:=zKP (zG1 n); rwa [zIF] at this
theorem zI2 {a b : Nat} (h : (wds a).length < (wds b).length) : a < b:=by
  have hb : b ≠ 0:=fun e=>by subst e; simp [zCc] at h
  have h1:=zNX a
  have h2:=zL5 b hb
  have h3 : 4294967296 ^ (wds a).length ≤ 4294967296 ^ ((wds b).length - 1):=Nat.pow_le_pow_right tO tO
  omega
theorem zG2 {a b : Nat} (h : a ≤ b) : (wds a).length ≤ (wds b).length:=by
  rcases Nat.lt_or_ge (wds b).length (wds a).length with h2 | h2
  · have:=zI2 h2; omega
  · exact h2
def zNY : Nat → Nat → Nat
  | 0,_=>0
  | f + 1,n=>if n = 0 then 0 else zNY f (n / 2) + 1
def bits (n : Nat) : Nat:=zNY n n
end Go.AM
