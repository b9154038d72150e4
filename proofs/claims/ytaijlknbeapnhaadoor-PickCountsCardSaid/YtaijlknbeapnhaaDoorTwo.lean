/- The walk of value.Two at the six operators that compare; of IsBad, IsTrue, Is, like. Own work. -/
import Derived.Test.YtaijlknbeapnhaaDoorVal
import Derived.Test.YtaijlknbeapnhaaDoorNum
import Derived.Test.YtaijlknbeapnhaaDoorAm27
set_option linter.all false
namespace Go.AM

def isV (b : Bool) : Val := ⟨3, if b then 1 else 0, []⟩
def likeV (v o : Val) : Val := if (v.kind == 0) = true ∧ (o.kind != 4) = true then { v with kind := o.kind } else v
def opB (op c : Int) : Bool :=
  if op = 1 then c == 0 else if op = 2 then c != 0 else if op = 3 then decide (c < 0) else if op = 4 then decide (c ≤ 0) else if op = 5 then decide (c > 0) else decide (c ≥ 0)
def twoC (op : Int) (a b : Val) : Val :=
  if a.kind = 4 then a else if b.kind = 4 then b else isV (opB op (cmpV (likeV a b) (likeV b a)))

section
variable {C : CSpec} {GT : Nat → Option AV}

theorem isBad_ev (v : Val) (H : Heap) : EFun C GT a_value_IsBad [valV v] H (.bool (v.kind == 4)) H := by
  refine sBox rfl ?_
  refine sLoadBox (intV v.kind) push_last rfl ?_
  exact sRetV rfl rfl rfl rfl ((Old.refl H).push _)

theorem isTrue_ev (v : Val) (H : Heap) : EFun C GT a_value_IsTrue [valV v] H (.bool (v.kind == 3 && v.num == 1)) H := by
  refine sBox rfl ?_
  refine sLoadBox (intV v.kind) push_last rfl ?_
  refine sCond (fun h => ?_) (fun h => ?_)
  · refine sLoadBox (intV v.num) push_last rfl ?_
    refine sCondT ?_
    have e : (v.kind == 3 && v.num == 1) = (v.num == 1) := by rw [h, Bool.true_and]
    exact sRetE (congrArg AV.bool e) rfl rfl rfl rfl ((Old.refl H).push _)
  · refine sCondF ?_
    have e : (v.kind == 3 && v.num == 1) = false := by rw [h, Bool.false_and]
    exact sRetE (congrArg AV.bool e) rfl rfl rfl rfl ((Old.refl H).push _)

theorem is_ev (b : Bool) (H : Heap) : EFun C GT a_value_Is [.bool b] H (valV (isV b)) H := by
  refine sOpt rfl ?_
  have hO := ((Old.refl H).push [.box [.int .i64 0, .int .i64 0, .str []]]).push [.box [.int .i64 0, .int .i64 0, .str []]]
  have hne : (H ++ [ABlk.box [.int .i64 0, .int .i64 0, .str []]]).length ≠ H.length := by simp
  have hle : H.length ≤ (H ++ [ABlk.box [.int .i64 0, .int .i64 0, .str []]]).length := by simp
  refine sStoreBox push_last rfl rfl (by simp) ?_
  refine sCond (fun h => ?_) (fun h => ?_)
  · refine sStoreBox (set_at push_last) rfl rfl (show 1 + 1 ≤ 3 by omega) ?_
    refine sLoadBox (valV (isV true)) (set_at (set_at push_last)) rfl ?_
    refine sStoreBox (set_other hne (set_other hne (push_old push_last))) rfl rfl (by simp) ?_
    subst h
    exact sRetCell (o := 0) rfl rfl (ptr_box (set_at (set_other hne (set_other hne (push_old push_last))))) rfl rfl rfl (((hO.set hle _).set hle _).set (Nat.le_refl _) _)
  · refine sLoadBox (valV (isV false)) (set_at push_last) rfl ?_
    refine sStoreBox (set_other hne (push_old push_last)) rfl rfl (by simp) ?_
    subst h
    exact sRetCell (o := 0) rfl rfl (ptr_box (set_at (set_other hne (push_old push_last)))) rfl rfl rfl ((hO.set hle _).set (Nat.le_refl _) _)

theorem like_ev (v o : Val) (H : Heap) : EFun C GT a_value_like [valV v, valV o] H (valV (likeV v o)) H := by
  refine sBox rfl ?_
  refine sBox rfl ?_
  have g2 : (H ++ [ABlk.box (valV v).cells] ++ [ABlk.box (valV o).cells] ++ [ABlk.box [.int .i64 0, .int .i64 0, .str []]])[H.length]? = some (.box (valV v).cells) := push_old (push_old push_last)
  have g3 : (H ++ [ABlk.box (valV v).cells] ++ [ABlk.box (valV o).cells] ++ [ABlk.box [.int .i64 0, .int .i64 0, .str []]])[(H ++ [ABlk.box (valV v).cells]).length]? = some (.box (valV o).cells) := push_old push_last
  have hO := (((Old.refl H).push [.box (valV v).cells]).push [.box (valV o).cells]).push [.box [.int .i64 0, .int .i64 0, .str []]]
  have hle : H.length ≤ (H ++ [ABlk.box (valV v).cells] ++ [ABlk.box (valV o).cells]).length := by simp
  have hne : H.length ≠ (H ++ [ABlk.box (valV v).cells] ++ [ABlk.box (valV o).cells]).length := by simp
  refine sLoadBox (intV v.kind) g2 rfl ?_
  have no : (likeV v o = v) → EW C GT (b_value_like.behind 2) (finF a_value_like H (valV (likeV v o)) H) [(4, .ref (H ++ [ABlk.box (valV v).cells] ++ [ABlk.box (valV o).cells]).length 0 0 0), (2, .ref H.length 0 0 0)] (H ++ [ABlk.box (valV v).cells] ++ [ABlk.box (valV o).cells] ++ [ABlk.box [.int .i64 0, .int .i64 0, .str []]]) := by
    intro e
    rw [e]
    refine sLoadBox (valV v) g2 rfl ?_
    refine sStoreBox push_last rfl rfl (by simp) ?_
    exact sRetCell (o := 0) rfl rfl (ptr_box (set_at push_last)) rfl rfl rfl (hO.set hle _)
  refine sCond (fun h => ?_) (fun h => ?_)
  · refine sLoadBox (intV o.kind) g3 rfl ?_
    refine sCondT ?_
    refine sCond (fun h' => ?_) (fun h' => ?_)
    · refine sLoadBox (intV o.kind) g3 rfl ?_
      refine sStoreBox g2 rfl rfl (show 0 + 1 ≤ 3 by omega) ?_
      have e : likeV v o = ⟨o.kind, v.num, v.text⟩ := by unfold likeV; rw [if_pos ⟨h, h'⟩]
      rw [e]
      refine sLoadBox (valV ⟨o.kind, v.num, v.text⟩) (set_at g2) rfl ?_
      refine sStoreBox (set_other hne push_last) rfl rfl (by simp) ?_
      exact sRetCell (o := 0) rfl rfl (ptr_box (set_at (set_other hne push_last))) rfl rfl rfl ((hO.set (Nat.le_refl _) _).set hle _)
    · refine sTail rfl (no (by unfold likeV; rw [if_neg (fun x => by rw [x.2] at h'; cases h')])) ?_
      rfl
  · refine sCondF ?_
    refine sCondF ?_
    refine sTail rfl (no (by unfold likeV; rw [if_neg (fun x => by rw [x.1] at h; cases h)])) ?_
    rfl

theorem two_ev (hB : ∀ v H, C f_value_IsBad [valV v] H (.bool (v.kind == 4)) H) (hI : ∀ b H, C f_value_Is [.bool b] H (valV (isV b)) H) (hL : ∀ v o H, C f_value_like [valV v, valV o] H (valV (likeV v o)) H)
    (hC : ∀ a b H, C f_value_Compare [valV a, valV b] H (intV (cmpV a b)) H) (op : Int) (h1 : 1 ≤ op) (h6 : op ≤ 6) (a b : Val) (H : Heap) : EFun C GT a_value_Two [intV op, valV a, valV b] H (valV (twoC op a b)) H := by
  let Hh := H ++ [ABlk.box (valV a).cells] ++ [ABlk.box (valV b).cells] ++ [ABlk.box [.int .i64 0, .int .i64 0, .str []]]
  have gb : Hh[(H ++ [ABlk.box (valV a).cells]).length]? = some (.box (valV b).cells) := push_old push_last
  have ga : Hh[H.length]? = some (.box (valV a).cells) := push_old (push_old push_last)
  have gz : Hh[(H ++ [ABlk.box (valV a).cells] ++ [ABlk.box (valV b).cells]).length]? = some (.box [.int .i64 0, .int .i64 0, .str []]) := push_last
  have hO : Old H Hh := (((Old.refl H).push [.box (valV a).cells]).push [.box (valV b).cells]).push [.box [.int .i64 0, .int .i64 0, .str []]]
  have hle : H.length ≤ (H ++ [ABlk.box (valV a).cells] ++ [ABlk.box (valV b).cells]).length := by simp
  have fin : ∀ v : Val, twoC op a b = v → ∀ fr, getF fr 6 = .ref (H ++ [ABlk.box (valV a).cells] ++ [ABlk.box (valV b).cells]).length 0 0 0 → finF a_value_Two H (valV (twoC op a b)) H .ret fr (Hh.set (H ++ [ABlk.box (valV a).cells] ++ [ABlk.box (valV b).cells]).length (.box (splice [.int .i64 0, .int .i64 0, .str []] (0 + 0) (valV v).cells))) := by
    intro v e fr hfr
    rw [e]
    exact sRetCell (o := 0) rfl rfl (by rw [hfr]; exact ptr_box (set_at gz)) rfl rfl rfl (hO.set hle _)
  have tail : a.kind ≠ 4 → b.kind ≠ 4 → EW C GT (b_value_Two.behind 3) (finF a_value_Two H (valV (twoC op a b)) H) [(6, .ref (H ++ [ABlk.box (valV a).cells] ++ [ABlk.box (valV b).cells]).length 0 0 0), (0, intV op), (4, .ref H.length 0 0 0), (5, .ref (H ++ [ABlk.box (valV a).cells]).length 0 0 0)] Hh := by
    intro na nb
    have e : twoC op a b = isV (opB op (cmpV (likeV a b) (likeV b a))) := by unfold twoC; rw [if_neg na, if_neg nb]
    refine sLoadBox (valV a) ga rfl ?_
    refine sLoadBox (valV b) gb rfl ?_
    refine sCall0 (hL a b Hh) ?_
    refine sLoadBox (valV b) gb rfl ?_
    refine sLoadBox (valV a) ga rfl ?_
    refine sCall0 (hL b a Hh) ?_
    refine sCall0 (hC _ _ Hh) ?_
    generalize cmpV (likeV a b) (likeV b a) = c at e
    have hop : op = 1 ∨ op = 2 ∨ op = 3 ∨ op = 4 ∨ op = 5 ∨ op = 6 := by omega
    rcases hop with rfl | rfl | rfl | rfl | rfl | rfl
    · refine sCondT ?_
      refine sCall0 (hI (c == 0) Hh) ?_
      refine sStoreBox gz rfl rfl (by simp) ?_
      exact fin (isV (c == 0)) e _ rfl
    · refine sCondF ?_
      refine sCondT ?_
      refine sCall0 (hI (c != 0) Hh) ?_
      refine sStoreBox gz rfl rfl (by simp) ?_
      exact fin (isV (c != 0)) e _ rfl
    · refine sCondF ?_
      refine sCondF ?_
      refine sCondT ?_
      refine sCall0 (hI (decide (c < 0)) Hh) ?_
      refine sStoreBox gz rfl rfl (by simp) ?_
      exact fin (isV (decide (c < 0))) e _ rfl
    · refine sCondF ?_
      refine sCondF ?_
      refine sCondF ?_
      refine sCondT ?_
      refine sCall0 (hI (decide (c ≤ 0)) Hh) ?_
      refine sStoreBox gz rfl rfl (by simp) ?_
      exact fin (isV (decide (c ≤ 0))) e _ rfl
    · refine sCondF ?_
      refine sCondF ?_
      refine sCondF ?_
      refine sCondF ?_
      refine sCondT ?_
      refine sCall0 (hI (decide (c > 0)) Hh) ?_
      refine sStoreBox gz rfl rfl (by simp) ?_
      exact fin (isV (decide (c > 0))) e _ rfl
    · refine sCondF ?_
      refine sCondF ?_
      refine sCondF ?_
      refine sCondF ?_
      refine sCondF ?_
      refine sCall0 (hI (decide (c ≥ 0)) Hh) ?_
      refine sStoreBox gz rfl rfl (by simp) ?_
      exact fin (isV (decide (c ≥ 0))) e _ rfl
  refine efun_of ?_
  refine sBox rfl ?_
  refine sBox rfl ?_
  refine sCond (fun h => absurd (of_decide_eq_true h) (by omega)) (fun _ => ?_)
  refine sCondF ?_
  refine sCond (fun h => absurd (of_decide_eq_true h) (by omega)) (fun _ => ?_)
  refine sCond (fun h => absurd (of_decide_eq_true h) (by omega)) (fun _ => ?_)
  refine sLoadBox (valV a) ga rfl ?_
  refine sCall0 (hB a Hh) ?_
  refine sCond (fun h => ?_) (fun h => ?_)
  · refine sLoadBox (valV a) ga rfl ?_
    refine sStoreBox gz rfl rfl (by simp) ?_
    exact fin a (by unfold twoC; rw [if_pos (eq_of_beq h)]) _ rfl
  have na : a.kind ≠ 4 := ne_of_beq_false h
  refine sLoadBox (valV b) gb rfl ?_
  refine sCall0 (hB b Hh) ?_
  refine sCond (fun h => ?_) (fun h => ?_)
  · refine sLoadBox (valV b) gb rfl ?_
    refine sStoreBox gz rfl rfl (by simp) ?_
    exact fin b (by unfold twoC; rw [if_neg na, if_pos (eq_of_beq h)]) _ rfl
  have nb : b.kind ≠ 4 := ne_of_beq_false h
  refine sCond (fun h => absurd (of_decide_eq_true h) (by omega)) (fun _ => ?_)
  refine sCond (fun h => absurd (eq_of_beq h) (by omega)) (fun _ => ?_)
  refine sBlkN (sTail rfl (tail na nb) ?_)
  rfl
end
end Go.AM
