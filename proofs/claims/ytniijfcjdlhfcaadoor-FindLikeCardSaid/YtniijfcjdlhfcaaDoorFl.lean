/- The law FindLike: its walk. Own work. -/
import Derived.Test.YtniijfcjdlhfcaaDoorLb
import Derived.Test.YtniijfcjdlhfcaaDoorTold
set_option linter.all false
namespace Go.AM

theorem parse_len : ∀ (m : List UInt8) (esc : Bool) (ms : List Mk), parseE esc m = some ms → ms.length ≤ m.length
  | [], esc, ms, h => by
    cases esc
    · simp [parseE] at h; subst h; simp
    · simp [parseE] at h
  | c :: m, true, ms, h => by
    have h : (parseE false m).map (Mk.chr c :: ·) = some ms := h
    obtain ⟨r, hr, rfl⟩ := Option.map_eq_some_iff.1 h
    have := parse_len m false r hr
    simp only [List.length_cons]; omega
  | c :: m, false, ms, h => by
    have h : (if c = 42 then (parseE false m).map (Mk.star :: ·) else if c = 63 then (parseE false m).map (Mk.any :: ·) else if c = 126 then parseE true m else (parseE false m).map (Mk.chr c :: ·)) = some ms := h
    split at h
    · obtain ⟨r, hr, rfl⟩ := Option.map_eq_some_iff.1 h
      have := parse_len m false r hr
      simp only [List.length_cons]; omega
    · split at h
      · obtain ⟨r, hr, rfl⟩ := Option.map_eq_some_iff.1 h
        have := parse_len m false r hr
        simp only [List.length_cons]; omega
      · split at h
        · have := parse_len m true ms h
          simp only [List.length_cons]; omega
        · obtain ⟨r, hr, rfl⟩ := Option.map_eq_some_iff.1 h
          have := parse_len m false r hr
          simp only [List.length_cons]; omega

section
variable {C : CSpec} {GT : Nat → Option AV}

theorem find_like_ev (hM : ∀ m H, m.length ≤ 200 → C f_sccref3_Masks [.str m] H (masksV m) H) (hR : ∀ t (ms : List Mk) v H, LstOf v 2 (ms.map mkV) → t.length ≤ 200 → ms.length ≤ 200 → C f_sccref3_Like [.str t, v] H (.bool (bw t ms 0)) H)
    (hL : ∀ t m H, C f_find_Like [.str t, .str m] H (likeV t m) H) (hE : ∀ x n e H, ErrIs x n → C f_sccsame_Error [x, .int .i64 e] H (.bool (n == e)) H) (t m : List UInt8) (H : Heap) : EFun C GT a_scclaw3_FindLike [.str t, .str m] H (.bool true) H := by
  have tail4 : likeV t m = .tup [.bool false, errV 4] → C f_find_Like [.str t, .str m] H (.tup [.bool false, errV 4]) H := fun e => e ▸ hL t m H
  refine sCond (fun h => ?_) (fun h => ?_)
  · simp only [decide_eq_true_eq] at h
    have e : likeV t m = .tup [.bool false, errV 4] := by unfold likeV; rw [if_pos (.inl (by omega))]
    refine sCondT ?_
    refine sCondT ?_
    refine sCall0 (tail4 e) ?_
    refine sOpt rfl ?_
    refine sOpt rfl ?_
    refine sCall0 (hE _ 4 4 H (.inr rfl)) ?_
    refine sCondT ?_
    refine sCondT ?_
    exact sRetV rfl rfl rfl rfl (Old.refl H)
  simp only [decide_eq_false_iff_not] at h
  refine sCondF ?_
  refine sCond (fun h' => ?_) (fun h' => ?_)
  · simp only [decide_eq_true_eq] at h'
    have e : likeV t m = .tup [.bool false, errV 4] := by unfold likeV; rw [if_pos (.inr (by omega))]
    refine sCall0 (tail4 e) ?_
    refine sOpt rfl ?_
    refine sOpt rfl ?_
    refine sCall0 (hE _ 4 4 H (.inr rfl)) ?_
    refine sCondT ?_
    refine sCondT ?_
    exact sRetV rfl rfl rfl rfl (Old.refl H)
  simp only [decide_eq_false_iff_not] at h'
  have ht : t.length ≤ 200 := by omega
  have hm : m.length ≤ 200 := by omega
  have hmk := hM m H hm
  have hl := hL t m H
  unfold likeV at hl
  rw [if_neg (by omega), lk_parse] at hl
  unfold masksV at hmk
  cases hp : parseE false m with
  | none =>
    rw [hp] at hl hmk
    refine sCall0 hmk ?_
    refine sOpt rfl ?_
    refine sOpt rfl ?_
    refine sCondF ?_
    refine sCall0 hl ?_
    refine sOpt rfl ?_
    refine sOpt rfl ?_
    refine sCall0 (hE _ 2 2 H (.inr rfl)) ?_
    refine sCondT ?_
    refine sCondT ?_
    exact sRetV rfl rfl rfl rfl (Old.refl H)
  | some ms =>
    rw [hp] at hl hmk
    have hr := hR t ms (lstF 2 (ms.map mkV)) H (lstF_of _ _) ht (by have := parse_len m false ms hp; omega)
    simp only [Option.map_some] at hl
    generalize bw t ms 0 = b at hl hr
    cases b
    · refine sCall0 hmk ?_
      refine sOpt rfl ?_
      refine sOpt rfl ?_
      refine sCondT ?_
      refine sCall0 hr ?_
      refine sCall0 hl ?_
      refine sOpt rfl ?_
      refine sOpt rfl ?_
      refine sCall0 (hE _ 0 0 H (.inl ⟨rfl, rfl⟩)) ?_
      refine sCondT ?_
      refine sCondT ?_
      exact sRetV rfl rfl rfl rfl (Old.refl H)
    · refine sCall0 hmk ?_
      refine sOpt rfl ?_
      refine sOpt rfl ?_
      refine sCondT ?_
      refine sCall0 hr ?_
      refine sCall0 hl ?_
      refine sOpt rfl ?_
      refine sOpt rfl ?_
      refine sCall0 (hE _ 0 0 H (.inl ⟨rfl, rfl⟩)) ?_
      refine sCondT ?_
      refine sCondT ?_
      exact sRetV rfl rfl rfl rfl (Old.refl H)
end
end Go.AM
