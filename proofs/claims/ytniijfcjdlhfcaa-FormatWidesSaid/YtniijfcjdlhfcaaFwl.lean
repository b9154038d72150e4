/- The law FormatWides: its walk. Own work. -/
import Derived.Test.YtniijfcjdlhfcaaFw
set_option linter.all false
namespace Go.AM
open Go.Lib (repeatL repeatL_length)

theorem wideL_len (t : List UInt8) (w : Nat) (side : Int) : (wideL t w side).length = w := by
  unfold wideL
  by_cases h : w ≤ t.length
  · rw [if_pos h, List.length_take]; omega
  · rw [if_neg h]
    have hs := spaces_len
    simp only [List.length_append, hs]
    split
    · omega
    · split <;> omega
theorem wideL_left (t : List UInt8) (w n : Nat) (hn : n = min t.length w) : (wideL t w 0).take n = t.take n := by
  unfold wideL
  by_cases h : w ≤ t.length
  · rw [if_pos h, List.take_take]; congr 1; omega
  · rw [if_neg h]
    have e0 : spaces 0 = [] := rfl
    simp only [if_true, e0, List.nil_append]
    rw [List.take_append_of_le_length (by omega)]
theorem wideL_right (t : List UInt8) (w : Nat) (h : t.length ≤ w) : (wideL t w 2).drop (w - t.length) = t := by
  unfold wideL
  by_cases hw : w ≤ t.length
  · have e : w = t.length := by omega
    subst e
    rw [if_pos hw, List.take_length, Nat.sub_self, List.drop_zero]
  · rw [if_neg hw]
    have hs := spaces_len (w - t.length)
    have e0 : spaces (w - t.length - (w - t.length)) = [] := by rw [Nat.sub_self]; rfl
    simp only [show ¬ (2 : Int) = 0 by decide, show ¬ (2 : Int) = 1 by decide, if_false, e0, List.append_nil]
    rw [List.drop_append_of_le_length (by omega)]
    rw [List.drop_eq_nil_iff.2 (by omega)]; rfl

theorem slice_to (s : List UInt8) (n : Nat) (h : n ≤ s.length) : aSlice none (.str s) none (some (.int .i64 (n : Int))) = some (.str (s.take n)) := by
  simp only [aSlice, aBounds, aHi, aLo]
  rw [if_pos (by omega)]
  simp
theorem slice_from (s : List UInt8) (n : Nat) (h : n ≤ s.length) : aSlice none (.str s) (some (.int .i64 (n : Int))) none = some (.str (s.drop n)) := by
  simp only [aSlice, aBounds, aHi, aLo]
  rw [if_pos (by omega)]
  simp

section
variable {C : CSpec} {GT : Nat → Option AV}

/-- The second half of the law: letters and numbers. -/
theorem letters_part (hC : ∀ n H, C f_format_Column [.int .i64 n] H (columnV n) H) (hN : ∀ s H, C f_format_Number [.str s] H (numV s) H) (a b : Int) :
    (∃ v u e, columnV a = .tup [v, errV 1] ∧ columnV b = .tup [u, e]) ∨ (∃ v u, columnV a = .tup [u, .nili] ∧ columnV b = .tup [v, errV 1]) ∨ ∃ x y : Nat, a = x ∧ b = y ∧ columnV a = .tup [.str (letters x), .nili] ∧ columnV b = .tup [.str (letters y), .nili] ∧ numV (letters x) = .tup [.int .i64 (x : Int), .nili] := by
  by_cases ha : a < 1 ∨ a > 1000000
  · refine .inl ?_
    by_cases hb : b < 1 ∨ b > 1000000
    · exact ⟨_, _, _, by unfold columnV; rw [if_pos ha], by unfold columnV; rw [if_pos hb]⟩
    · exact ⟨_, _, _, by unfold columnV; rw [if_pos ha], by unfold columnV; rw [if_neg hb]⟩
  by_cases hb : b < 1 ∨ b > 1000000
  · exact .inr (.inl ⟨_, _, by unfold columnV; rw [if_neg ha], by unfold columnV; rw [if_pos hb]⟩)
  obtain ⟨x, rfl⟩ : ∃ x : Nat, a = x := ⟨a.toNat, by omega⟩
  obtain ⟨y, rfl⟩ : ∃ y : Nat, b = y := ⟨b.toNat, by omega⟩
  refine .inr (.inr ⟨x, y, rfl, rfl, by unfold columnV; rw [if_neg ha]; rfl, by unfold columnV; rw [if_neg hb]; rfl, ?_⟩)
  have hx1 : 1 ≤ x := by omega
  have hx2 : x ≤ 1000000 := by omega
  have hl := letters_len hx2
  have hlet := letters_are x
  have hv := valF_letters x
  have hne : ¬ letters x = [] := by intro e; rw [e] at hv; simp [valF] at hv; omega
  unfold numV
  rw [if_neg (fun h => h.elim hne (fun h => by omega)), if_neg ?_, if_neg (by omega), hv]
  rw [List.any_eq_true]
  rintro ⟨c, hc, h⟩
  have := hlet c hc
  unfold isLetter at this
  simp only [Bool.or_eq_true, decide_eq_true_eq] at h
  omega
theorem less_fin {a b : Int} {x y : Nat} (hx : a = x) (hy : b = y) (h : decide (((letters x).length : Int) < ((letters y).length : Int)) = true ∨ False) : (AV.bool true) = .bool (negB false (decide (a < b) == true)) := by
  have hl := letters_less x y
  have h' : (letters x).length < (letters y).length := by rcases h with h | h; · simpa using h
                                                          · exact h.elim
  rw [decide_eq_true h', Bool.true_or] at hl
  have : x < y := by simpa using hl.symm
  have e : decide (a < b) = true := decide_eq_true (by omega)
  rw [e]; rfl
theorem less_fin2 {a b : Int} {x y : Nat} (hx : a = x) (hy : b = y) (h1 : decide (((letters x).length : Int) < ((letters y).length : Int)) = false) (h2 : (((letters x).length : Int) == ((letters y).length : Int)) = true) :
    (AV.bool true) = .bool (negB false (decide (a < b) == Op.bytesLess (letters x) (letters y))) := by
  have hl := letters_less x y
  have e1 : ¬ (letters x).length < (letters y).length := by simpa using h1
  have e2 : (letters x).length = (letters y).length := by simp only [beq_iff_eq] at h2; omega
  rw [decide_eq_false e1, Bool.false_or, e2, beq_self_eq_true, Bool.true_and] at hl
  have e : decide (a < b) = decide (x < y) := by rw [hx, hy]; simp
  rw [e, hl]
  simp [negB]
theorem less_fin3 {a b : Int} {x y : Nat} (hx : a = x) (hy : b = y) (h1 : decide (((letters x).length : Int) < ((letters y).length : Int)) = false) (h2 : (((letters x).length : Int) == ((letters y).length : Int)) = false) :
    (AV.bool true) = .bool (negB false (decide (a < b) == false)) := by
  have hl := letters_less x y
  have e1 : ¬ (letters x).length < (letters y).length := by simpa using h1
  have e2 : ((letters x).length == (letters y).length) = false := by
    simp only [beq_eq_false_iff_ne, ne_eq] at h2 ⊢; omega
  rw [decide_eq_false e1, Bool.false_or, e2, Bool.false_and] at hl
  have e : decide (a < b) = decide (x < y) := by rw [hx, hy]; simp
  rw [e, ← hl]
  rfl

set_option maxHeartbeats 4000000 in
theorem wides_ev (hC : ∀ n H, C f_format_Column [.int .i64 n] H (columnV n) H) (hN : ∀ s H, C f_format_Number [.str s] H (numV s) H)
    (hW : ∀ t wide side H, t.length ≤ 9223372036854775807 → C f_format_Wide [.str t, .int .i64 wide, .int .i64 side] H (wideV t wide side) H) (t : List UInt8) (wide side a b : Int) (H : Heap) (ht : t.length ≤ 9223372036854775807) :
    EFun C GT a_scclaw4_FormatWides [.str t, .int .i64 wide, .int .i64 side, .int .i64 a, .int .i64 b] H (.bool true) H := by
  have h28 : columnV 28 = .tup [.str [65, 66], .nili] := by rfl
  have hlp := letters_part hC hN a b
  have hw := hW t wide side H ht
  have q0 : C f_format_Column [.int .i64 28] H (.tup [.str [65, 66], .nili]) H := by rw [← h28]; exact hC 28 H
  refine sCall0 q0 ?_
  refine sOpt rfl ?_
  refine sOpt rfl ?_
  refine sOpt rfl ?_
  refine sCondF ?_
  refine sCondF ?_
  refine sCondF ?_
  by_cases hbad : wide < 0 ∨ wide > 200 ∨ side < 0 ∨ side > 2
  · refine sCall0 (v := .tup [.str [], errV 1]) (by unfold wideV at hw; rw [if_pos hbad] at hw; exact hw) ?_
    refine sOpt rfl ?_
    refine sOpt rfl ?_
    refine sOpt rfl ?_
    refine sCondF ?_
    rcases hlp with ⟨v, u, e, hva, hvb⟩ | ⟨v, u, hva, hvb⟩ | ⟨x, y, hx, hy, hcx, hcy, hnx⟩
    · have q1 : C f_format_Column [.int .i64 a] H (.tup [v, errV 1]) H := by rw [← hva]; exact hC a H
      have q2 : C f_format_Column [.int .i64 b] H (.tup [u, e]) H := by rw [← hvb]; exact hC b H
      refine sCall0 q1 ?_
      refine sOpt rfl ?_
      refine sOpt rfl ?_
      refine sCall0 q2 ?_
      refine sOpt rfl ?_
      refine sOpt rfl ?_
      refine sOpt rfl ?_
      refine sCondT ?_
      refine sCondT ?_
      refine sCondT ?_
      exact sRetV rfl rfl rfl rfl (Old.refl H)
    · have q1 : C f_format_Column [.int .i64 a] H (.tup [u, .nili]) H := by rw [← hva]; exact hC a H
      have q2 : C f_format_Column [.int .i64 b] H (.tup [v, errV 1]) H := by rw [← hvb]; exact hC b H
      refine sCall0 q1 ?_
      refine sOpt rfl ?_
      refine sOpt rfl ?_
      refine sCall0 q2 ?_
      refine sOpt rfl ?_
      refine sOpt rfl ?_
      refine sOpt rfl ?_
      refine sCondF ?_
      refine sOpt rfl ?_
      refine sCondF ?_
      refine sCondT ?_
      exact sRetV rfl rfl rfl rfl (Old.refl H)
    · have q1 : C f_format_Column [.int .i64 a] H (.tup [.str (letters x), .nili]) H := by rw [← hcx]; exact hC a H
      have q2 : C f_format_Column [.int .i64 b] H (.tup [.str (letters y), .nili]) H := by rw [← hcy]; exact hC b H
      have q3 : C f_format_Number [.str (letters x)] H (.tup [.int .i64 (x : Int), .nili]) H := by rw [← hnx]; exact hN (letters x) H
      refine sCall0 q1 ?_
      refine sOpt rfl ?_
      refine sOpt rfl ?_
      refine sCall0 q2 ?_
      refine sOpt rfl ?_
      refine sOpt rfl ?_
      refine sOpt rfl ?_
      refine sCondF ?_
      refine sOpt rfl ?_
      refine sCondF ?_
      refine sCondF ?_
      refine sCall0 q3 ?_
      refine sOpt rfl ?_
      refine sOpt rfl ?_
      refine sOpt rfl ?_
      refine sCondF ?_
      refine sCondF ?_
      refine sCond (fun h => absurd h (by simp only [bne_iff_ne, ne_eq]; omega)) (fun _ => ?_)
      refine sCond (fun h1 => ?_) (fun h1 => ?_)
      · refine sCondT ?_
        exact sRetE (less_fin hx hy (.inl h1)) rfl rfl rfl rfl (Old.refl H)
      · refine sCond (fun h2 => ?_) (fun h2 => ?_)
        · refine sCondT ?_
          refine sCondF ?_
          exact sRetE (less_fin2 hx hy h1 h2) rfl rfl rfl rfl (Old.refl H)
        · refine sCondF ?_
          refine sCondF ?_
          exact sRetE (less_fin3 hx hy h1 h2) rfl rfl rfl rfl (Old.refl H)
  · obtain ⟨w, hwi⟩ : ∃ w : Nat, wide = w := ⟨wide.toNat, by omega⟩
    have hw2 : C f_format_Wide [.str t, .int .i64 wide, .int .i64 side] H (.tup [.str (wideL t w side), .nili]) H := by
      unfold wideV at hw
      rw [if_neg hbad] at hw
      have : wide.toNat = w := by omega
      rw [this] at hw; exact hw
    clear hw
    subst hwi
    refine sCall0 hw2 ?_
    refine sOpt rfl ?_
    refine sOpt rfl ?_
    refine sOpt rfl ?_
    refine sCondT ?_
    refine sCond (fun h => absurd h (by rw [wideL_len]; simp)) (fun _ => ?_)
    refine sCond (fun hgt => ?_) (fun hgt => ?_)
    · simp only [decide_eq_true_eq] at hgt
      refine sCond (fun h0 => ?_) (fun h0 => ?_)
      · have hs0 : side = 0 := by simpa using h0
        refine sOpt (slice_to (wideL t w side) w (by rw [wideL_len]; omega)) ?_
        refine sOpt (slice_to t w (by omega)) ?_
        refine sCondT ?_
        refine sCond (fun h => absurd h (by rw [hs0, wideL_left t w w (by omega)]; simp)) (fun _ => ?_)
        refine sCond (fun h => absurd h (by rw [hs0]; decide)) (fun _ => ?_)
        refine sCondF ?_
        refine sCondF ?_
        refine sCondF ?_
        refine sCondF ?_
        refine sCondF ?_
        rcases hlp with ⟨v, u, e, hva, hvb⟩ | ⟨v, u, hva, hvb⟩ | ⟨x, y, hx, hy, hcx, hcy, hnx⟩
        · have q1 : C f_format_Column [.int .i64 a] H (.tup [v, errV 1]) H := by rw [← hva]; exact hC a H
          have q2 : C f_format_Column [.int .i64 b] H (.tup [u, e]) H := by rw [← hvb]; exact hC b H
          refine sCall0 q1 ?_
          refine sOpt rfl ?_
          refine sOpt rfl ?_
          refine sCall0 q2 ?_
          refine sOpt rfl ?_
          refine sOpt rfl ?_
          refine sOpt rfl ?_
          refine sCondT ?_
          refine sCondT ?_
          refine sCondT ?_
          exact sRetV rfl rfl rfl rfl (Old.refl H)
        · have q1 : C f_format_Column [.int .i64 a] H (.tup [u, .nili]) H := by rw [← hva]; exact hC a H
          have q2 : C f_format_Column [.int .i64 b] H (.tup [v, errV 1]) H := by rw [← hvb]; exact hC b H
          refine sCall0 q1 ?_
          refine sOpt rfl ?_
          refine sOpt rfl ?_
          refine sCall0 q2 ?_
          refine sOpt rfl ?_
          refine sOpt rfl ?_
          refine sOpt rfl ?_
          refine sCondF ?_
          refine sOpt rfl ?_
          refine sCondF ?_
          refine sCondT ?_
          exact sRetV rfl rfl rfl rfl (Old.refl H)
        · have q1 : C f_format_Column [.int .i64 a] H (.tup [.str (letters x), .nili]) H := by rw [← hcx]; exact hC a H
          have q2 : C f_format_Column [.int .i64 b] H (.tup [.str (letters y), .nili]) H := by rw [← hcy]; exact hC b H
          have q3 : C f_format_Number [.str (letters x)] H (.tup [.int .i64 (x : Int), .nili]) H := by rw [← hnx]; exact hN (letters x) H
          refine sCall0 q1 ?_
          refine sOpt rfl ?_
          refine sOpt rfl ?_
          refine sCall0 q2 ?_
          refine sOpt rfl ?_
          refine sOpt rfl ?_
          refine sOpt rfl ?_
          refine sCondF ?_
          refine sOpt rfl ?_
          refine sCondF ?_
          refine sCondF ?_
          refine sCall0 q3 ?_
          refine sOpt rfl ?_
          refine sOpt rfl ?_
          refine sOpt rfl ?_
          refine sCondF ?_
          refine sCondF ?_
          refine sCond (fun h => absurd h (by simp only [bne_iff_ne, ne_eq]; omega)) (fun _ => ?_)
          refine sCond (fun h1 => ?_) (fun h1 => ?_)
          · refine sCondT ?_
            exact sRetE (less_fin hx hy (.inl h1)) rfl rfl rfl rfl (Old.refl H)
          · refine sCond (fun h2 => ?_) (fun h2 => ?_)
            · refine sCondT ?_
              refine sCondF ?_
              exact sRetE (less_fin2 hx hy h1 h2) rfl rfl rfl rfl (Old.refl H)
            · refine sCondF ?_
              refine sCondF ?_
              exact sRetE (less_fin3 hx hy h1 h2) rfl rfl rfl rfl (Old.refl H)
      · refine sCondF ?_
        refine sCondF ?_
        refine sCond (fun h2 => ?_) (fun h2 => ?_)
        · have hs2 : side = 2 := by simpa using h2
          refine sCondT ?_
          refine sCond (fun h => absurd h (by simp only [decide_eq_true_eq]; omega)) (fun _ => ?_)
          refine sCondF ?_
          refine sCondF ?_
          refine sCondF ?_
          rcases hlp with ⟨v, u, e, hva, hvb⟩ | ⟨v, u, hva, hvb⟩ | ⟨x, y, hx, hy, hcx, hcy, hnx⟩
          · have q1 : C f_format_Column [.int .i64 a] H (.tup [v, errV 1]) H := by rw [← hva]; exact hC a H
            have q2 : C f_format_Column [.int .i64 b] H (.tup [u, e]) H := by rw [← hvb]; exact hC b H
            refine sCall0 q1 ?_
            refine sOpt rfl ?_
            refine sOpt rfl ?_
            refine sCall0 q2 ?_
            refine sOpt rfl ?_
            refine sOpt rfl ?_
            refine sOpt rfl ?_
            refine sCondT ?_
            refine sCondT ?_
            refine sCondT ?_
            exact sRetV rfl rfl rfl rfl (Old.refl H)
          · have q1 : C f_format_Column [.int .i64 a] H (.tup [u, .nili]) H := by rw [← hva]; exact hC a H
            have q2 : C f_format_Column [.int .i64 b] H (.tup [v, errV 1]) H := by rw [← hvb]; exact hC b H
            refine sCall0 q1 ?_
            refine sOpt rfl ?_
            refine sOpt rfl ?_
            refine sCall0 q2 ?_
            refine sOpt rfl ?_
            refine sOpt rfl ?_
            refine sOpt rfl ?_
            refine sCondF ?_
            refine sOpt rfl ?_
            refine sCondF ?_
            refine sCondT ?_
            exact sRetV rfl rfl rfl rfl (Old.refl H)
          · have q1 : C f_format_Column [.int .i64 a] H (.tup [.str (letters x), .nili]) H := by rw [← hcx]; exact hC a H
            have q2 : C f_format_Column [.int .i64 b] H (.tup [.str (letters y), .nili]) H := by rw [← hcy]; exact hC b H
            have q3 : C f_format_Number [.str (letters x)] H (.tup [.int .i64 (x : Int), .nili]) H := by rw [← hnx]; exact hN (letters x) H
            refine sCall0 q1 ?_
            refine sOpt rfl ?_
            refine sOpt rfl ?_
            refine sCall0 q2 ?_
            refine sOpt rfl ?_
            refine sOpt rfl ?_
            refine sOpt rfl ?_
            refine sCondF ?_
            refine sOpt rfl ?_
            refine sCondF ?_
            refine sCondF ?_
            refine sCall0 q3 ?_
            refine sOpt rfl ?_
            refine sOpt rfl ?_
            refine sOpt rfl ?_
            refine sCondF ?_
            refine sCondF ?_
            refine sCond (fun h => absurd h (by simp only [bne_iff_ne, ne_eq]; omega)) (fun _ => ?_)
            refine sCond (fun h1 => ?_) (fun h1 => ?_)
            · refine sCondT ?_
              exact sRetE (less_fin hx hy (.inl h1)) rfl rfl rfl rfl (Old.refl H)
            · refine sCond (fun h2 => ?_) (fun h2 => ?_)
              · refine sCondT ?_
                refine sCondF ?_
                exact sRetE (less_fin2 hx hy h1 h2) rfl rfl rfl rfl (Old.refl H)
              · refine sCondF ?_
                refine sCondF ?_
                exact sRetE (less_fin3 hx hy h1 h2) rfl rfl rfl rfl (Old.refl H)
        · refine sCondF ?_
          refine sCondF ?_
          refine sCondF ?_
          refine sCondF ?_
          refine sCondF ?_
          rcases hlp with ⟨v, u, e, hva, hvb⟩ | ⟨v, u, hva, hvb⟩ | ⟨x, y, hx, hy, hcx, hcy, hnx⟩
          · have q1 : C f_format_Column [.int .i64 a] H (.tup [v, errV 1]) H := by rw [← hva]; exact hC a H
            have q2 : C f_format_Column [.int .i64 b] H (.tup [u, e]) H := by rw [← hvb]; exact hC b H
            refine sCall0 q1 ?_
            refine sOpt rfl ?_
            refine sOpt rfl ?_
            refine sCall0 q2 ?_
            refine sOpt rfl ?_
            refine sOpt rfl ?_
            refine sOpt rfl ?_
            refine sCondT ?_
            refine sCondT ?_
            refine sCondT ?_
            exact sRetV rfl rfl rfl rfl (Old.refl H)
          · have q1 : C f_format_Column [.int .i64 a] H (.tup [u, .nili]) H := by rw [← hva]; exact hC a H
            have q2 : C f_format_Column [.int .i64 b] H (.tup [v, errV 1]) H := by rw [← hvb]; exact hC b H
            refine sCall0 q1 ?_
            refine sOpt rfl ?_
            refine sOpt rfl ?_
            refine sCall0 q2 ?_
            refine sOpt rfl ?_
            refine sOpt rfl ?_
            refine sOpt rfl ?_
            refine sCondF ?_
            refine sOpt rfl ?_
            refine sCondF ?_
            refine sCondT ?_
            exact sRetV rfl rfl rfl rfl (Old.refl H)
          · have q1 : C f_format_Column [.int .i64 a] H (.tup [.str (letters x), .nili]) H := by rw [← hcx]; exact hC a H
            have q2 : C f_format_Column [.int .i64 b] H (.tup [.str (letters y), .nili]) H := by rw [← hcy]; exact hC b H
            have q3 : C f_format_Number [.str (letters x)] H (.tup [.int .i64 (x : Int), .nili]) H := by rw [← hnx]; exact hN (letters x) H
            refine sCall0 q1 ?_
            refine sOpt rfl ?_
            refine sOpt rfl ?_
            refine sCall0 q2 ?_
            refine sOpt rfl ?_
            refine sOpt rfl ?_
            refine sOpt rfl ?_
            refine sCondF ?_
            refine sOpt rfl ?_
            refine sCondF ?_
            refine sCondF ?_
            refine sCall0 q3 ?_
            refine sOpt rfl ?_
            refine sOpt rfl ?_
            refine sOpt rfl ?_
            refine sCondF ?_
            refine sCondF ?_
            refine sCond (fun h => absurd h (by simp only [bne_iff_ne, ne_eq]; omega)) (fun _ => ?_)
            refine sCond (fun h1 => ?_) (fun h1 => ?_)
            · refine sCondT ?_
              exact sRetE (less_fin hx hy (.inl h1)) rfl rfl rfl rfl (Old.refl H)
            · refine sCond (fun h2 => ?_) (fun h2 => ?_)
              · refine sCondT ?_
                refine sCondF ?_
                exact sRetE (less_fin2 hx hy h1 h2) rfl rfl rfl rfl (Old.refl H)
              · refine sCondF ?_
                refine sCondF ?_
                exact sRetE (less_fin3 hx hy h1 h2) rfl rfl rfl rfl (Old.refl H)
    · simp only [decide_eq_false_iff_not] at hgt
      refine sCond (fun h0 => ?_) (fun h0 => ?_)
      · have hs0 : side = 0 := by simpa using h0
        refine sOpt (slice_to (wideL t w side) t.length (by rw [wideL_len]; omega)) ?_
        refine sOpt (slice_to t t.length (by omega)) ?_
        refine sCondT ?_
        refine sCond (fun h => absurd h (by rw [hs0, wideL_left t w t.length (by omega)]; simp)) (fun _ => ?_)
        refine sCond (fun h => absurd h (by rw [hs0]; decide)) (fun _ => ?_)
        refine sCondF ?_
        refine sCondF ?_
        refine sCondF ?_
        refine sCondF ?_
        refine sCondF ?_
        rcases hlp with ⟨v, u, e, hva, hvb⟩ | ⟨v, u, hva, hvb⟩ | ⟨x, y, hx, hy, hcx, hcy, hnx⟩
        · have q1 : C f_format_Column [.int .i64 a] H (.tup [v, errV 1]) H := by rw [← hva]; exact hC a H
          have q2 : C f_format_Column [.int .i64 b] H (.tup [u, e]) H := by rw [← hvb]; exact hC b H
          refine sCall0 q1 ?_
          refine sOpt rfl ?_
          refine sOpt rfl ?_
          refine sCall0 q2 ?_
          refine sOpt rfl ?_
          refine sOpt rfl ?_
          refine sOpt rfl ?_
          refine sCondT ?_
          refine sCondT ?_
          refine sCondT ?_
          exact sRetV rfl rfl rfl rfl (Old.refl H)
        · have q1 : C f_format_Column [.int .i64 a] H (.tup [u, .nili]) H := by rw [← hva]; exact hC a H
          have q2 : C f_format_Column [.int .i64 b] H (.tup [v, errV 1]) H := by rw [← hvb]; exact hC b H
          refine sCall0 q1 ?_
          refine sOpt rfl ?_
          refine sOpt rfl ?_
          refine sCall0 q2 ?_
          refine sOpt rfl ?_
          refine sOpt rfl ?_
          refine sOpt rfl ?_
          refine sCondF ?_
          refine sOpt rfl ?_
          refine sCondF ?_
          refine sCondT ?_
          exact sRetV rfl rfl rfl rfl (Old.refl H)
        · have q1 : C f_format_Column [.int .i64 a] H (.tup [.str (letters x), .nili]) H := by rw [← hcx]; exact hC a H
          have q2 : C f_format_Column [.int .i64 b] H (.tup [.str (letters y), .nili]) H := by rw [← hcy]; exact hC b H
          have q3 : C f_format_Number [.str (letters x)] H (.tup [.int .i64 (x : Int), .nili]) H := by rw [← hnx]; exact hN (letters x) H
          refine sCall0 q1 ?_
          refine sOpt rfl ?_
          refine sOpt rfl ?_
          refine sCall0 q2 ?_
          refine sOpt rfl ?_
          refine sOpt rfl ?_
          refine sOpt rfl ?_
          refine sCondF ?_
          refine sOpt rfl ?_
          refine sCondF ?_
          refine sCondF ?_
          refine sCall0 q3 ?_
          refine sOpt rfl ?_
          refine sOpt rfl ?_
          refine sOpt rfl ?_
          refine sCondF ?_
          refine sCondF ?_
          refine sCond (fun h => absurd h (by simp only [bne_iff_ne, ne_eq]; omega)) (fun _ => ?_)
          refine sCond (fun h1 => ?_) (fun h1 => ?_)
          · refine sCondT ?_
            exact sRetE (less_fin hx hy (.inl h1)) rfl rfl rfl rfl (Old.refl H)
          · refine sCond (fun h2 => ?_) (fun h2 => ?_)
            · refine sCondT ?_
              refine sCondF ?_
              exact sRetE (less_fin2 hx hy h1 h2) rfl rfl rfl rfl (Old.refl H)
            · refine sCondF ?_
              refine sCondF ?_
              exact sRetE (less_fin3 hx hy h1 h2) rfl rfl rfl rfl (Old.refl H)
      · refine sCondF ?_
        refine sCondF ?_
        refine sCond (fun h2 => ?_) (fun h2 => ?_)
        · have hs2 : side = 2 := by simpa using h2
          refine sCondT ?_
          refine sCond (fun _ => ?_) (fun h => absurd h (by simp only [decide_eq_false_iff_not]; omega))
          refine sW64n (r := w - t.length) (by omega) (by omega) ?_
          refine sOpt (slice_from (wideL t w side) (w - t.length) (by rw [wideL_len]; omega)) ?_
          refine sCondT ?_
          refine sCondF ?_
          refine sCond (fun h => absurd h (by rw [hs2, wideL_right t w (by omega)]; simp)) (fun _ => ?_)
          rcases hlp with ⟨v, u, e, hva, hvb⟩ | ⟨v, u, hva, hvb⟩ | ⟨x, y, hx, hy, hcx, hcy, hnx⟩
          · have q1 : C f_format_Column [.int .i64 a] H (.tup [v, errV 1]) H := by rw [← hva]; exact hC a H
            have q2 : C f_format_Column [.int .i64 b] H (.tup [u, e]) H := by rw [← hvb]; exact hC b H
            refine sCall0 q1 ?_
            refine sOpt rfl ?_
            refine sOpt rfl ?_
            refine sCall0 q2 ?_
            refine sOpt rfl ?_
            refine sOpt rfl ?_
            refine sOpt rfl ?_
            refine sCondT ?_
            refine sCondT ?_
            refine sCondT ?_
            exact sRetV rfl rfl rfl rfl (Old.refl H)
          · have q1 : C f_format_Column [.int .i64 a] H (.tup [u, .nili]) H := by rw [← hva]; exact hC a H
            have q2 : C f_format_Column [.int .i64 b] H (.tup [v, errV 1]) H := by rw [← hvb]; exact hC b H
            refine sCall0 q1 ?_
            refine sOpt rfl ?_
            refine sOpt rfl ?_
            refine sCall0 q2 ?_
            refine sOpt rfl ?_
            refine sOpt rfl ?_
            refine sOpt rfl ?_
            refine sCondF ?_
            refine sOpt rfl ?_
            refine sCondF ?_
            refine sCondT ?_
            exact sRetV rfl rfl rfl rfl (Old.refl H)
          · have q1 : C f_format_Column [.int .i64 a] H (.tup [.str (letters x), .nili]) H := by rw [← hcx]; exact hC a H
            have q2 : C f_format_Column [.int .i64 b] H (.tup [.str (letters y), .nili]) H := by rw [← hcy]; exact hC b H
            have q3 : C f_format_Number [.str (letters x)] H (.tup [.int .i64 (x : Int), .nili]) H := by rw [← hnx]; exact hN (letters x) H
            refine sCall0 q1 ?_
            refine sOpt rfl ?_
            refine sOpt rfl ?_
            refine sCall0 q2 ?_
            refine sOpt rfl ?_
            refine sOpt rfl ?_
            refine sOpt rfl ?_
            refine sCondF ?_
            refine sOpt rfl ?_
            refine sCondF ?_
            refine sCondF ?_
            refine sCall0 q3 ?_
            refine sOpt rfl ?_
            refine sOpt rfl ?_
            refine sOpt rfl ?_
            refine sCondF ?_
            refine sCondF ?_
            refine sCond (fun h => absurd h (by simp only [bne_iff_ne, ne_eq]; omega)) (fun _ => ?_)
            refine sCond (fun h1 => ?_) (fun h1 => ?_)
            · refine sCondT ?_
              exact sRetE (less_fin hx hy (.inl h1)) rfl rfl rfl rfl (Old.refl H)
            · refine sCond (fun h2 => ?_) (fun h2 => ?_)
              · refine sCondT ?_
                refine sCondF ?_
                exact sRetE (less_fin2 hx hy h1 h2) rfl rfl rfl rfl (Old.refl H)
              · refine sCondF ?_
                refine sCondF ?_
                exact sRetE (less_fin3 hx hy h1 h2) rfl rfl rfl rfl (Old.refl H)
        · refine sCondF ?_
          refine sCondF ?_
          refine sCondF ?_
          refine sCondF ?_
          refine sCondF ?_
          rcases hlp with ⟨v, u, e, hva, hvb⟩ | ⟨v, u, hva, hvb⟩ | ⟨x, y, hx, hy, hcx, hcy, hnx⟩
          · have q1 : C f_format_Column [.int .i64 a] H (.tup [v, errV 1]) H := by rw [← hva]; exact hC a H
            have q2 : C f_format_Column [.int .i64 b] H (.tup [u, e]) H := by rw [← hvb]; exact hC b H
            refine sCall0 q1 ?_
            refine sOpt rfl ?_
            refine sOpt rfl ?_
            refine sCall0 q2 ?_
            refine sOpt rfl ?_
            refine sOpt rfl ?_
            refine sOpt rfl ?_
            refine sCondT ?_
            refine sCondT ?_
            refine sCondT ?_
            exact sRetV rfl rfl rfl rfl (Old.refl H)
          · have q1 : C f_format_Column [.int .i64 a] H (.tup [u, .nili]) H := by rw [← hva]; exact hC a H
            have q2 : C f_format_Column [.int .i64 b] H (.tup [v, errV 1]) H := by rw [← hvb]; exact hC b H
            refine sCall0 q1 ?_
            refine sOpt rfl ?_
            refine sOpt rfl ?_
            refine sCall0 q2 ?_
            refine sOpt rfl ?_
            refine sOpt rfl ?_
            refine sOpt rfl ?_
            refine sCondF ?_
            refine sOpt rfl ?_
            refine sCondF ?_
            refine sCondT ?_
            exact sRetV rfl rfl rfl rfl (Old.refl H)
          · have q1 : C f_format_Column [.int .i64 a] H (.tup [.str (letters x), .nili]) H := by rw [← hcx]; exact hC a H
            have q2 : C f_format_Column [.int .i64 b] H (.tup [.str (letters y), .nili]) H := by rw [← hcy]; exact hC b H
            have q3 : C f_format_Number [.str (letters x)] H (.tup [.int .i64 (x : Int), .nili]) H := by rw [← hnx]; exact hN (letters x) H
            refine sCall0 q1 ?_
            refine sOpt rfl ?_
            refine sOpt rfl ?_
            refine sCall0 q2 ?_
            refine sOpt rfl ?_
            refine sOpt rfl ?_
            refine sOpt rfl ?_
            refine sCondF ?_
            refine sOpt rfl ?_
            refine sCondF ?_
            refine sCondF ?_
            refine sCall0 q3 ?_
            refine sOpt rfl ?_
            refine sOpt rfl ?_
            refine sOpt rfl ?_
            refine sCondF ?_
            refine sCondF ?_
            refine sCond (fun h => absurd h (by simp only [bne_iff_ne, ne_eq]; omega)) (fun _ => ?_)
            refine sCond (fun h1 => ?_) (fun h1 => ?_)
            · refine sCondT ?_
              exact sRetE (less_fin hx hy (.inl h1)) rfl rfl rfl rfl (Old.refl H)
            · refine sCond (fun h2 => ?_) (fun h2 => ?_)
              · refine sCondT ?_
                refine sCondF ?_
                exact sRetE (less_fin2 hx hy h1 h2) rfl rfl rfl rfl (Old.refl H)
              · refine sCondF ?_
                refine sCondF ?_
                exact sRetE (less_fin3 hx hy h1 h2) rfl rfl rfl rfl (Old.refl H)
end
end Go.AM
