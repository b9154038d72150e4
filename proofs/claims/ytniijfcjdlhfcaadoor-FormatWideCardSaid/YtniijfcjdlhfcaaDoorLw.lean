/- The walk of the law FormatWide. Own work. -/
import Derived.Test.YtniijfcjdlhfcaaDoorWd
set_option linter.all false
namespace Go.AM

section
variable {C : CSpec} {GT : Nat → Option AV}

theorem fw_fin (hN : ∀ s H, C f_format_Number [.str s] H (numV s) H) (hE : ∀ x n e H, ErrIs x n → C f_sccsame_Error [x, .int .i64 e] H (.bool (n == e)) H) (t : List UInt8) (H : Heap) (n : Nat) (e : Int) (ev : AV)
    (h : numV t = .tup [.int .i64 n, ev]) (he : ErrIs ev e) :
    EW C GT (b_scclaw3_FormatWide.behind 18) (finF a_scclaw3_FormatWide H (.bool true) H) [(14, .int .i64 n), (9, .int .i64 e), (0, .str t)] H := by
  have r1 := hN t H
  rw [h] at r1
  have r2 := hE ev e e H he
  rw [beq_self_eq_true] at r2
  refine sCall0 r1 ?_
  refine sOpt rfl ?_
  refine sOpt rfl ?_
  refine sCall0 r2 ?_
  refine sCondT ?_
  refine sCondT ?_
  exact sRetE (v0 := .bool ((n : Int) == n)) (by simp) rfl rfl rfl rfl (Old.refl _)

structure SN3 where
  i : Nat
  n : Nat
  ok : Bool

set_option maxHeartbeats 1000000 in
theorem fw_num (hN : ∀ s H, C f_format_Number [.str s] H (numV s) H) (hE : ∀ x n e H, ErrIs x n → C f_sccsame_Error [x, .int .i64 e] H (.bool (n == e)) H) (t : List UInt8) (H : Heap) (ht : t.length ≤ 9223372036854775807) :
    EW C GT (b_scclaw3_FormatWide.behind 13) (finF a_scclaw3_FormatWide H (.bool true) H) [(0, .str t)] H := by
  have bad : t = [] ∨ t.length > 5 ∨ (t.any fun c => decide ((c.toNat : Int) < 65) || decide ((c.toNat : Int) > 90)) = true → numV t = .tup [.int .i64 0, errV 2] := by
    intro h
    unfold numV
    by_cases h1 : t = [] ∨ t.length > 5
    · rw [if_pos h1]
    · rw [if_neg h1, if_pos (by rcases h with h | h | h; exact absurd (.inl h) h1; exact absurd (.inr h) h1; exact h)]
  have good : t ≠ [] → t.length ≤ 5 → (∀ c ∈ t, isLetter c) → numV t = if valF t > 1000000 then .tup [.int .i64 0, errV 2] else .tup [.int .i64 (valF t), .nili] := by
    intro h1 h2 h3
    unfold numV
    rw [if_neg (by rintro (h | h); exact h1 h; omega), if_neg]
    intro h
    obtain ⟨c, hc, hb⟩ := List.any_eq_true.1 h
    have := h3 c hc
    unfold isLetter at this
    simp only [Bool.or_eq_true, decide_eq_true_eq] at hb
    omega
  have tail : ∀ (i n : Nat) (ok : Bool), (ok = true → i = t.length ∧ t ≠ [] ∧ t.length ≤ 5 ∧ n = valF t ∧ ∀ c ∈ t, isLetter c) → (ok = false → t = [] ∨ t.length > 5 ∨ (t.any fun c => decide ((c.toNat : Int) < 65) || decide ((c.toNat : Int) > 90)) = true) →
      EW C GT (b_scclaw3_FormatWide.behind 17) (finF a_scclaw3_FormatWide H (.bool true) H) [(14, .int .i64 n), (0, .str t), (9, .int .i64 2), (15, .bool ok)] H := by
    intro i n ok h1 h2
    cases ok with
    | true =>
      obtain ⟨_, a1, a2, a3, a4⟩ := h1 rfl
      have hg := good a1 a2 a4
      refine sCondT ?_
      refine sCondT ?_
      refine sCond (fun h => ?_) (fun h => ?_)
      · have h : n ≤ 1000000 := by have := of_decide_eq_true h; omega
        rw [if_neg (by omega), ← a3] at hg
        refine sTail rfl (fw_fin hN hE t H n 0 .nili hg (.inl ⟨rfl, rfl⟩)) ?_
        rfl
      · have h : ¬ n ≤ 1000000 := by have := of_decide_eq_false h; omega
        rw [if_pos (by omega)] at hg
        refine sTail rfl (fw_fin hN hE t H 0 2 (errV 2) hg (.inr rfl)) ?_
        rfl
    | false =>
      refine sCondF ?_
      refine sCondF ?_
      refine sCondF ?_
      refine sTail rfl (fw_fin hN hE t H 0 2 (errV 2) (bad (h2 rfl)) (.inr rfl)) ?_
      rfl
  have loop : ∀ ok0 : Bool, (ok0 = true → t ≠ [] ∧ t.length ≤ 5) → (ok0 = false → t = [] ∨ t.length > 5) →
      EW C GT (b_scclaw3_FormatWide.behind 16) (finF a_scclaw3_FormatWide H (.bool true) H) [(14, .int .i64 0), (0, .str t), (9, .int .i64 2), (15, .bool ok0)] H := by
    intro ok0 h1 h2
    refine sLoop (fun x : SN3 => [(16, .int .i64 x.i), (0, .str t), (14, .int .i64 x.n), (9, .int .i64 2), (15, .bool x.ok)])
      (fun x H1 => H1 = H ∧ x.i ≤ t.length ∧ (x.ok = true → t ≠ [] ∧ t.length ≤ 5 ∧ x.n = valF (t.take x.i) ∧ ∀ c ∈ t.take x.i, isLetter c) ∧ (x.ok = false → t = [] ∨ t.length > 5 ∨ (t.any fun c => decide ((c.toNat : Int) < 65) || decide ((c.toNat : Int) > 90)) = true))
      (fun x => t.length - x.i) ⟨0, 0, ok0⟩ rfl ⟨rfl, Nat.zero_le _, fun h => ⟨(h1 h).1, (h1 h).2, rfl, fun c hc => by simp at hc⟩, fun h => (h2 h).elim .inl (fun h => .inr (.inl h))⟩ (fun ⟨i, n, ok⟩ H1 ⟨e1, hi, hok, hno⟩ => ?_)
    subst e1
    simp only at hi hok hno
    dsimp only
    refine sCond (fun hlt => ?_) (fun hlt => ?_)
    · have hlt : i < t.length := by have := of_decide_eq_true hlt; omega
      refine sCondT ?_
      cases ok with
      | false =>
        refine sCondF ?_
        refine sTail rfl (tail i n false (fun h => by cases h) hno) ?_
        rfl
      | true =>
        obtain ⟨a1, a2, a3, a4⟩ := hok rfl
        refine sCondT ?_
        have hc : t[i]? = some t[i] := List.getElem?_eq_getElem hlt
        have hnb : n ≤ 12356630 := by
          have b1 := (valF_bounds _ a4).2
          have b2 := rep1_mono (show (t.take i).length ≤ 5 by rw [List.length_take]; omega)
          have b3 : rep1 5 = 475255 := by decide
          omega
        have next : (t[i].toNat < 65 ∨ t[i].toNat > 90) → ∀ x : Nat, (SN3.mk (i + 1) x false).i ≤ t.length ∧ ((SN3.mk (i + 1) x false).ok = true → t ≠ [] ∧ t.length ≤ 5 ∧ (SN3.mk (i + 1) x false).n = valF (t.take (i + 1)) ∧ ∀ c ∈ t.take (i + 1), isLetter c) ∧ ((SN3.mk (i + 1) x false).ok = false → t = [] ∨ t.length > 5 ∨ (t.any fun c => decide ((c.toNat : Int) < 65) || decide ((c.toNat : Int) > 90)) = true) := by
          intro hb x
          refine ⟨by simp only; omega, fun h => (by cases h), fun _ => .inr (.inr (List.any_eq_true.2 ⟨_, List.mem_of_getElem? hc, ?_⟩))⟩
          simp only [Bool.or_eq_true, decide_eq_true_eq]
          omega
        refine sChr rfl hc ?_
        refine sCond (fun hb => ?_) (fun hb => ?_)
        · have hb : t[i].toNat < 65 := by have := of_decide_eq_true hb; omega
          refine sCondT ?_
          refine sCondT ?_
          refine sW64n (r := i + 1) rfl (by omega) ?_
          exact sNext (SN3.mk (i + 1) n false) rfl ⟨rfl, next (.inl hb) n⟩ (by simp only; omega)
        · have hb : ¬ t[i].toNat < 65 := by have := of_decide_eq_false hb; omega
          refine sChr rfl hc ?_
          refine sCondF ?_
          refine sCond (fun hb' => ?_) (fun hb' => ?_)
          · have hb' : t[i].toNat > 90 := by have := of_decide_eq_true hb'; omega
            refine sW64n (r := i + 1) rfl (by omega) ?_
            exact sNext (SN3.mk (i + 1) n false) rfl ⟨rfl, next (.inr hb') n⟩ (by simp only; omega)
          · have hb' : ¬ t[i].toNat > 90 := by have := of_decide_eq_false hb'; omega
            refine sW64n (r := n * 26) (by omega) (by omega) ?_
            refine sChr rfl hc ?_
            refine sW64n (r := t[i].toNat) rfl (by omega) ?_
            refine sW64n (r := n * 26 + t[i].toNat) (by omega) (by omega) ?_
            refine sW64n (r := n * 26 + (t[i].toNat - 64)) (by omega) (by omega) ?_
            refine sW64n (r := i + 1) rfl (by omega) ?_
            refine sNext (SN3.mk (i + 1) (n * 26 + (t[i].toNat - 64)) true) rfl ⟨rfl, by simp only; omega, fun _ => ⟨a1, a2, ?_, fun c hcm => ?_⟩, fun h => (by cases h)⟩ (by simp only; omega)
            · simp only
              rw [List.take_succ_eq_append_getElem hlt, valF_snoc, a3]
            · simp only at hcm
              rw [List.take_succ_eq_append_getElem hlt, List.mem_append, List.mem_singleton] at hcm
              rcases hcm with hcm | rfl
              · exact a4 c hcm
              · unfold isLetter; omega
    · have hge : i = t.length := by have := of_decide_eq_false hlt; omega
      subst hge
      refine sCondF ?_
      refine sCondF ?_
      refine sTail rfl (tail t.length n ok (fun h => by
        obtain ⟨a1, a2, a3, a4⟩ := hok h
        rw [List.take_length] at a3 a4
        exact ⟨rfl, a1, a2, a3, a4⟩) hno) ?_
      rfl
  by_cases hne : t = []
  · subst hne
    refine sCondF ?_
    refine sCondF ?_
    refine sTail rfl (loop false (fun h => by cases h) (fun _ => .inl rfl)) ?_
    rfl
  · have hb : (!(t == [])) = true := by simpa using hne
    refine sCond (fun _ => ?_) (fun h => absurd hb (by rw [h]; simp))
    refine sCondT ?_
    refine sTail rfl (loop (decide ((t.length : Int) ≤ 5)) (fun h => ⟨hne, by have := of_decide_eq_true h; omega⟩) (fun h => .inr (by have := of_decide_eq_false h; omega))) ?_
    rfl

set_option maxHeartbeats 1000000 in
theorem fw_col (hC : ∀ n H, C f_format_Column [.int .i64 n] H (columnV n) H) (hL : ∀ (N : Nat) H, N ≤ 1000000 → C f_sccref3_Letters [.int .i64 N] H (.str (letters N)) H)
    (hN : ∀ s H, C f_format_Number [.str s] H (numV s) H) (hE : ∀ x n e H, ErrIs x n → C f_sccsame_Error [x, .int .i64 e] H (.bool (n == e)) H) (t : List UInt8) (col : Int) (H : Heap) (ht : t.length ≤ 9223372036854775807) :
    EW C GT (b_scclaw3_FormatWide.behind 7) (finF a_scclaw3_FormatWide H (.bool true) H) [(0, .str t), (3, .int .i64 col)] H := by
  have tail : ∀ (want : List UInt8) (e : Int) (ev : AV), columnV col = .tup [.str want, ev] → ErrIs ev e → EW C GT (b_scclaw3_FormatWide.behind 10) (finF a_scclaw3_FormatWide H (.bool true) H) [(0, .str t), (10, .str want), (9, .int .i64 e), (3, .int .i64 col)] H := by
    intro want e ev h he
    have r1 := hC col H
    rw [h] at r1
    have r2 := hE ev e e H he
    rw [beq_self_eq_true] at r2
    refine sCall0 r1 ?_
    refine sOpt rfl ?_
    refine sOpt rfl ?_
    refine sCall0 r2 ?_
    refine sCondF ?_
    refine sCondF ?_
    refine sCond (fun h => absurd h (by simp)) (fun _ => ?_)
    refine sTail rfl (fw_num hN hE t H ht) ?_
    rfl
  by_cases h1 : col < 1
  · refine sCond (fun h => absurd (of_decide_eq_true h) (by omega)) (fun _ => ?_)
    refine sCondF ?_
    refine sCondF ?_
    refine sTail rfl (tail [] 1 (errV 1) (by unfold columnV; rw [if_pos (.inl h1)]) (.inr rfl)) ?_
    rfl
  refine sCond (fun _ => ?_) (fun h => absurd (of_decide_eq_false h) (by omega))
  refine sCondT ?_
  by_cases h2 : col > 1000000
  · refine sCond (fun h => absurd (of_decide_eq_true h) (by omega)) (fun _ => ?_)
    refine sTail rfl (tail [] 1 (errV 1) (by unfold columnV; rw [if_pos (.inr h2)]) (.inr rfl)) ?_
    rfl
  refine sCond (fun _ => ?_) (fun h => absurd (of_decide_eq_false h) (by omega))
  obtain ⟨N, rfl⟩ : ∃ N : Nat, col = N := ⟨col.toNat, by omega⟩
  refine sCall0 (hL N H (by omega)) ?_
  refine sTail rfl (tail (letters N) 0 .nili (by unfold columnV; rw [if_neg (by omega)]; rfl) (.inl ⟨rfl, rfl⟩)) ?_
  rfl

set_option maxHeartbeats 1000000 in
theorem format_wide_ev (hW : ∀ (t : List UInt8) (wide side : Int) H, t.length ≤ 9223372036854775807 → C f_format_Wide [.str t, .int .i64 wide, .int .i64 side] H (wideV t wide side) H)
    (hW3 : ∀ (t : List UInt8) (w : Nat) (side : Int) H, t.length ≤ 140737488355328 → w ≤ 200 → (side = 0 ∨ side = 1 ∨ side = 2) → C f_sccref3_Wide [.str t, .int .i64 w, .int .i64 side] H (.str (wideL t w side)) H)
    (hC : ∀ n H, C f_format_Column [.int .i64 n] H (columnV n) H) (hL : ∀ (N : Nat) H, N ≤ 1000000 → C f_sccref3_Letters [.int .i64 N] H (.str (letters N)) H)
    (hN : ∀ s H, C f_format_Number [.str s] H (numV s) H) (hE : ∀ x n e H, ErrIs x n → C f_sccsame_Error [x, .int .i64 e] H (.bool (n == e)) H) (t : List UInt8) (wide side col : Int) (H : Heap) (ht : t.length ≤ 140737488355328) :
    EFun C GT a_scclaw3_FormatWide [.str t, .int .i64 wide, .int .i64 side, .int .i64 col] H (.bool true) H := by
  have tail : ∀ (want : List UInt8) (e : Int) (ev : AV), wideV t wide side = .tup [.str want, ev] → ErrIs ev e → EW C GT (b_scclaw3_FormatWide.behind 4) (finF a_scclaw3_FormatWide H (.bool true) H) [(0, .str t), (3, .int .i64 col), (10, .str want), (9, .int .i64 e), (2, .int .i64 side), (1, .int .i64 wide)] H := by
    intro want e ev h he
    have r1 := hW t wide side H (by omega)
    rw [h] at r1
    have r2 := hE ev e e H he
    rw [beq_self_eq_true] at r2
    refine sCall0 r1 ?_
    refine sOpt rfl ?_
    refine sOpt rfl ?_
    refine sCall0 r2 ?_
    refine sCondF ?_
    refine sCondF ?_
    refine sCond (fun h => absurd h (by simp)) (fun _ => ?_)
    refine sTail rfl (fw_col hC hL hN hE t col H (by omega)) ?_
    rfl
  have bad : (wide < 0 ∨ wide > 200 ∨ side < 0 ∨ side > 2) → wideV t wide side = .tup [.str [], errV 1] := fun h => by unfold wideV; rw [if_pos h]
  refine efun_of ?_
  by_cases h1 : wide < 0
  · refine sCond (fun h => absurd (of_decide_eq_true h) (by omega)) (fun _ => ?_)
    refine sCondF ?_
    refine sCondF ?_
    refine sCondF ?_
    refine sCondF ?_
    refine sCondF ?_
    refine sCondF ?_
    refine sTail rfl (tail [] 1 (errV 1) (bad (.inl h1)) (.inr rfl)) ?_
    rfl
  refine sCond (fun _ => ?_) (fun h => absurd (of_decide_eq_false h) (by omega))
  refine sCondT ?_
  by_cases h2 : wide > 200
  · refine sCond (fun h => absurd (of_decide_eq_true h) (by omega)) (fun _ => ?_)
    refine sCondF ?_
    refine sCondF ?_
    refine sCondF ?_
    refine sCondF ?_
    refine sTail rfl (tail [] 1 (errV 1) (bad (.inr (.inl h2))) (.inr rfl)) ?_
    rfl
  refine sCond (fun _ => ?_) (fun h => absurd (of_decide_eq_false h) (by omega))
  refine sCondT ?_
  by_cases h3 : side < 0
  · refine sCond (fun h => absurd (of_decide_eq_true h) (by omega)) (fun _ => ?_)
    refine sCondF ?_
    refine sCondF ?_
    refine sTail rfl (tail [] 1 (errV 1) (bad (.inr (.inr (.inl h3)))) (.inr rfl)) ?_
    rfl
  refine sCond (fun _ => ?_) (fun h => absurd (of_decide_eq_false h) (by omega))
  refine sCondT ?_
  by_cases h4 : side > 2
  · refine sCond (fun h => absurd (of_decide_eq_true h) (by omega)) (fun _ => ?_)
    refine sTail rfl (tail [] 1 (errV 1) (bad (.inr (.inr (.inr h4)))) (.inr rfl)) ?_
    rfl
  refine sCond (fun _ => ?_) (fun h => absurd (of_decide_eq_false h) (by omega))
  obtain ⟨w, rfl⟩ : ∃ w : Nat, wide = w := ⟨wide.toNat, by omega⟩
  refine sCall0 (hW3 t w side H ht (by omega) (by omega)) ?_
  refine sTail rfl (tail (wideL t w side) 0 .nili (by unfold wideV; rw [if_neg (by omega)]; rfl) (.inl ⟨rfl, rfl⟩)) ?_
  rfl
end
end Go.AM
