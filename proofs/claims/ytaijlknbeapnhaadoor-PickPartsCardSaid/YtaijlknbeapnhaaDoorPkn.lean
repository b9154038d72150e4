/- The merge in the law PickParts: its walk. Own work. -/
import Derived.Test.YtaijlknbeapnhaaDoorPkm
set_option linter.all false
namespace Go.AM
section
variable {C : CSpec} {GT : Nat → Option AV}

structure SPm where
  k : Nat
  i : Nat

set_option maxHeartbeats 1000000 in
theorem parts_merge (H0 H1 : Heap) (tv wv : AV) (a b : List Nat) (ha : a.Pairwise (· < ·)) (hb : b.Pairwise (· < ·)) (la : a.length ≤ 60) (lb : b.length ≤ 60) (hl : Left a b 0 0)
    (tail : EW C GT (b_scclaw4_PickParts.behind 9) (finF a_scclaw4_PickParts H0 (.bool true) H0) [(0, tv), (1, wv)] H1) :
    EW C GT (b_scclaw4_PickParts.behind 7) (finF a_scclaw4_PickParts H0 (.bool true) H0) [(7, lstF 1 (a.map natV)), (9, lstF 1 (b.map natV)), (0, tv), (1, wv)] H1 := by
  refine sLoop (fun s : SPm => [(11, .int .i64 s.k), (12, .int .i64 s.i), (7, lstF 1 (a.map natV)), (9, lstF 1 (b.map natV)), (0, tv), (1, wv)]) (fun s H2 => H2 = H1 ∧ s.k ≤ b.length ∧ s.i ≤ a.length ∧ Left a b s.i s.k) (fun s => a.length - s.i) ⟨0, 0⟩ rfl ⟨rfl, Nat.zero_le _, Nat.zero_le _, hl⟩ (fun ⟨k, i⟩ H2 ⟨e, hk, hi, hL⟩ => ?_)
  subst e
  simp only at hk hi hL
  dsimp only
  refine sLenO a.length (lstF_of 1 _) (by simp) ?_
  refine sCond (fun hlt => ?_) (fun hlt => ?_)
  · have hlt : i < a.length := by have := of_decide_eq_true hlt; omega
    have hai : a[i]? = some a[i] := List.getElem?_eq_getElem hlt
    obtain ⟨x, hx⟩ : ∃ x, a[i] = x := ⟨_, rfl⟩
    rw [hx] at hai
    refine sLoop (σ := Nat) (fun k => [(11, .int .i64 k), (7, lstF 1 (a.map natV)), (9, lstF 1 (b.map natV)), (0, tv), (1, wv), (12, .int .i64 i)]) (fun k H3 => H3 = H2 ∧ k ≤ b.length ∧ Left a b i k) (fun k => b.length - k) k rfl ⟨rfl, hk, hL⟩ (fun k H3 ⟨e, hk, hL⟩ => ?_)
    subst e
    refine sLenO b.length (lstF_of 1 _) (by simp) ?_
    obtain ⟨f1, f2⟩ := hL.found hb hai
    have hbk : b[k]? = some b[k] := List.getElem?_eq_getElem f1
    refine sCond (fun _ => ?_) (fun h => absurd (of_decide_eq_false h) (by omega))
    refine sIdxO k (natV b[k]) (lstF_of 1 _) rfl (by rw [List.getElem?_map, hbk]; rfl) ?_
    refine sLoadL (natV b[k]) rfl ?_
    refine sIdxO i (natV x) (lstF_of 1 _) rfl (by rw [List.getElem?_map, hai]; rfl) ?_
    refine sLoadL (natV x) rfl ?_
    refine sCondT ?_
    refine sCond (fun h => ?_) (fun h => ?_)
    · have h : b[k] < x := by have := of_decide_eq_true h; omega
      refine sW64n (r := k + 1) rfl (by omega) ?_
      exact sNext (k + 1) rfl ⟨rfl, by omega, hL.next ha hai hbk h⟩ (by omega)
    · have h : ¬ b[k] < x := by have := of_decide_eq_false h; omega
      have hbx := f2 _ hbk h
      refine sLenO b.length (lstF_of 1 _) (by simp) ?_
      refine sCond (fun h => absurd (eq_of_beq h) (by omega)) (fun _ => ?_)
      refine sIdxO k (natV b[k]) (lstF_of 1 _) rfl (by rw [List.getElem?_map, hbk]; rfl) ?_
      refine sLoadL (natV b[k]) rfl ?_
      refine sIdxO i (natV x) (lstF_of 1 _) rfl (by rw [List.getElem?_map, hai]; rfl) ?_
      refine sLoadL (natV x) rfl ?_
      refine sCondF ?_
      refine sCond (fun h => absurd h (by rw [hbx]; simp)) (fun _ => ?_)
      refine sW64n (r := i + 1) rfl (by omega) ?_
      exact sNext (SPm.mk k (i + 1)) rfl ⟨rfl, by simp only; omega, by simp only; omega, hL.succ⟩ (by simp only; omega)
  · refine sTail rfl tail ?_
    rfl
end
end Go.AM
