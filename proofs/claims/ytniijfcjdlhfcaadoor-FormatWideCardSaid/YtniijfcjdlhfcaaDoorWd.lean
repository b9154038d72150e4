/- The walks of the reference's Wide and Letters. Own work. -/
import Derived.Test.YtniijfcjdlhfcaaDoorFw
import Derived.Test.YtniijfcjdlhfcaaDoorAm27
set_option linter.all false
namespace Go.AM
open Go.Lib (repeatL repeatL_length)

theorem owns_cut {H0 H : Heap} {v : AV} {k : Nat} {xs : List AV} (h : Owns H0 H v k xs) (w : Nat) (hw : w ≤ xs.length) : ∃ v', aSlice (some k) v none (some (.int .i64 (w : Int))) = some v' ∧ view H k v' = some (xs.take w) := by
  rcases h with ⟨rfl, rfl⟩ | ⟨b, rfl, _, h2, _⟩
  · obtain rfl : w = 0 := by simpa using hw
    exact ⟨.lst (some true) 0 [], by simp [aSlice, aBounds, aHi, aLo, cutQL], by simp [view]⟩
  · refine ⟨.sl (cutQ (some true) 0 w) b k (0 + 0) (w - 0), ?_, ?_⟩
    · simp only [aSlice, aBounds, aHi, aLo, if_true]
      rw [if_pos ⟨by omega, by omega⟩]
      simp
    · simp [view, h2, hw]

theorem sStrV {H : Heap} {v : AV} {u : List UInt8} {K : AV → Heap → Prop} (hv : view H 1 v = some (u.map byteAV)) (q : K (.str u) H) : actP .bytesToStr [v] H K :=
  sAct (by simp only [astep, hv, bytesOf_map, Option.map_some]) q

theorem spaces_map (n : Nat) : (spaces (n + 1)).map byteAV = (spaces n).map byteAV ++ [byteAV 32] := by
  have h : ∀ n, spaces n = List.replicate n 32 := by
    intro n
    induction n with
    | zero => rfl
    | succ n ih =>
      show repeatL [32] (n + 1) = _
      have : repeatL [(32 : UInt8)] (n + 1) = [32] ++ repeatL [32] n := rfl
      rw [this, List.replicate_succ, ← ih]; rfl
  rw [h, h, List.replicate_succ', List.map_append]; rfl

section
variable {C : CSpec} {GT : Nat → Option AV}

structure SW3 where
  v : AV
  n : Nat

theorem wide3_tail (H0 H : Heap) (t : List UInt8) (w left : Nat) {fr : Fr} {K : Post} (hfr : restrictF fr [7, 1, 0, 8] = [(7, .lst (some true) 0 []), (1, .int .i64 w), (0, .str t), (8, .int .i64 left)]) (hO : Old H0 H)
    (ht : t.length ≤ 140737488355328) (hw : w ≤ 200) (hl : left + t.length ≤ w ∨ (left = 0 ∧ w ≤ t.length))
    (hret : ∀ fr' H', getF fr' 6 = .str (if w ≤ t.length then t.take w else spaces left ++ t ++ spaces (w - t.length - left)) → Old H0 H' → K .ret fr' H') :
    EW C GT (b_sccref3_Wide.behind 5) K fr H := by
  have hlw : left ≤ 200 := by omega
  refine sLoop (fun s : SW3 => [(7, s.v), (1, .int .i64 w), (0, .str t), (8, .int .i64 left)]) (fun s H1 => Owns H0 H1 s.v 1 ((spaces s.n).map byteAV) ∧ Old H0 H1 ∧ s.n ≤ left) (fun s => left - s.n) ⟨.lst (some true) 0 [], 0⟩ hfr ⟨.inl ⟨rfl, rfl⟩, hO, Nat.zero_le _⟩ (fun ⟨v, n⟩ H1 ⟨ho, hO1, hn⟩ => ?_)
  simp only at ho hn
  dsimp only
  refine sLenN n ho.view (by rw [List.length_map, spaces_len]) ?_
  refine sCond (fun hlt => ?_) (fun hlt => ?_)
  · simp only [decide_eq_true_eq, Int.ofNat_lt] at hlt
    refine sPush (byteAV 32) ho hO1 rfl rfl (by omega) (by rw [List.length_map, spaces_len]; omega) (fun s0 H2 v' H3 ho3 hO3 _ _ => ?_)
    rw [← spaces_map] at ho3
    exact sNext (SW3.mk v' (n + 1)) rfl ⟨ho3, hO3, by simp only; omega⟩ (by simp only; omega)
  simp only [decide_eq_false_iff_not, Int.ofNat_lt] at hlt
  obtain rfl : n = left := by omega
  refine sAppStr ho hO1 (by rw [List.length_map, spaces_len]; omega) (fun v2 H2 ho2 hO2 _ => ?_)
  have e2 : (spaces n).map byteAV ++ t.map byteAV = (spaces n ++ t ++ spaces 0).map byteAV := by
    simp [show spaces 0 = [] from rfl]
  rw [e2] at ho2
  have hsp := spaces_len
  refine sLoop (fun s : SW3 => [(7, s.v), (1, .int .i64 w)]) (fun s H1 => Owns H0 H1 s.v 1 ((spaces n ++ t ++ spaces s.n).map byteAV) ∧ Old H0 H1 ∧ s.n ≤ w - (n + t.length)) (fun s => w - s.n) ⟨v2, 0⟩ rfl ⟨ho2, hO2, Nat.zero_le _⟩ (fun ⟨v, m⟩ H1 ⟨ho, hO1, hm⟩ => ?_)
  simp only at ho hm
  dsimp only
  have hlen : ((spaces n ++ t ++ spaces m).map byteAV).length = n + t.length + m := by simp only [List.length_map, List.length_append, hsp]
  refine sLenN (n + t.length + m) ho.view hlen ?_
  refine sCond (fun hlt => ?_) (fun hlt => ?_)
  · have hlt : n + t.length + m < w := by
      have := of_decide_eq_true hlt
      omega
    refine sPush (byteAV 32) ho hO1 rfl rfl (by omega) (by rw [hlen]; omega) (fun s0 H2 v' H3 ho3 hO3 _ _ => ?_)
    have e3 : (spaces n ++ t ++ spaces m).map byteAV ++ [byteAV 32] = (spaces n ++ t ++ spaces (m + 1)).map byteAV := by
      simp only [List.map_append, List.append_assoc, spaces_map]
    rw [e3] at ho3
    exact sNext (SW3.mk v' (m + 1)) rfl ⟨ho3, hO3, by simp only; omega⟩ (by simp only; omega)
  have hge : w ≤ n + t.length + m := by
    have := of_decide_eq_false hlt
    omega
  obtain ⟨v', hs, hv⟩ := owns_cut ho w (by rw [hlen]; exact hge)
  refine sOpt hs ?_
  rw [← List.map_take] at hv
  refine sStrV hv ?_
  refine hret _ _ ?_ hO1
  show AV.str _ = AV.str _
  congr 1
  by_cases hwt : w ≤ t.length
  · rw [if_pos hwt]
    have hn0 : n = 0 := by omega
    subst hn0
    have hm0 : m = 0 := by omega
    subst hm0
    simp [show spaces 0 = [] from rfl]
  · rw [if_neg hwt]
    have em : m = w - t.length - n := by omega
    rw [em, List.take_of_length_le (by simp only [List.length_append, hsp]; omega)]

theorem wide3_ev (t : List UInt8) (w : Nat) (side : Int) (H : Heap) (ht : t.length ≤ 140737488355328) (hw : w ≤ 200) (hs : side = 0 ∨ side = 1 ∨ side = 2) :
    EFun C GT a_sccref3_Wide [.str t, .int .i64 w, .int .i64 side] H (.str (wideL t w side)) H := by
  have tail : ∀ (left : Nat) (fr : Fr), restrictF fr [7, 1, 0, 8] = [(7, .lst (some true) 0 []), (1, .int .i64 w), (0, .str t), (8, .int .i64 left)] → (left + t.length ≤ w ∨ (left = 0 ∧ w ≤ t.length)) →
      (¬ w ≤ t.length → left = if side = 0 then 0 else if side = 1 then (w - t.length) / 2 else w - t.length) → EW C GT (b_sccref3_Wide.behind 5) (finF a_sccref3_Wide H (.str (wideL t w side)) H) fr H := by
    intro left fr hfr hl hside
    refine wide3_tail H H t w left hfr (Old.refl H) ht hw hl (fun fr' H' hg hO => ?_)
    have e : wideL t w side = if w ≤ t.length then t.take w else spaces left ++ t ++ spaces (w - t.length - left) := by
      unfold wideL
      by_cases hwt : w ≤ t.length
      · rw [if_pos hwt, if_pos hwt]
      · rw [if_neg hwt, if_neg hwt]
        simp only [← hside hwt]
    rw [e]
    exact sRetV rfl (by simp only [a_sccref3_Wide, resAll, resOf, ← getF_eq, hg]; rfl) rfl rfl hO
  refine efun_of ?_
  by_cases hwt : w ≤ t.length
  · rcases hs with rfl | rfl | rfl
    · refine sCondF ?_
      refine sCondF ?_
      refine sCondF ?_
      refine sCondF ?_
      refine sCondF ?_
      refine sCondF ?_
      refine tail 0 _ ?_ (.inr ⟨rfl, hwt⟩) (fun h => absurd hwt h)
      rfl
    · refine sCondF ?_
      refine sCondF ?_
      refine sCondF ?_
      refine sCondT ?_
      refine sCondT ?_
      refine sCond (fun h => absurd (of_decide_eq_true h) (by omega)) (fun _ => ?_)
      refine tail 0 _ ?_ (.inr ⟨rfl, hwt⟩) (fun h => absurd hwt h)
      rfl
    · refine sCondT ?_
      refine sCondT ?_
      refine sCond (fun h => absurd (of_decide_eq_true h) (by omega)) (fun _ => ?_)
      refine sCondF ?_
      refine sCondF ?_
      refine sCondF ?_
      refine tail 0 _ ?_ (.inr ⟨rfl, hwt⟩) (fun h => absurd hwt h)
      rfl
  · rcases hs with rfl | rfl | rfl
    · refine sCondF ?_
      refine sCondF ?_
      refine sCondF ?_
      refine sCondF ?_
      refine sCondF ?_
      refine sCondF ?_
      refine tail 0 _ ?_ (.inl (by omega)) (fun h => rfl)
      rfl
    · refine sCondF ?_
      refine sCondF ?_
      refine sCondF ?_
      refine sCondT ?_
      refine sCondT ?_
      refine sCond (fun _ => ?_) (fun h => absurd (of_decide_eq_false h) (by omega))
      refine sW64n (r := w - t.length) (by omega) (by omega) ?_
      refine sNeed (by decide) ?_
      refine sVal (r := (((w - t.length) / 2 : Nat) : Int)) (by rw [Int.tdiv_eq_ediv_of_nonneg (by omega), IntWalk.i64_in _ (by omega)]; omega) ?_
      refine tail ((w - t.length) / 2) _ ?_ (.inl (by omega)) (fun h => rfl)
      rfl
    · refine sCondT ?_
      refine sCondT ?_
      refine sCond (fun _ => ?_) (fun h => absurd (of_decide_eq_false h) (by omega))
      refine sW64n (r := w - t.length) (by omega) (by omega) ?_
      refine sCondF ?_
      refine sCondF ?_
      refine sCondF ?_
      refine tail (w - t.length) _ ?_ (.inl (by omega)) (fun h => rfl)
      rfl

theorem letters3_ev (N : Nat) (H : Heap) (hN : N ≤ 1000000) : EFun C GT a_sccref3_Letters [.int .i64 N] H (.str (letters N)) H := by
  refine sLoop (fun s : SC => [(0, .int .i64 s.m), (3, .str s.s)]) (fun s H1 => Old H H1 ∧ s.m ≤ N ∧ letters N = letters s.m ++ s.s) (fun s => s.m) ⟨N, []⟩ rfl ⟨Old.refl H, Nat.le_refl _, by simp⟩ (fun ⟨m, s⟩ H1 ⟨hO, hm, hl⟩ => ?_)
  simp only at hm hl
  dsimp only
  have hsl : s.length ≤ 1000000 := by
    have h1 := letters_len' N
    rw [hl, List.length_append] at h1
    omega
  cases m with
  | zero =>
    refine sCond (fun h => absurd h (by simp)) (fun _ => ?_)
    have e2 : letters N = s := by rw [hl]; rfl
    exact sRetE (congrArg AV.str e2) rfl rfl rfl rfl hO
  | succ k =>
    refine sCond (fun _ => ?_) (fun h => absurd h (by simp))
    have hmod : k % 26 < 26 := Nat.mod_lt _ (by omega)
    refine sNeed (by decide) ?_
    refine sVal (r := (((k + 1) % 26 : Nat) : Int)) (by rw [Int.tmod_eq_emod_of_nonneg (by omega)]; omega) ?_
    have hc := letter_toNat (k % 26) hmod
    refine sCond (fun h => ?_) (fun h => ?_)
    · have h : (k + 1) % 26 = 0 := by have h := eq_of_beq h; omega
      refine sW64n (r := 64 + 26) (by omega) (by omega) ?_
      refine sVal (r := ((UInt8.ofNat (65 + k % 26)).toNat : Int)) (by rw [hc, IntWalk.u8_in _ (by omega)]; omega) ?_
      refine sBslice (vs' := [byteAV (UInt8.ofNat (65 + k % 26))]) rfl rfl ?_
      refine sStrV (u := [UInt8.ofNat (65 + k % 26)]) view_new ?_
      refine sNeed (by simp only [List.length_cons, List.length_nil]; omega) ?_
      refine sW64n (r := k + 1 - 26) (by omega) (by omega) ?_
      refine sNeed (by decide) ?_
      refine sVal (r := ((k / 26 : Nat) : Int)) (by rw [Int.tdiv_eq_ediv_of_nonneg (by omega), IntWalk.i64_in _ (by omega)]; omega) ?_
      refine sNext (SC.mk (k / 26) ([UInt8.ofNat (65 + k % 26)] ++ s)) rfl ⟨hO.push _, by simp only; omega, ?_⟩ (by simp only; omega)
      simp only
      rw [hl, letters_succ, List.append_assoc]
    · have h : (k + 1) % 26 ≠ 0 := by have h := ne_of_beq_false h; omega
      refine sW64n (r := 64 + ((k + 1) % 26)) (by omega) (by omega) ?_
      refine sVal (r := ((UInt8.ofNat (65 + k % 26)).toNat : Int)) (by rw [hc, IntWalk.u8_in _ (by omega)]; omega) ?_
      refine sBslice (vs' := [byteAV (UInt8.ofNat (65 + k % 26))]) rfl rfl ?_
      refine sStrV (u := [UInt8.ofNat (65 + k % 26)]) view_new ?_
      refine sNeed (by simp only [List.length_cons, List.length_nil]; omega) ?_
      refine sW64n (r := k + 1 - ((k + 1) % 26)) (by omega) (by omega) ?_
      refine sNeed (by decide) ?_
      refine sVal (r := ((k / 26 : Nat) : Int)) (by rw [Int.tdiv_eq_ediv_of_nonneg (by omega), IntWalk.i64_in _ (by omega)]; omega) ?_
      refine sNext (SC.mk (k / 26) ([UInt8.ofNat (65 + k % 26)] ++ s)) rfl ⟨hO.push _, by simp only; omega, ?_⟩ (by simp only; omega)
      simp only
      rw [hl, letters_succ, List.append_assoc]
end
end Go.AM
