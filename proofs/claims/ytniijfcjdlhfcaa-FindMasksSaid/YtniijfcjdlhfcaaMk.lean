/- What find.Like says of texts whose every byte has a tilde ahead; the walk of FindMasks. Own work. -/
import Derived.Test.YtniijfcjdlhfcaaLk
set_option linter.all false
namespace Go.AM

def til : List UInt8 → List UInt8
  | [] => []
  | c :: u => 126 :: c :: til u

theorem til_len : ∀ u, (til u).length = 2 * u.length
  | [] => rfl
  | c :: u => by simp only [til, List.length_cons, til_len u]; omega

theorem til_snoc : ∀ (u : List UInt8) (c : UInt8), til (u ++ [c]) = til u ++ [126, c]
  | [], c => rfl
  | d :: u, c => by simp only [til, List.cons_append, til_snoc u c]

theorem dpChar_at (t : List UInt8) (c : UInt8) (k : Nat) (p : Bool) : dpChar t false c (fun i => i == k && p) = fun i => i == k + 1 && (p && t[k]? == some c) := by
  funext i
  cases i with
  | zero => simp [dpChar]
  | succ i =>
    simp only [dpChar, Bool.false_or]
    by_cases h : i = k
    · subst h; simp
    · have h1 : (i == k) = false := by simpa using h
      have h2 : (i + 1 == k + 1) = false := by simpa using h
      rw [h1, h2, Bool.false_and, Bool.false_and, Bool.false_and]

theorem pre_cons (t : List UInt8) (c : UInt8) (u : List UInt8) (k : Nat) : ((t[k]? == some c) && u.isPrefixOf (t.drop (k + 1))) = (c :: u).isPrefixOf (t.drop k) := by
  cases h : t[k]? with
  | none =>
    have : t.drop k = [] := by rw [List.drop_eq_nil_iff]; exact List.getElem?_eq_none_iff.1 h
    rw [this]; rfl
  | some d =>
    rw [drop_of_get h]
    show (some d == some c && _) = (c == d && _)
    congr 1
    rw [Bool.eq_iff_iff, beq_iff_eq, beq_iff_eq, Option.some.injEq]; exact eq_comm

theorem lk_til (t : List UInt8) : ∀ (u r : List UInt8) (k : Nat) (p : Bool), lk t (til u ++ r) (fun i => i == k && p) = lk t r (fun i => i == k + u.length && (p && u.isPrefixOf (t.drop k)))
  | [], r, k, p => by simp [til, List.isPrefixOf]
  | c :: u, r, k, p => by
    have h : lk t (til (c :: u) ++ r) (fun i => i == k && p) = lk t (til u ++ r) (dpChar t false c (fun i => i == k && p)) := rfl
    rw [h, dpChar_at, lk_til t u r (k + 1)]
    congr 1
    funext i
    rw [← pre_cons t c u k, List.length_cons, show k + 1 + u.length = k + (u.length + 1) by omega]
    cases p <;> simp

theorem lk_til0 (t u r : List UInt8) : lk t (til u ++ r) (fun i => i == 0) = lk t r (fun i => i == u.length && u.isPrefixOf t) := by
  have := lk_til t u r 0 true
  simpa using this

theorem pre_len (t u : List UInt8) : (t.length == u.length && u.isPrefixOf t) = (t == u) := by
  rw [Bool.eq_iff_iff]
  simp only [Bool.and_eq_true, beq_iff_eq, List.isPrefixOf_iff_prefix]
  exact ⟨fun ⟨h1, h2⟩ => (h2.eq_of_length h1.symm).symm, fun h => by subst h; exact ⟨rfl, List.prefix_refl _⟩⟩

theorem lk_same (t u : List UInt8) : lk t (til u) (fun i => i == 0) = some (t == u) := by
  have := lk_til0 t u []
  rw [List.append_nil] at this
  rw [this]
  simp only [lk_nil, pre_len]

theorem anyTo_of {f : Nat → Bool} {i : Nat} : ∀ {n : Nat}, i < n → f i = true → anyTo f n = true
  | 0, h, _ => absurd h (Nat.not_lt_zero _)
  | n + 1, h, hf => by
    simp only [anyTo]
    by_cases e : i = n
    · subst e; simp [hf]
    · rw [anyTo_of (by omega) hf, Bool.true_or]

theorem lk_more (u v : List UInt8) : lk (u ++ v) (til u ++ [42]) (fun i => i == 0) = some true := by
  rw [lk_til0]
  rw [lk_at_star]
  simp only [lk_nil, dpStar, Option.some.injEq]
  refine anyTo_of (i := u.length) (by simp; omega) ?_
  simp [List.isPrefixOf_iff_prefix]

theorem lk_star (t : List UInt8) : lk t [42] (fun i => i == 0) = some true := by
  rw [lk_at_star]
  simp only [lk_nil, dpStar, Option.some.injEq]
  exact anyTo_of (i := 0) (by omega) rfl

theorem likeV_some {t m : List UInt8} {b : Bool} (ht : t.length ≤ 200) (hm : m.length ≤ 200) (h : lk t m (fun i => i == 0) = some b) : likeV t m = .tup [.bool b, .nili] := by
  unfold likeV; rw [if_neg (by omega), h]

/-! ### The walk of FindMasks -/

structure SM where
  i : Nat
  v : AV
def mk3 (t o : List UInt8) (s : SM) : Fr := [(8, .int .i64 s.i), (0, .str t), (7, s.v), (1, .str o)]
def inv3 (H0 : Heap) (t : List UInt8) (s : SM) (H : Heap) : Prop :=
  s.i ≤ t.length ∧ Owns H0 H s.v 1 ((til (t.take s.i)).map byteAV) ∧ Old H0 H

section
variable {C : CSpec} {GT : Nat → Option AV}

theorem masks_round {H0 H : Heap} {K : Post} {t o : List UInt8} (ht : t.length ≤ 90) {s : SM} (hi : inv3 H0 t s H)
    (hK : ∀ fr H' v, Owns H0 H' v 1 ((til t).map byteAV) → Old H0 H' → restrict fr [1, 0, 7] = [(1, .str o), (0, .str t), (7, v)] → K (.exit 0) fr H') :
    EW C GT b_scclaw4_FindMasks_0 (roundK [8, 0, 7, 1] (mk3 t o) (inv3 H0 t) (fun s => t.length - s.i) s K) (mk3 t o s) H := by
  obtain ⟨i, v⟩ := s
  obtain ⟨h1, h2, h3⟩ := hi
  simp only at h1 h2
  dsimp only [mk3]
  refine sCond (fun h => ?_) (fun h => ?_)
  · simp only [decide_eq_true_eq, Int.ofNat_lt] at h
    refine sChr (i := i) rfl (List.getElem?_eq_getElem h) ?_
    refine sBslice (k := 1) (vs' := [.int .u8 126, byteAV t[i]]) rfl rfl ?_
    refine sAppend (H0 := H0) (h2.push _) (h3.push _) view_new (by omega) ?_ (fun v' H' ho hH _ _ => ?_)
    · simp only [List.length_map, til_len, List.length_take, List.length_cons, List.length_nil]; omega
    refine sW64n (r := i + 1) rfl (by omega) ?_
    refine sNext (SM.mk (i + 1) v') rfl ⟨by simp only; omega, ?_, hH⟩ (by simp only; omega)
    have e : til (t.take (i + 1)) = til (t.take i) ++ [126, t[i]] := by
      rw [← til_snoc, List.take_succ_eq_append_getElem h]
    simp only [e, List.map_append]
    exact ho
  · simp only [decide_eq_false_iff_not, Int.ofNat_lt] at h
    have : i = t.length := by omega
    subst this
    rw [List.take_length] at h2
    exact hK _ _ v h2 h3 rfl

theorem masks_ev (hL : ∀ t m H, C f_find_Like [.str t, .str m] H (likeV t m) H) (t o : List UInt8) (H : Heap) : EFun C GT a_scclaw4_FindMasks [.str t, .str o] H (.bool true) H := by
  have hB : ∀ {a b : List UInt8} {r : Bool} {H : Heap}, a.length ≤ 200 → b.length ≤ 200 → lk a b (fun i => i == 0) = some r → C f_find_Like [.str a, .str b] H (.tup [.bool r, .nili]) H :=
    fun ha hb h => by rw [← likeV_some ha hb h]; exact hL _ _ _
  refine sCall0 (v := .tup [.bool true, .nili]) (hB (a := [97, 98, 99]) (b := [97, 63, 42]) (by simp) (by simp) rfl) ?_
  refine sOpt rfl ?_
  refine sOpt rfl ?_
  refine sOpt rfl ?_
  refine sCondF ?_
  refine sCondF ?_
  refine sCondF ?_
  refine sCond (fun h => ?_) (fun h => ?_)
  · refine sCondT ?_
    refine sCondT ?_
    exact sRetV rfl rfl rfl rfl (Old.refl H)
  · simp only [decide_eq_false_iff_not] at h
    refine sCondF ?_
    refine sCond (fun h' => ?_) (fun h' => ?_)
    · exact sRetV rfl rfl rfl rfl (Old.refl H)
    · simp only [decide_eq_false_iff_not] at h'
      have ht : t.length ≤ 90 := by omega
      have ho : o.length ≤ 90 := by omega
      refine sLoop (mk3 t o) (inv3 H t) (fun s => t.length - s.i) ⟨0, .lst (some true) 0 []⟩ rfl ⟨Nat.zero_le _, Owns.nil _ _ _, Old.refl H⟩ (fun s H1 hi => masks_round ht hi ?_)
      intro fr H' v hv hH hfr
      refine sBlk hfr ?_
      have l2 : (til t).length ≤ 180 := by rw [til_len]; omega
      refine sBytesStr hv ?_
      refine sCall0 (hB (r := true) (by omega) (by omega) ((lk_same t t).trans (by simp))) ?_
      refine sOpt rfl ?_
      refine sOpt rfl ?_
      refine sBytesStr hv ?_
      refine sCall0 (hB (by omega) (by omega) (lk_same o t)) ?_
      refine sOpt rfl ?_
      refine sOpt rfl ?_
      refine sCall0 (hB (by omega) (by simp) (lk_star o)) ?_
      refine sOpt rfl ?_
      refine sOpt rfl ?_
      refine sNeed ?_ ?_
      · omega
      refine sBytesStr hv ?_
      refine sNeed ?_ ?_
      · simp only [List.length_cons, List.length_nil]; omega
      refine sCall0 (hB (by simp; omega) (by simp; omega) (lk_more t o)) ?_
      refine sOpt rfl ?_
      refine sOpt rfl ?_
      repeat (first | refine sCondT ?_ | refine sOpt rfl ?_)
      refine sCond (fun _ => ?_) (fun h => absurd h ?_)
      · repeat (first | refine sCondT ?_ | refine sOpt rfl ?_)
        exact sRetV rfl rfl rfl rfl hH
      · have e : (o == t) = (t == o) := by rw [Bool.eq_iff_iff, beq_iff_eq, beq_iff_eq]; exact eq_comm
        simp [negB, e]
end
end Go.AM
