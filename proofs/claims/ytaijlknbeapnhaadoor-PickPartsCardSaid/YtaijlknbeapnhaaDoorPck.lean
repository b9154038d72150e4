/- The walk of pick.check. Own work. -/
import Derived.Test.YtaijlknbeapnhaaDoorTwo
import Derived.Test.YtaijlknbeapnhaaDoorSrp
set_option linter.all false
namespace Go.AM

structure Want where
  col : Int
  op : Int
  val : Val
  deriving DecidableEq, Inhabited
def wantV (w : Want) : AV := .agg [intV w.col, intV w.op, intV w.val.kind, intV w.val.num, .str w.val.text]
def wantOK (t : List Row) (w : Want) : Bool := colOK t w.col && decide (1 ≤ w.op) && decide (w.op ≤ 6) && valOK w.val
def wantErr (t : List Row) (l : List Want) : Nat :=
  if tabErr t ≠ 0 then tabErr t else if 12 < l.length then 4 else if (l.any fun w => !wantOK t w) = true then 1 else 0

section
variable {C : CSpec} {GT : Nat → Option AV}

set_option maxHeartbeats 1000000 in
theorem pick_check_ev (hK : ∀ tv t H, TabOf H tv t → C f_sort_Check [tv] H (errN (tabErr t)) H) (hL : ∀ tv t c H, TabOf H tv t → C f_sort_Column [tv, intV c] H (.bool (colOK t c)) H) (hV : ∀ v H, C f_value_Check [valV v] H (chkV v) H)
    (tv wv : AV) (t : List Row) (l : List Want) (H : Heap) (ht : TabOf H tv t) (hw : view H 5 wv = some (l.map wantV)) : EFun C GT a_pick_check [tv, wv] H (errN (wantErr t l)) H := by
  have hk := hK tv t H ht
  by_cases he : tabErr t = 0
  case neg =>
    obtain ⟨n, hn⟩ : ∃ n, tabErr t = n + 1 := ⟨tabErr t - 1, by omega⟩
    rw [hn] at hk
    have e : wantErr t l = n + 1 := by unfold wantErr; rw [if_pos (by omega), hn]
    rw [e]
    refine sCall0 hk ?_
    refine sOpt rfl ?_
    refine sCondT ?_
    exact sRetV rfl rfl rfl rfl (Old.refl _)
  rw [he] at hk
  refine sCall0 hk ?_
  refine sOpt rfl ?_
  refine sCondF ?_
  refine sLenN l.length hw (by simp) ?_
  refine sCond (fun h => ?_) (fun h => ?_)
  · have h := of_decide_eq_true h
    have e : wantErr t l = 4 := by unfold wantErr; rw [if_neg (by omega), if_pos (by omega)]
    rw [e]; exact sRetV rfl rfl rfl rfl (Old.refl _)
  have h := of_decide_eq_false h
  refine sLenN l.length hw (by simp) ?_
  refine sLoop (σ := Nat) (fun i => [(19, .int .i64 i), (0, tv), (17, wv), (18, .int .i64 l.length)]) (fun i H1 => Old H H1 ∧ i ≤ l.length ∧ ∀ k w, k < i → l[k]? = some w → wantOK t w = true) (fun i => l.length - i) 0 rfl ⟨Old.refl H, Nat.zero_le _, fun k r h => absurd h (Nat.not_lt_zero _)⟩ (fun i H1 ⟨hO, hi, hok⟩ => ?_)
  refine sCond (fun hlt => ?_) (fun hlt => ?_)
  · have hlt : i < l.length := by have := of_decide_eq_true hlt; omega
    have hci : l[i]? = some l[i] := List.getElem?_eq_getElem hlt
    obtain ⟨w, hwd⟩ : ∃ w, l[i] = w := ⟨_, rfl⟩
    rw [hwd] at hci
    refine sIdxV i (wantV w) (view_old hO hw) rfl (by rw [List.getElem?_map, hci]; rfl) (fun p hp => ?_)
    refine sLoadP (wantV w) hp rfl ?_
    refine sStoreBox push_last rfl rfl (by simp) ?_
    have hO2 := (hO.push [ABlk.box [.int .i64 0, .int .i64 0, .int .i64 0, .int .i64 0, .str []]]).set hO.1 (.box (splice [.int .i64 0, .int .i64 0, .int .i64 0, .int .i64 0, .str []] (0 + 0) (wantV w).cells))
    have ht2 := ht.old hO2
    have bad : wantOK t w = false → wantErr t l = 1 := fun hb => by
      unfold wantErr; rw [if_neg (by omega), if_neg (by omega), if_pos (any_at hci (by rw [hb]; rfl))]
    refine sLoadBox (intV w.col) (set_at push_last) rfl ?_
    refine sCall0 (hL tv t w.col _ ht2) ?_
    refine sCond (fun hb => ?_) (fun hb => ?_)
    · have e := bad (by unfold wantOK; rw [show colOK t w.col = false by simpa using hb]; rfl)
      refine sCondT ?_
      refine sCondT ?_
      refine sCondT ?_
      refine sCondT ?_
      refine sCondT ?_
      refine sCondT ?_
      exact sRetE (congrArg errN e) rfl rfl rfl rfl hO2
    have hc : colOK t w.col = true := by simpa using hb
    refine sLoadBox (intV w.op) (set_at push_last) rfl ?_
    refine sCondF ?_
    refine sCond (fun hb => ?_) (fun hb => ?_)
    · have hb := of_decide_eq_true hb
      have e := bad (by unfold wantOK; rw [show decide (1 ≤ w.op) = false by simp; omega]; simp)
      refine sCondT ?_
      refine sCondT ?_
      refine sCondT ?_
      refine sCondT ?_
      exact sRetE (congrArg errN e) rfl rfl rfl rfl hO2
    have h1 := of_decide_eq_false hb
    refine sLoadBox (intV w.op) (set_at push_last) rfl ?_
    refine sCondF ?_
    refine sCond (fun hb => ?_) (fun hb => ?_)
    · have hb := of_decide_eq_true hb
      have e := bad (by unfold wantOK; rw [show decide (w.op ≤ 6) = false by simp; omega]; simp)
      refine sCondT ?_
      refine sCondT ?_
      exact sRetE (congrArg errN e) rfl rfl rfl rfl hO2
    have h6 := of_decide_eq_false hb
    refine sLoadBox (valV w.val) (set_at push_last) rfl ?_
    by_cases hval : valOK w.val = true
    · refine sCall0 (v := .nili) (by have := hV w.val ((H1 ++ [ABlk.box [.int .i64 0, .int .i64 0, .int .i64 0, .int .i64 0, .str []]]).set H1.length (.box (splice [.int .i64 0, .int .i64 0, .int .i64 0, .int .i64 0, .str []] (0 + 0) (wantV w).cells))); simp only [chkV, hval, if_true] at this; exact this) ?_
      refine sOpt rfl ?_
      refine sCondF ?_
      refine sCondF ?_
      refine sW64n (r := i + 1) rfl (by omega) ?_
      refine sNext (i + 1) rfl ⟨hO2, by omega, fun k c hk hkc => ?_⟩ (by omega)
      by_cases e : k = i
      · subst e; rw [hci] at hkc; cases hkc
        unfold wantOK
        rw [hc, hval]; simp; omega
      · exact hok k c (by omega) hkc
    · have hval : valOK w.val = false := by simpa using hval
      have e := bad (by unfold wantOK; rw [hval]; simp)
      refine sCall0 (v := errV 1) (by have := hV w.val ((H1 ++ [ABlk.box [.int .i64 0, .int .i64 0, .int .i64 0, .int .i64 0, .str []]]).set H1.length (.box (splice [.int .i64 0, .int .i64 0, .int .i64 0, .int .i64 0, .str []] (0 + 0) (wantV w).cells))); simp only [chkV, hval, Bool.false_eq_true, if_false] at this; exact this) ?_
      refine sOpt rfl ?_
      refine sCondF ?_
      refine sCondT ?_
      exact sRetE (congrArg errN e) rfl rfl rfl rfl hO2
  · have hlt := of_decide_eq_false hlt
    have e : wantErr t l = 0 := by
      unfold wantErr; rw [if_neg (by omega), if_neg (by omega), if_neg ?_]
      rw [any_no fun k c hk hkc => by rw [hok k c (by omega) hkc]; rfl]; simp
    rw [e]; exact sRetV rfl rfl rfl rfl hO
end
end Go.AM
