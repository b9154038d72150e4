/- The contracts of package value's Check and Compare, and of cmp's functions under them. Own work. -/
import Derived.Test.YtaijlknbeapnhaaDoorErr
set_option linter.all false
namespace Go.AM

/-! ### What they compute -/

structure Val where
  kind : Int
  num : Int
  text : List UInt8
  deriving DecidableEq, Inhabited
def valV (v : Val) : AV := .agg [.int .i64 v.kind, .int .i64 v.num, .str v.text]
def cmpI (a b : Int) : Int := if a < b then -1 else if a > b then 1 else 0
def cmpS (a b : List UInt8) : Int := if Op.bytesLess a b = true then -1 else if (!(Op.bytesLess a b || a == b)) = true then 1 else 0
def orI : List Int → Int
  | [] => 0
  | x :: xs => if (x != 0) = true then x else orI xs
def cmpV (a b : Val) : Int := orI [cmpI a.kind b.kind, cmpI a.num b.num, cmpS a.text b.text]
def valOK (v : Val) : Bool :=
  if (v.kind == 0) = true then v.num == 0 && v.text == []
  else if (v.kind == 1) = true then v.text == []
  else if (v.kind == 2) = true then v.num == 0 && decide ((v.text.length : Int) ≤ 200)
  else if (v.kind == 3) = true then (v.num == 0 || v.num == 1) && v.text == []
  else if (v.kind == 4) = true then decide (v.num ≥ 1) && decide (v.num ≤ 6) && v.text == []
  else false
def chkV (v : Val) : AV := if valOK v = true then .nili else errV 1

section
variable {C : CSpec} {GT : Nat → Option AV}

theorem isNaN_int_ev (x : Int) (H : Heap) : EFun C GT a_cmp_isNaN_int_ [intV x] H (.bool false) H := by
  have h : EFun C GT a_cmp_isNaN_int_ [intV x] H (.bool (x != x)) H := sRetV rfl rfl rfl rfl (Old.refl H)
  have e : (x != x) = false := by simp
  rwa [e] at h
theorem isNaN_str_ev (x : List UInt8) (H : Heap) : EFun C GT a_cmp_isNaN_string_ [.str x] H (.bool false) H := by
  have h : EFun C GT a_cmp_isNaN_string_ [.str x] H (.bool (!(x == x))) H := sRetV rfl rfl rfl rfl (Old.refl H)
  have e : (!(x == x)) = false := by simp
  rwa [e] at h

theorem cmpInt_ev (hN : ∀ x H, C f_cmp_isNaN_int_ [intV x] H (.bool false) H) (a b : Int) (H : Heap) : EFun C GT a_cmp_Compare_int_ [intV a, intV b] H (intV (cmpI a b)) H := by
  refine sCall0 (hN a H) ?_
  refine sCall0 (hN b H) ?_
  refine sCondF ?_
  refine sCondF ?_
  refine sCond (fun h => ?_) (fun h => ?_)
  · have e : cmpI a b = -1 := by simp only [decide_eq_true_eq] at h; simp [cmpI, h]
    rw [e]; exact sRetV rfl rfl rfl rfl (Old.refl H)
  · simp only [decide_eq_false_iff_not] at h
    refine sCond (fun h' => ?_) (fun h' => ?_)
    · have e : cmpI a b = 1 := by simp only [decide_eq_true_eq] at h'; simp [cmpI, h, h']
      rw [e]; exact sRetV rfl rfl rfl rfl (Old.refl H)
    · have e : cmpI a b = 0 := by simp only [decide_eq_false_iff_not] at h'; simp [cmpI, h, h']
      rw [e]; exact sRetV rfl rfl rfl rfl (Old.refl H)

theorem cmpStr_ev (hN : ∀ x H, C f_cmp_isNaN_string_ [.str x] H (.bool false) H) (a b : List UInt8) (H : Heap) : EFun C GT a_cmp_Compare_string_ [.str a, .str b] H (intV (cmpS a b)) H := by
  refine sCall0 (hN a H) ?_
  refine sCall0 (hN b H) ?_
  refine sCondF ?_
  refine sCondF ?_
  refine sCond (fun h => ?_) (fun h => ?_)
  · have e : cmpS a b = -1 := by simp [cmpS, h]
    rw [e]; exact sRetV rfl rfl rfl rfl (Old.refl H)
  · refine sOpt rfl ?_
    refine sCond (fun h' => ?_) (fun h' => ?_)
    · have e : cmpS a b = 1 := by unfold cmpS; rw [if_neg (by rw [h]; simp), if_pos h']
      rw [e]; exact sRetV rfl rfl rfl rfl (Old.refl H)
    · have e : cmpS a b = 0 := by unfold cmpS; rw [if_neg (by rw [h]; simp), if_neg (by rw [h']; simp)]
      rw [e]; exact sRetV rfl rfl rfl rfl (Old.refl H)

theorem orI_ev (v : AV) (xs : List Int) (H : Heap) (hv : view H 1 v = some (xs.map intV)) (hl : xs.length ≤ 1000000000000) : EFun C GT a_cmp_Or_int_ [v] H (intV (orI xs)) H := by
  refine sLenV hv ?_
  rw [List.length_map]
  refine sLoop (σ := Nat) (fun i => [(8, .int .i64 i), (3, .int .i64 0), (6, v), (7, .int .i64 xs.length)]) (fun i H1 => H1 = H ∧ i ≤ xs.length ∧ orI (xs.drop i) = orI xs) (fun i => xs.length - i) 0 rfl ⟨rfl, Nat.zero_le _, rfl⟩ (fun i H1 ⟨e, hi, ho⟩ => ?_)
  subst e
  refine sCond (fun h => ?_) (fun h => ?_)
  · simp only [decide_eq_true_eq, Int.ofNat_lt] at h
    have hx : xs[i]? = some xs[i] := List.getElem?_eq_getElem h
    refine sIdxV i (intV xs[i]) hv rfl (by rw [List.getElem?_map, hx]; rfl) (fun p hp => ?_)
    refine sLoadP (intV xs[i]) hp rfl ?_
    rw [drop_of_get hx] at ho
    refine sCond (fun hne => ?_) (fun hne => ?_)
    · have e : orI xs = xs[i] := by rw [← ho]; simp only [orI, hne, if_true]
      rw [e]; exact sRetV rfl rfl rfl rfl (Old.refl _)
    · refine sW64n (r := i + 1) rfl (by omega) ?_
      refine sNext (i + 1) rfl ⟨rfl, by omega, ?_⟩ (by omega)
      rw [← ho]; simp only [orI, hne, Bool.false_eq_true, if_false]
  · simp only [decide_eq_false_iff_not, Int.ofNat_lt] at h
    have e : orI xs = 0 := by rw [← ho, List.drop_eq_nil_iff.2 (by omega)]; rfl
    rw [e]; exact sRetV rfl rfl rfl rfl (Old.refl _)

theorem cmpV_ev (hI : ∀ a b H, C f_cmp_Compare_int_ [intV a, intV b] H (intV (cmpI a b)) H) (hS : ∀ a b H, C f_cmp_Compare_string_ [.str a, .str b] H (intV (cmpS a b)) H)
    (hO : ∀ v xs H, view H 1 v = some (xs.map intV) → xs.length ≤ 1000000000000 → C f_cmp_Or_int_ [v] H (intV (orI xs)) H) (a b : Val) (H : Heap) : EFun C GT a_value_Compare [valV a, valV b] H (intV (cmpV a b)) H := by
  refine sBox rfl ?_
  refine sBox rfl ?_
  refine sLoadBox (intV a.kind) (push_old push_last) rfl ?_
  refine sLoadBox (intV b.kind) push_last rfl ?_
  refine sCall0 (hI _ _ _) ?_
  refine sLoadBox (intV a.num) (push_old push_last) rfl ?_
  refine sLoadBox (intV b.num) push_last rfl ?_
  refine sCall0 (hI _ _ _) ?_
  refine sLoadBox (.str a.text) (push_old push_last) rfl ?_
  refine sLoadBox (.str b.text) push_last rfl ?_
  refine sCall0 (hS _ _ _) ?_
  refine sBslice (vs' := [intV (cmpI a.kind b.kind), intV (cmpI a.num b.num), intV (cmpS a.text b.text)]) rfl rfl ?_
  refine sCall0 (hO _ [cmpI a.kind b.kind, cmpI a.num b.num, cmpS a.text b.text] _ view_new (by simp)) ?_
  exact sRetV rfl rfl rfl rfl ((((Old.refl H).push _).push _).push _)

theorem chkV_ev (v : Val) (H : Heap) : EFun C GT a_value_Check [valV v] H (chkV v) H := by
  have hO : Old H (H ++ [ABlk.box [.int .i64 v.kind, .int .i64 v.num, .str v.text]]) := (Old.refl H).push _
  refine sBox rfl ?_
  refine sLoadBox (intV v.kind) push_last rfl ?_
  refine sCond (fun h0 => ?_) (fun h0 => ?_)
  · refine sLoadBox (intV v.num) push_last rfl ?_
    refine sCond (fun h1 => ?_) (fun h1 => ?_)
    · refine sLoadBox (.str v.text) push_last rfl ?_
      refine sCondT ?_
      refine sCond (fun hf => ?_) (fun hf => ?_)
      · have e : chkV v = errV 1 := by simp_all [chkV, valOK] <;> intros <;> omega
        rw [e]; exact sRetV rfl rfl rfl rfl hO
      · have e : chkV v = .nili := by simp_all [chkV, valOK] <;> intros <;> omega
        rw [e]; exact sRetV rfl rfl rfl rfl hO
    · refine sCondF ?_
      refine sCondT ?_
      have e : chkV v = errV 1 := by simp_all [chkV, valOK] <;> intros <;> omega
      rw [e]; exact sRetV rfl rfl rfl rfl hO
  refine sCond (fun h2 => ?_) (fun h2 => ?_)
  · refine sLoadBox (.str v.text) push_last rfl ?_
    refine sCond (fun hf => ?_) (fun hf => ?_)
    · have e : chkV v = errV 1 := by simp_all [chkV, valOK] <;> intros <;> omega
      rw [e]; exact sRetV rfl rfl rfl rfl hO
    · have e : chkV v = .nili := by simp_all [chkV, valOK] <;> intros <;> omega
      rw [e]; exact sRetV rfl rfl rfl rfl hO
  refine sCond (fun h3 => ?_) (fun h3 => ?_)
  · refine sLoadBox (intV v.num) push_last rfl ?_
    refine sCond (fun h1 => ?_) (fun h1 => ?_)
    · refine sLoadBox (.str v.text) push_last rfl ?_
      refine sCondT ?_
      refine sCond (fun hf => ?_) (fun hf => ?_)
      · have e : chkV v = errV 1 := by simp_all [chkV, valOK] <;> intros <;> omega
        rw [e]; exact sRetV rfl rfl rfl rfl hO
      · have e : chkV v = .nili := by simp_all [chkV, valOK] <;> intros <;> omega
        rw [e]; exact sRetV rfl rfl rfl rfl hO
    · refine sCondF ?_
      refine sCondT ?_
      have e : chkV v = errV 1 := by simp_all [chkV, valOK] <;> intros <;> omega
      rw [e]; exact sRetV rfl rfl rfl rfl hO
  refine sCond (fun h4 => ?_) (fun h4 => ?_)
  · refine sLoadBox (intV v.num) push_last rfl ?_
    refine sCond (fun h1 => ?_) (fun h1 => ?_)
    · refine sCondT ?_
      refine sCondT ?_
      refine sLoadBox (.str v.text) push_last rfl ?_
      refine sCondT ?_
      refine sCond (fun hf => ?_) (fun hf => ?_)
      · have e : chkV v = errV 1 := by simp_all [chkV, valOK] <;> intros <;> omega
        rw [e]; exact sRetV rfl rfl rfl rfl hO
      · have e : chkV v = .nili := by simp_all [chkV, valOK] <;> intros <;> omega
        rw [e]; exact sRetV rfl rfl rfl rfl hO
    · refine sLoadBox (intV v.num) push_last rfl ?_
      refine sCondF ?_
      refine sCond (fun h5 => ?_) (fun h5 => ?_)
      · refine sLoadBox (.str v.text) push_last rfl ?_
        refine sCondT ?_
        refine sCond (fun hf => ?_) (fun hf => ?_)
        · have e : chkV v = errV 1 := by simp_all [chkV, valOK] <;> intros <;> omega
          rw [e]; exact sRetV rfl rfl rfl rfl hO
        · have e : chkV v = .nili := by simp_all [chkV, valOK] <;> intros <;> omega
          rw [e]; exact sRetV rfl rfl rfl rfl hO
      · refine sCondF ?_
        refine sCondT ?_
        have e : chkV v = errV 1 := by simp_all [chkV, valOK] <;> intros <;> omega
        rw [e]; exact sRetV rfl rfl rfl rfl hO
  refine sCond (fun h5 => ?_) (fun h5 => ?_)
  · refine sLoadBox (intV v.num) push_last rfl ?_
    refine sCond (fun h1 => ?_) (fun h1 => ?_)
    · refine sLoadBox (intV v.num) push_last rfl ?_
      refine sCondT ?_
      refine sCond (fun h6 => ?_) (fun h6 => ?_)
      · refine sLoadBox (.str v.text) push_last rfl ?_
        refine sCondT ?_
        refine sCond (fun hf => ?_) (fun hf => ?_)
        · have e : chkV v = errV 1 := by simp_all [chkV, valOK] <;> intros <;> omega
          rw [e]; exact sRetV rfl rfl rfl rfl hO
        · have e : chkV v = .nili := by simp_all [chkV, valOK] <;> intros <;> omega
          rw [e]; exact sRetV rfl rfl rfl rfl hO
      · refine sCondF ?_
        refine sCondT ?_
        have e : chkV v = errV 1 := by simp_all [chkV, valOK] <;> intros <;> omega
        rw [e]; exact sRetV rfl rfl rfl rfl hO
    · refine sCondF ?_
      refine sCondF ?_
      refine sCondF ?_
      refine sCondT ?_
      have e : chkV v = errV 1 := by simp_all [chkV, valOK] <;> intros <;> omega
      rw [e]; exact sRetV rfl rfl rfl rfl hO
  refine sCondT ?_
  have e : chkV v = errV 1 := by simp_all [chkV, valOK] <;> intros <;> omega
  rw [e]; exact sRetV rfl rfl rfl rfl hO
end
theorem cells_val (a b : Val) : cellsEq [.int .i64, .int .i64, .str] (valV a).cells (valV b).cells = some (decide (a = b)) := by
  have h : cellsEq [.int .i64, .int .i64, .str] (valV a).cells (valV b).cells = some ((a.kind == b.kind) && ((a.num == b.num) && ((a.text == b.text) && true))) := rfl
  rw [h]
  congr 1
  rw [Bool.eq_iff_iff]
  simp only [Bool.and_eq_true, beq_iff_eq, decide_eq_true_eq, and_true]
  constructor
  · rintro ⟨h1, h2, h3⟩; cases a; cases b; simp_all
  · intro h; subst h; exact ⟨rfl, rfl, rfl⟩
end Go.AM
