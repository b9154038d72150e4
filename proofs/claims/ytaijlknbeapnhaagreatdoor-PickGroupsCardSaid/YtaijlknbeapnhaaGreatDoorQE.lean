/- Several texts of mine in one (Two, Pck, Pkd, Pku, Tw3, Prw). Own work. -/
import Derived.Test.YtaijlknbeapnhaaGreatDoorQD
import Derived.Test.YtaijlknbeapnhaaGreatDoorQC

/- The walk of value.Two at the six operators that compare; of IsBad, IsTrue, Is, like. Own work. -/
set_option linter.all false
namespace Go.AM

def isV (b : Bool) : Val := ⟨3, if b then 1 else 0, []⟩
def likeV (v o : Val) : Val := if (v.kind == 0) = true ∧ (o.kind != 4) = true then { v with kind := o.kind } else v
def opB (op c : Int) : Bool :=
  if op = 1 then c == 0 else if op = 2 then c != 0 else if op = 3 then decide (c < 0) else if op = 4 then decide (c ≤ 0) else if op = 5 then decide (c > 0) else decide (c ≥ 0)
def twoC (op : Int) (a b : Val) : Val :=
  if a.kind = 4 then a else if b.kind = 4 then b else isV (opB op (cmpV (likeV a b) (likeV b a)))

section
variable {C : CSpec} {GT : Nat → Option AV}

theorem isBad_ev (v : Val) (H : Heap) : EFun C GT a_value_IsBad [valV v] H (.bool (v.kind == 4)) H := by
  refine sBox rfl ?_
  refine sLoadBox (intV v.kind) push_last rfl ?_
  exact sRetV rfl rfl rfl rfl ((Old.refl H).push _)

theorem isTrue_ev (v : Val) (H : Heap) : EFun C GT a_value_IsTrue [valV v] H (.bool (v.kind == 3 && v.num == 1)) H := by
  refine sBox rfl ?_
  refine sLoadBox (intV v.kind) push_last rfl ?_
  refine sCond (fun h => ?_) (fun h => ?_)
  · refine sLoadBox (intV v.num) push_last rfl ?_
    refine sCondT ?_
    have e : (v.kind == 3 && v.num == 1) = (v.num == 1) := by rw [h, Bool.true_and]
    exact sRetE (congrArg AV.bool e) rfl rfl rfl rfl ((Old.refl H).push _)
  · refine sCondF ?_
    have e : (v.kind == 3 && v.num == 1) = false := by rw [h, Bool.false_and]
    exact sRetE (congrArg AV.bool e) rfl rfl rfl rfl ((Old.refl H).push _)

theorem is_ev (b : Bool) (H : Heap) : EFun C GT a_value_Is [.bool b] H (valV (isV b)) H := by
  refine sOpt rfl ?_
  have hO := ((Old.refl H).push [.box [.int .i64 0, .int .i64 0, .str []]]).push [.box [.int .i64 0, .int .i64 0, .str []]]
  have hne : (H ++ [ABlk.box [.int .i64 0, .int .i64 0, .str []]]).length ≠ H.length := by simp
  have hle : H.length ≤ (H ++ [ABlk.box [.int .i64 0, .int .i64 0, .str []]]).length := by simp
  refine sStoreBox push_last rfl rfl (by simp) ?_
  refine sCond (fun h => ?_) (fun h => ?_)
  · refine sStoreBox (set_at push_last) rfl rfl (show 1 + 1 ≤ 3 by omega) ?_
    refine sLoadBox (valV (isV true)) (set_at (set_at push_last)) rfl ?_
    refine sStoreBox (set_other hne (set_other hne (push_old push_last))) rfl rfl (by simp) ?_
    subst h
    exact sRetCell (o := 0) rfl rfl (ptr_box (set_at (set_other hne (set_other hne (push_old push_last))))) rfl rfl rfl (((hO.set hle _).set hle _).set (Nat.le_refl _) _)
  · refine sLoadBox (valV (isV false)) (set_at push_last) rfl ?_
    refine sStoreBox (set_other hne (push_old push_last)) rfl rfl (by simp) ?_
    subst h
    exact sRetCell (o := 0) rfl rfl (ptr_box (set_at (set_other hne (push_old push_last)))) rfl rfl rfl ((hO.set hle _).set (Nat.le_refl _) _)

theorem like_ev (v o : Val) (H : Heap) : EFun C GT a_value_like [valV v, valV o] H (valV (likeV v o)) H := by
  refine sBox rfl ?_
  refine sBox rfl ?_
  have g2 : (H ++ [ABlk.box (valV v).cells] ++ [ABlk.box (valV o).cells] ++ [ABlk.box [.int .i64 0, .int .i64 0, .str []]])[H.length]? = some (.box (valV v).cells) := push_old (push_old push_last)
  have g3 : (H ++ [ABlk.box (valV v).cells] ++ [ABlk.box (valV o).cells] ++ [ABlk.box [.int .i64 0, .int .i64 0, .str []]])[(H ++ [ABlk.box (valV v).cells]).length]? = some (.box (valV o).cells) := push_old push_last
  have hO := (((Old.refl H).push [.box (valV v).cells]).push [.box (valV o).cells]).push [.box [.int .i64 0, .int .i64 0, .str []]]
  have hle : H.length ≤ (H ++ [ABlk.box (valV v).cells] ++ [ABlk.box (valV o).cells]).length := by simp
  have hne : H.length ≠ (H ++ [ABlk.box (valV v).cells] ++ [ABlk.box (valV o).cells]).length := by simp
  refine sLoadBox (intV v.kind) g2 rfl ?_
  have no : (likeV v o = v) → EW C GT (b_value_like.behind 2) (finF a_value_like H (valV (likeV v o)) H) [(4, .ref (H ++ [ABlk.box (valV v).cells] ++ [ABlk.box (valV o).cells]).length 0 0 0), (2, .ref H.length 0 0 0)] (H ++ [ABlk.box (valV v).cells] ++ [ABlk.box (valV o).cells] ++ [ABlk.box [.int .i64 0, .int .i64 0, .str []]]) := by
    intro e
    rw [e]
    refine sLoadBox (valV v) g2 rfl ?_
    refine sStoreBox push_last rfl rfl (by simp) ?_
    exact sRetCell (o := 0) rfl rfl (ptr_box (set_at push_last)) rfl rfl rfl (hO.set hle _)
  refine sCond (fun h => ?_) (fun h => ?_)
  · refine sLoadBox (intV o.kind) g3 rfl ?_
    refine sCondT ?_
    refine sCond (fun h' => ?_) (fun h' => ?_)
    · refine sLoadBox (intV o.kind) g3 rfl ?_
      refine sStoreBox g2 rfl rfl (show 0 + 1 ≤ 3 by omega) ?_
      have e : likeV v o = ⟨o.kind, v.num, v.text⟩ := by unfold likeV; rw [if_pos ⟨h, h'⟩]
      rw [e]
      refine sLoadBox (valV ⟨o.kind, v.num, v.text⟩) (set_at g2) rfl ?_
      refine sStoreBox (set_other hne push_last) rfl rfl (by simp) ?_
      exact sRetCell (o := 0) rfl rfl (ptr_box (set_at (set_other hne push_last))) rfl rfl rfl ((hO.set (Nat.le_refl _) _).set hle _)
    · refine sTail rfl (no (by unfold likeV; rw [if_neg (fun x => by rw [x.2] at h'; cases h')])) ?_
      rfl
  · refine sCondF ?_
    refine sCondF ?_
    refine sTail rfl (no (by unfold likeV; rw [if_neg (fun x => by rw [x.1] at h; cases h)])) ?_
    rfl

theorem two_ev (hB : ∀ v H, C f_value_IsBad [valV v] H (.bool (v.kind == 4)) H) (hI : ∀ b H, C f_value_Is [.bool b] H (valV (isV b)) H) (hL : ∀ v o H, C f_value_like [valV v, valV o] H (valV (likeV v o)) H)
    (hC : ∀ a b H, C f_value_Compare [valV a, valV b] H (intV (cmpV a b)) H) (op : Int) (h1 : 1 ≤ op) (h6 : op ≤ 6) (a b : Val) (H : Heap) : EFun C GT a_value_Two [intV op, valV a, valV b] H (valV (twoC op a b)) H := by
  let Hh := H ++ [ABlk.box (valV a).cells] ++ [ABlk.box (valV b).cells] ++ [ABlk.box [.int .i64 0, .int .i64 0, .str []]]
  have gb : Hh[(H ++ [ABlk.box (valV a).cells]).length]? = some (.box (valV b).cells) := push_old push_last
  have ga : Hh[H.length]? = some (.box (valV a).cells) := push_old (push_old push_last)
  have gz : Hh[(H ++ [ABlk.box (valV a).cells] ++ [ABlk.box (valV b).cells]).length]? = some (.box [.int .i64 0, .int .i64 0, .str []]) := push_last
  have hO : Old H Hh := (((Old.refl H).push [.box (valV a).cells]).push [.box (valV b).cells]).push [.box [.int .i64 0, .int .i64 0, .str []]]
  have hle : H.length ≤ (H ++ [ABlk.box (valV a).cells] ++ [ABlk.box (valV b).cells]).length := by simp
  have fin : ∀ v : Val, twoC op a b = v → ∀ fr, getF fr 6 = .ref (H ++ [ABlk.box (valV a).cells] ++ [ABlk.box (valV b).cells]).length 0 0 0 → finF a_value_Two H (valV (twoC op a b)) H .ret fr (Hh.set (H ++ [ABlk.box (valV a).cells] ++ [ABlk.box (valV b).cells]).length (.box (splice [.int .i64 0, .int .i64 0, .str []] (0 + 0) (valV v).cells))) := by
    intro v e fr hfr
    rw [e]
    exact sRetCell (o := 0) rfl rfl (by rw [hfr]; exact ptr_box (set_at gz)) rfl rfl rfl (hO.set hle _)
  have tail : a.kind ≠ 4 → b.kind ≠ 4 → EW C GT (b_value_Two.behind 3) (finF a_value_Two H (valV (twoC op a b)) H) [(6, .ref (H ++ [ABlk.box (valV a).cells] ++ [ABlk.box (valV b).cells]).length 0 0 0), (0, intV op), (4, .ref H.length 0 0 0), (5, .ref (H ++ [ABlk.box (valV a).cells]).length 0 0 0)] Hh := by
    intro na nb
    have e : twoC op a b = isV (opB op (cmpV (likeV a b) (likeV b a))) := by unfold twoC; rw [if_neg na, if_neg nb]
    refine sLoadBox (valV a) ga rfl ?_
    refine sLoadBox (valV b) gb rfl ?_
    refine sCall0 (hL a b Hh) ?_
    refine sLoadBox (valV b) gb rfl ?_
    refine sLoadBox (valV a) ga rfl ?_
    refine sCall0 (hL b a Hh) ?_
    refine sCall0 (hC _ _ Hh) ?_
    generalize cmpV (likeV a b) (likeV b a) = c at e
    have hop : op = 1 ∨ op = 2 ∨ op = 3 ∨ op = 4 ∨ op = 5 ∨ op = 6 := by omega
    rcases hop with rfl | rfl | rfl | rfl | rfl | rfl
    · refine sCondT ?_
      refine sCall0 (hI (c == 0) Hh) ?_
      refine sStoreBox gz rfl rfl (by simp) ?_
      exact fin (isV (c == 0)) e _ rfl
    · refine sCondF ?_
      refine sCondT ?_
      refine sCall0 (hI (c != 0) Hh) ?_
      refine sStoreBox gz rfl rfl (by simp) ?_
      exact fin (isV (c != 0)) e _ rfl
    · refine sCondF ?_
      refine sCondF ?_
      refine sCondT ?_
      refine sCall0 (hI (decide (c < 0)) Hh) ?_
      refine sStoreBox gz rfl rfl (by simp) ?_
      exact fin (isV (decide (c < 0))) e _ rfl
    · refine sCondF ?_
      refine sCondF ?_
      refine sCondF ?_
      refine sCondT ?_
      refine sCall0 (hI (decide (c ≤ 0)) Hh) ?_
      refine sStoreBox gz rfl rfl (by simp) ?_
      exact fin (isV (decide (c ≤ 0))) e _ rfl
    · refine sCondF ?_
      refine sCondF ?_
      refine sCondF ?_
      refine sCondF ?_
      refine sCondT ?_
      refine sCall0 (hI (decide (c > 0)) Hh) ?_
      refine sStoreBox gz rfl rfl (by simp) ?_
      exact fin (isV (decide (c > 0))) e _ rfl
    · refine sCondF ?_
      refine sCondF ?_
      refine sCondF ?_
      refine sCondF ?_
      refine sCondF ?_
      refine sCall0 (hI (decide (c ≥ 0)) Hh) ?_
      refine sStoreBox gz rfl rfl (by simp) ?_
      exact fin (isV (decide (c ≥ 0))) e _ rfl
  refine efun_of ?_
  refine sBox rfl ?_
  refine sBox rfl ?_
  refine sCond (fun h => absurd (of_decide_eq_true h) (by omega)) (fun _ => ?_)
  refine sCondF ?_
  refine sCond (fun h => absurd (of_decide_eq_true h) (by omega)) (fun _ => ?_)
  refine sCond (fun h => absurd (of_decide_eq_true h) (by omega)) (fun _ => ?_)
  refine sLoadBox (valV a) ga rfl ?_
  refine sCall0 (hB a Hh) ?_
  refine sCond (fun h => ?_) (fun h => ?_)
  · refine sLoadBox (valV a) ga rfl ?_
    refine sStoreBox gz rfl rfl (by simp) ?_
    exact fin a (by unfold twoC; rw [if_pos (eq_of_beq h)]) _ rfl
  have na : a.kind ≠ 4 := ne_of_beq_false h
  refine sLoadBox (valV b) gb rfl ?_
  refine sCall0 (hB b Hh) ?_
  refine sCond (fun h => ?_) (fun h => ?_)
  · refine sLoadBox (valV b) gb rfl ?_
    refine sStoreBox gz rfl rfl (by simp) ?_
    exact fin b (by unfold twoC; rw [if_neg na, if_pos (eq_of_beq h)]) _ rfl
  have nb : b.kind ≠ 4 := ne_of_beq_false h
  refine sCond (fun h => absurd (of_decide_eq_true h) (by omega)) (fun _ => ?_)
  refine sCond (fun h => absurd (eq_of_beq h) (by omega)) (fun _ => ?_)
  refine sBlkN (sTail rfl (tail na nb) ?_)
  rfl
end
end Go.AM

/- The walk of pick.check. Own work. -/
set_option linter.all false
namespace Go.AM

structure Want where
  col : Int
  op : Int
  val : Val
  deriving DecidableEq, Inhabited
def wantV (w : Want) : AV := .agg [intV w.col, intV w.op, intV w.val.kind, intV w.val.num, .str w.val.text]
def wantOK (t : List Row) (w : Want) : Bool := colOK t w.col && decide (1 ≤ w.op) && decide (w.op ≤ 6) && valOK w.val
def wantErr (t : List Row) (l : List Want) : Nat :=
  if tabErr t ≠ 0 then tabErr t else if 12 < l.length then 4 else if (l.any fun w => !wantOK t w) = true then 1 else 0

section
variable {C : CSpec} {GT : Nat → Option AV}

set_option maxHeartbeats 1000000 in
theorem pick_check_ev (hK : ∀ tv t H, TabOf H tv t → C f_sort_Check [tv] H (errN (tabErr t)) H) (hL : ∀ tv t c H, TabOf H tv t → C f_sort_Column [tv, intV c] H (.bool (colOK t c)) H) (hV : ∀ v H, C f_value_Check [valV v] H (chkV v) H)
    (tv wv : AV) (t : List Row) (l : List Want) (H : Heap) (ht : TabOf H tv t) (hw : view H 5 wv = some (l.map wantV)) : EFun C GT a_pick_check [tv, wv] H (errN (wantErr t l)) H := by
  have hk := hK tv t H ht
  by_cases he : tabErr t = 0
  case neg =>
    obtain ⟨n, hn⟩ : ∃ n, tabErr t = n + 1 := ⟨tabErr t - 1, by omega⟩
    rw [hn] at hk
    have e : wantErr t l = n + 1 := by unfold wantErr; rw [if_pos (by omega), hn]
    rw [e]
    refine sCall0 hk ?_
    refine sOpt rfl ?_
    refine sCondT ?_
    exact sRetV rfl rfl rfl rfl (Old.refl _)
  rw [he] at hk
  refine sCall0 hk ?_
  refine sOpt rfl ?_
  refine sCondF ?_
  refine sLenN l.length hw (by simp) ?_
  refine sCond (fun h => ?_) (fun h => ?_)
  · have h := of_decide_eq_true h
    have e : wantErr t l = 4 := by unfold wantErr; rw [if_neg (by omega), if_pos (by omega)]
    rw [e]; exact sRetV rfl rfl rfl rfl (Old.refl _)
  have h := of_decide_eq_false h
  refine sLenN l.length hw (by simp) ?_
  refine sLoop (σ := Nat) (fun i => [(19, .int .i64 i), (0, tv), (17, wv), (18, .int .i64 l.length)]) (fun i H1 => Old H H1 ∧ i ≤ l.length ∧ ∀ k w, k < i → l[k]? = some w → wantOK t w = true) (fun i => l.length - i) 0 rfl ⟨Old.refl H, Nat.zero_le _, fun k r h => absurd h (Nat.not_lt_zero _)⟩ (fun i H1 ⟨hO, hi, hok⟩ => ?_)
  refine sCond (fun hlt => ?_) (fun hlt => ?_)
  · have hlt : i < l.length := by have := of_decide_eq_true hlt; omega
    have hci : l[i]? = some l[i] := List.getElem?_eq_getElem hlt
    obtain ⟨w, hwd⟩ : ∃ w, l[i] = w := ⟨_, rfl⟩
    rw [hwd] at hci
    refine sIdxV i (wantV w) (view_old hO hw) rfl (by rw [List.getElem?_map, hci]; rfl) (fun p hp => ?_)
    refine sLoadP (wantV w) hp rfl ?_
    refine sStoreBox push_last rfl rfl (by simp) ?_
    have hO2 := (hO.push [ABlk.box [.int .i64 0, .int .i64 0, .int .i64 0, .int .i64 0, .str []]]).set hO.1 (.box (splice [.int .i64 0, .int .i64 0, .int .i64 0, .int .i64 0, .str []] (0 + 0) (wantV w).cells))
    have ht2 := ht.old hO2
    have bad : wantOK t w = false → wantErr t l = 1 := fun hb => by
      unfold wantErr; rw [if_neg (by omega), if_neg (by omega), if_pos (any_at hci (by rw [hb]; rfl))]
    refine sLoadBox (intV w.col) (set_at push_last) rfl ?_
    refine sCall0 (hL tv t w.col _ ht2) ?_
    refine sCond (fun hb => ?_) (fun hb => ?_)
    · have e := bad (by unfold wantOK; rw [show colOK t w.col = false by simpa using hb]; rfl)
      refine sCondT ?_
      refine sCondT ?_
      refine sCondT ?_
      refine sCondT ?_
      refine sCondT ?_
      refine sCondT ?_
      exact sRetE (congrArg errN e) rfl rfl rfl rfl hO2
    have hc : colOK t w.col = true := by simpa using hb
    refine sLoadBox (intV w.op) (set_at push_last) rfl ?_
    refine sCondF ?_
    refine sCond (fun hb => ?_) (fun hb => ?_)
    · have hb := of_decide_eq_true hb
      have e := bad (by unfold wantOK; rw [show decide (1 ≤ w.op) = false by simp; omega]; simp)
      refine sCondT ?_
      refine sCondT ?_
      refine sCondT ?_
      refine sCondT ?_
      exact sRetE (congrArg errN e) rfl rfl rfl rfl hO2
    have h1 := of_decide_eq_false hb
    refine sLoadBox (intV w.op) (set_at push_last) rfl ?_
    refine sCondF ?_
    refine sCond (fun hb => ?_) (fun hb => ?_)
    · have hb := of_decide_eq_true hb
      have e := bad (by unfold wantOK; rw [show decide (w.op ≤ 6) = false by simp; omega]; simp)
      refine sCondT ?_
      refine sCondT ?_
      exact sRetE (congrArg errN e) rfl rfl rfl rfl hO2
    have h6 := of_decide_eq_false hb
    refine sLoadBox (valV w.val) (set_at push_last) rfl ?_
    by_cases hval : valOK w.val = true
    · refine sCall0 (v := .nili) (by have := hV w.val ((H1 ++ [ABlk.box [.int .i64 0, .int .i64 0, .int .i64 0, .int .i64 0, .str []]]).set H1.length (.box (splice [.int .i64 0, .int .i64 0, .int .i64 0, .int .i64 0, .str []] (0 + 0) (wantV w).cells))); simp only [chkV, hval, if_true] at this; exact this) ?_
      refine sOpt rfl ?_
      refine sCondF ?_
      refine sCondF ?_
      refine sW64n (r := i + 1) rfl (by omega) ?_
      refine sNext (i + 1) rfl ⟨hO2, by omega, fun k c hk hkc => ?_⟩ (by omega)
      by_cases e : k = i
      · subst e; rw [hci] at hkc; cases hkc
        unfold wantOK
        rw [hc, hval]; simp; omega
      · exact hok k c (by omega) hkc
    · have hval : valOK w.val = false := by simpa using hval
      have e := bad (by unfold wantOK; rw [hval]; simp)
      refine sCall0 (v := errV 1) (by have := hV w.val ((H1 ++ [ABlk.box [.int .i64 0, .int .i64 0, .int .i64 0, .int .i64 0, .str []]]).set H1.length (.box (splice [.int .i64 0, .int .i64 0, .int .i64 0, .int .i64 0, .str []] (0 + 0) (wantV w).cells))); simp only [chkV, hval, Bool.false_eq_true, if_false] at this; exact this) ?_
      refine sOpt rfl ?_
      refine sCondF ?_
      refine sCondT ?_
      exact sRetE (congrArg errN e) rfl rfl rfl rfl hO2
  · have hlt := of_decide_eq_false hlt
    have e : wantErr t l = 0 := by
      unfold wantErr; rw [if_neg (by omega), if_neg (by omega), if_neg ?_]
      rw [any_no fun k c hk hkc => by rw [hok k c (by omega) hkc]; rfl]; simp
    rw [e]; exact sRetV rfl rfl rfl rfl hO
end
end Go.AM

/- The walk of pick.picked. Own work. -/
set_option linter.all false
namespace Go.AM

def meet (r : Row) (w : Want) : Bool := (twoC w.op (r.getD w.col.toNat default) w.val).kind == 3 && (twoC w.op (r.getD w.col.toNat default) w.val).num == 1
def meetN (r : Row) (l : List Want) : Nat := (l.filter (meet r)).length
def pickL (t : List Row) (l : List Want) (en : Nat → Bool) (n : Nat) : List Nat := (List.range n).filter fun i => en (meetN (t.getD i []) l)
def pickV (t : List Row) (l : List Want) (en : Nat → Bool) : AV :=
  if wantErr t l ≠ 0 then .tup [.lst (some true) 0 [], errN (wantErr t l)] else .tup [lstF 1 ((pickL t l en t.length).map natV), .nili]

theorem want_ok {t : List Row} {l : List Want} (h : wantErr t l = 0) : t.length ≤ 60 ∧ l.length ≤ 12 ∧ ∀ (i : Nat) (r : Row), t[i]? = some r → ∀ w ∈ l, 0 ≤ w.col ∧ w.col < (r.length : Int) ∧ 1 ≤ w.op ∧ w.op ≤ 6 := by
  unfold wantErr at h
  split at h
  · omega
  rename_i h1
  split at h
  · cases h
  rename_i h2
  split at h
  · cases h
  rename_i h3
  have hall : ∀ w ∈ l, wantOK t w = true := by
    intro w hw
    by_cases hb : wantOK t w = true
    · exact hb
    · exact absurd (List.any_eq_true.2 ⟨w, hw, by simpa using hb⟩) h3
  have hc : colErr t (l.map (·.col)) = 0 := by
    unfold colErr
    rw [if_neg h1, if_neg (by rw [List.length_map]; exact h2), if_neg]
    intro hx
    obtain ⟨c, hcm, hcb⟩ := List.any_eq_true.1 hx
    obtain ⟨w, hw, rfl⟩ := List.mem_map.1 hcm
    have := hall w hw
    unfold wantOK at this
    simp only [Bool.and_eq_true] at this
    rw [this.1.1.1] at hcb; cases hcb
  obtain ⟨a1, a2, a3, a4⟩ := tab_ok hc
  refine ⟨a1, by omega, fun i r hr w hw => ?_⟩
  obtain ⟨b1, b2⟩ := a4 i r hr w.col (List.mem_map.2 ⟨w, hw, rfl⟩)
  have := hall w hw
  unfold wantOK at this
  simp only [Bool.and_eq_true, decide_eq_true_eq] at this
  exact ⟨b1, b2, this.1.1.2, this.1.2⟩

theorem pickL_succ (t : List Row) (l : List Want) (en : Nat → Bool) (n : Nat) : pickL t l en (n + 1) = if en (meetN (t.getD n []) l) = true then pickL t l en n ++ [n] else pickL t l en n := by
  unfold pickL
  rw [List.range_succ, List.filter_append]
  simp only [List.filter_cons, List.filter_nil]
  split <;> simp

section
variable {C : CSpec} {GT : Nat → Option AV}

structure SPi where
  k : Nat
  n : Nat
structure SPo where
  i : Nat
  v : AV

set_option maxHeartbeats 1000000 in
theorem picked_ev (hK : ∀ tv wv t l H, TabOf H tv t → view H 5 wv = some (l.map wantV) → C f_pick_check [tv, wv] H (errN (wantErr t l)) H)
    (hTwo : ∀ op a b H, 1 ≤ op → op ≤ 6 → C f_value_Two [intV op, valV a, valV b] H (valV (twoC op a b)) H) (hT : ∀ v H, C f_value_IsTrue [valV v] H (.bool (v.kind == 3 && v.num == 1)) H)
    (tv wv : AV) (t : List Row) (l : List Want) (f : FuncId) (first caps : List AV) (en : Nat → Bool) (H : Heap) (ht : TabOf H tv t) (hw : view H 5 wv = some (l.map wantV))
    (hF : ∀ n H', Old H H' → C f (first ++ [natV n] ++ caps) H' (.bool (en n)) H') : EFun C GT a_pick_picked [tv, wv, .fn f first caps] H (pickV t l en) H := by
  have hk := hK tv wv t l H ht hw
  by_cases he : wantErr t l = 0
  case neg =>
    obtain ⟨n, hn⟩ : ∃ n, wantErr t l = n + 1 := ⟨wantErr t l - 1, by omega⟩
    rw [hn] at hk
    have e : pickV t l en = .tup [.lst (some true) 0 [], errN (n + 1)] := by unfold pickV; rw [if_pos (by omega), hn]
    rw [e]
    refine sCall0 hk ?_
    refine sOpt rfl ?_
    refine sCondT ?_
    exact sRetV rfl rfl rfl rfl (Old.refl _)
  obtain ⟨w1, w2, w3⟩ := want_ok he
  rw [he] at hk
  refine sCall0 hk ?_
  refine sOpt rfl ?_
  refine sCondF ?_
  obtain ⟨rows, hrv, hrl, hrg⟩ := ht
  refine sLenN t.length hrv hrl ?_
  refine sLoop (fun s : SPo => [(23, .int .i64 s.i), (9, s.v), (2, .fn f first caps), (1, wv), (21, tv), (22, .int .i64 t.length)]) (fun s H1 => Owns H H1 s.v 1 ((pickL t l en s.i).map natV) ∧ Old H H1 ∧ s.i ≤ t.length) (fun s => t.length - s.i) ⟨0, .lst (some true) 0 []⟩ rfl ⟨.inl ⟨rfl, rfl⟩, Old.refl H, Nat.zero_le _⟩ (fun ⟨i, v⟩ H1 ⟨ho, hO, hi⟩ => ?_)
  simp only at ho hi
  dsimp only
  refine sCond (fun hlt => ?_) (fun hlt => ?_)
  · have hlt : i < t.length := by have := of_decide_eq_true hlt; omega
    have hti : t[i]? = some t[i] := List.getElem?_eq_getElem hlt
    obtain ⟨r, hr⟩ : ∃ r, t[i] = r := ⟨_, rfl⟩
    rw [hr] at hti
    obtain ⟨x, hx, hxr⟩ := hrg i r hti
    refine sIdxV i x (view_old hO hrv) rfl hx (fun p hp => ?_)
    refine sLoadP x hp (by obtain ⟨q, k, rfl, _⟩ := hxr; rfl) ?_
    refine sLenN l.length (view_old hO hw) (by simp) ?_
    refine sLoop (fun s : SPi => [(30, .int .i64 s.k), (12, .int .i64 s.n), (11, x), (28, wv), (2, .fn f first caps), (1, wv), (21, tv), (22, .int .i64 t.length), (23, .int .i64 i), (10, .int .i64 i), (9, v), (29, .int .i64 l.length)])
      (fun s H2 => Owns H H2 v 1 ((pickL t l en i).map natV) ∧ Old H H2 ∧ s.k ≤ l.length ∧ s.n = meetN r (l.take s.k)) (fun s => l.length - s.k) ⟨0, 0⟩ rfl ⟨ho, hO, Nat.zero_le _, rfl⟩ (fun ⟨k, n⟩ H2 ⟨ho2, hO2, hk2, hn2⟩ => ?_)
    simp only at hk2 hn2
    dsimp only
    have hnb : n ≤ l.length := by
      rw [hn2]; unfold meetN
      exact Nat.le_trans (List.length_filter_le _ _) (by rw [List.length_take]; omega)
    refine sCond (fun hlk => ?_) (fun hlk => ?_)
    · have hlk : k < l.length := by have := of_decide_eq_true hlk; omega
      have hlw : l[k]? = some l[k] := List.getElem?_eq_getElem hlk
      obtain ⟨w, hwd⟩ : ∃ w, l[k] = w := ⟨_, rfl⟩
      rw [hwd] at hlw
      obtain ⟨c0, c1, o1, o6⟩ := w3 i r hti w (List.mem_of_getElem? hlw)
      refine sIdxV k (wantV w) (view_old hO2 hw) rfl (by rw [List.getElem?_map, hlw]; rfl) (fun p hp => ?_)
      refine sLoadP (wantV w) hp rfl ?_
      have hne : v.blk ≠ some H2.length := fun e => by have := ho2.lt e; omega
      refine sStoreBox push_last rfl rfl (by simp) ?_
      have hO3 := (hO2.push [ABlk.box [.int .i64 0, .int .i64 0, .int .i64 0, .int .i64 0, .str []]]).set hO2.1 (.box (splice [.int .i64 0, .int .i64 0, .int .i64 0, .int .i64 0, .str []] (0 + 0) (wantV w).cells))
      have ho3 := (ho2.push (ABlk.box [.int .i64 0, .int .i64 0, .int .i64 0, .int .i64 0, .str []])).set hne (.box (splice [.int .i64 0, .int .i64 0, .int .i64 0, .int .i64 0, .str []] (0 + 0) (wantV w).cells))
      refine sLoadBox (intV w.op) (set_at push_last) rfl ?_
      refine sLoadBox (intV w.col) (set_at push_last) rfl ?_
      obtain ⟨j, hj⟩ : ∃ j : Nat, w.col = j := ⟨w.col.toNat, by omega⟩
      have hjl : j < r.length := by omega
      have hrj : r[j]? = some r[j] := List.getElem?_eq_getElem hjl
      refine sIdxV j (valV r[j]) (hxr.get ((H2 ++ [ABlk.box [.int .i64 0, .int .i64 0, .int .i64 0, .int .i64 0, .str []]]).set H2.length (.box (splice [.int .i64 0, .int .i64 0, .int .i64 0, .int .i64 0, .str []] (0 + 0) (wantV w).cells))) hrj).1 hj (hxr.get [] hrj).2 (fun p hp => ?_)
      refine sLoadP (valV r[j]) hp rfl ?_
      refine sLoadBox (valV w.val) (set_at push_last) rfl ?_
      refine sCall0 (hTwo w.op r[j] w.val _ o1 o6) ?_
      refine sCall0 (hT _ _) ?_
      have hm : meet r w = ((twoC w.op r[j] w.val).kind == 3 && (twoC w.op r[j] w.val).num == 1) := by
        unfold meet
        have : r.getD w.col.toNat default = r[j] := by rw [hj]; simp [hjl]
        rw [this]
      have hstep : meetN r (l.take (k + 1)) = meetN r (l.take k) + if meet r w = true then 1 else 0 := by
        unfold meetN
        rw [List.take_succ_eq_append_getElem hlk, hwd, List.filter_append, List.length_append]
        simp only [List.filter_cons, List.filter_nil]
        split <;> simp
      refine sCond (fun hb => ?_) (fun hb => ?_)
      · refine sW64n (r := n + 1) rfl (by omega) ?_
        refine sW64n (r := k + 1) rfl (by omega) ?_
        exact sNext (SPi.mk (k + 1) (n + 1)) rfl ⟨ho3, hO3, by simp only; omega, by simp only; rw [hstep, hm, hb, hn2]; rfl⟩ (by simp only; omega)
      · refine sW64n (r := k + 1) rfl (by omega) ?_
        exact sNext (SPi.mk (k + 1) n) rfl ⟨ho3, hO3, by simp only; omega, by simp only; rw [hstep, hm, hb, hn2]; rfl⟩ (by simp only; omega)
    · have hge : k = l.length := by have := of_decide_eq_false hlk; omega
      subst hge
      rw [List.take_length] at hn2
      have hti' : t.getD i [] = r := by rw [List.getD_eq_getElem?_getD, hti]; rfl
      refine sCall0 (hF n H2 hO2) ?_
      have hsucc := pickL_succ t l en i
      rw [hti', ← hn2] at hsucc
      refine sCond (fun hb => ?_) (fun hb => ?_)
      · rw [if_pos hb] at hsucc
        have hpl : (pickL t l en i).length ≤ i := by unfold pickL; exact Nat.le_trans (List.length_filter_le _ _) (by simp)
        refine sPush (natV i) ho2 hO2 rfl rfl (by omega) (by rw [List.length_map]; omega) (fun s0 H3 v' H4 ho4 hO4 _ _ => ?_)
        refine sW64n (r := i + 1) rfl (by omega) ?_
        exact sNext (SPo.mk (i + 1) v') rfl ⟨by simp only; rw [hsucc, List.map_append]; exact ho4, hO4, by simp only; omega⟩ (by simp only; omega)
      · rw [if_neg (by rw [hb]; simp)] at hsucc
        refine sW64n (r := i + 1) rfl (by omega) ?_
        exact sNext (SPo.mk (i + 1) v) rfl ⟨by simp only; rw [hsucc]; exact ho2, hO2, by simp only; omega⟩ (by simp only; omega)
  · have hge : i = t.length := by have := of_decide_eq_false hlt; omega
    subst hge
    have e : pickV t l en = .tup [lstF 1 ((pickL t l en t.length).map natV), .nili] := by unfold pickV; rw [if_neg (by omega)]
    rw [e]
    obtain ⟨H', hf, hO', _⟩ := ho.frz hO
    exact sRetF (v0 := .tup [v, .nili]) rfl rfl (by simp only [frzV, frzL, hf]) (by simp [AV.bel, AV.belL, lstF_bel]) hO'
end
end Go.AM

/- The walks of pick.Pick and pick.Any. Own work. -/
set_option linter.all false
namespace Go.AM

theorem pickV_form (t : List Row) (l : List Want) (en : Nat → Bool) : ∃ lv ev, pickV t l en = .tup [lv, ev] ∧ (∀ n H, frzV n (.tup [lv, ev]) H = some (.tup [lv, ev], H)) ∧ ∀ n, (AV.tup [lv, ev]).bel n = true := by
  by_cases he : wantErr t l = 0
  · refine ⟨lstF 1 ((pickL t l en t.length).map natV), .nili, by unfold pickV; rw [if_neg (by omega)], fun n H => ?_, fun n => ?_⟩
    · simp only [frzV, frzL, frz_plain (lstF_plain _ _)]
    · simp [AV.bel, AV.belL, lstF_bel]
  · obtain ⟨n, hn⟩ : ∃ n, wantErr t l = n + 1 := ⟨wantErr t l - 1, by omega⟩
    exact ⟨.lst (some true) 0 [], errV (n + 1 : Nat), by unfold pickV; rw [if_pos (by omega), hn]; rfl, fun n H => rfl, fun n => rfl⟩

def enAll (l : List Want) (n : Nat) : Bool := (n : Int) == (l.length : Int)
def enAny (n : Nat) : Bool := decide ((n : Int) > 0)

section
variable {C : CSpec} {GT : Nat → Option AV}

theorem pick_c1_ev (n b : Nat) (wv : AV) (l : List Want) (H : Heap) (hb : H[b]? = some (.box [wv])) (hw : view H 5 wv = some (l.map wantV)) : EFun C GT a_pick_Pick_c1 [natV n, .ref b 0 0 0] H (.bool (enAll l n)) H := by
  refine sLoadBox wv hb rfl ?_
  refine sLenN l.length hw (by simp) ?_
  exact sRetV rfl rfl rfl rfl (Old.refl H)

theorem any_c1_ev (n : Nat) (H : Heap) : EFun C GT a_pick_Any_c1 [natV n] H (.bool (enAny n)) H := sRetV rfl rfl rfl rfl (Old.refl H)

theorem pick_ev (hP : ∀ tv wv t l f first caps en H, TabOf H tv t → view H 5 wv = some (l.map wantV) → (∀ n H', Old H H' → C f (first ++ [natV n] ++ caps) H' (.bool (en n)) H') → C f_pick_picked [tv, wv, .fn f first caps] H (pickV t l en) H)
    (hc : ∀ n b wv l H, H[b]? = some (.box [wv]) → view H 5 wv = some (l.map wantV) → C f_pick_Pick_c1 [natV n, .ref b 0 0 0] H (.bool (enAll l n)) H)
    (tv wv : AV) (t : List Row) (l : List Want) (H : Heap) (ht : TabOf H tv t) (hone : wv.cells = [wv] ∧ wv.one = true) (hw : view H 5 wv = some (l.map wantV)) : EFun C GT a_pick_Pick [tv, wv] H (pickV t l (enAll l)) H := by
  obtain ⟨lv, ev, e, hf, hb⟩ := pickV_form t l (enAll l)
  have hO : Old H (H ++ [ABlk.box [wv]]) := (Old.refl H).push _
  have r := hP tv wv t l f_pick_Pick_c1 [] [.ref H.length 0 0 0] (enAll l) (H ++ [ABlk.box [wv]]) (ht.old hO) (view_old hO hw) (fun n H' hO' => hc n H.length wv l H' (by rw [hO'.2 H.length (by simp)]; exact push_last) (view_old hO' (view_old hO hw)))
  rw [e] at r
  rw [e]
  refine sBox1 hone ?_
  refine sLoadBox wv push_last rfl ?_
  refine sCall0 r ?_
  refine sOpt rfl ?_
  refine sOpt rfl ?_
  exact sRetV rfl rfl (hf _ _) (hb _) hO

theorem any_ev (hP : ∀ tv wv t l f first caps en H, TabOf H tv t → view H 5 wv = some (l.map wantV) → (∀ n H', Old H H' → C f (first ++ [natV n] ++ caps) H' (.bool (en n)) H') → C f_pick_picked [tv, wv, .fn f first caps] H (pickV t l en) H)
    (hc : ∀ n H, C f_pick_Any_c1 [natV n] H (.bool (enAny n)) H)
    (tv wv : AV) (t : List Row) (l : List Want) (H : Heap) (ht : TabOf H tv t) (hw : view H 5 wv = some (l.map wantV)) : EFun C GT a_pick_Any [tv, wv] H (pickV t l enAny) H := by
  obtain ⟨lv, ev, e, hf, hb⟩ := pickV_form t l enAny
  have r := hP tv wv t l f_pick_Any_c1 [] [] enAny H ht hw (fun n H' _ => hc n H')
  rw [e] at r
  rw [e]
  refine sCall0 r ?_
  refine sOpt rfl ?_
  refine sOpt rfl ?_
  exact sRetV rfl rfl (hf _ _) (hb _) (Old.refl H)
end
end Go.AM

/- The reference's Two at the six operators that compare; Tru, Txt, Bad, beside, Wants, Meets. Own work. -/
set_option linter.all false
set_option maxRecDepth 20000
namespace Go.AM

def besR (v o : Val) : Val := if v.kind = 0 then (if o.kind = 1 then ⟨1, 0, []⟩ else if o.kind = 2 then ⟨2, 0, []⟩ else if o.kind = 3 then isV false else v) else v

theorem valOK_kind {v : Val} (h : valOK v = true) : (v.kind = 0 ∧ v.num = 0 ∧ v.text = []) ∨ v.kind = 1 ∨ v.kind = 2 ∨ v.kind = 3 ∨ v.kind = 4 := by
  unfold valOK at h
  simp only [beq_iff_eq] at h
  split at h
  · rename_i e; simp only [Bool.and_eq_true, beq_iff_eq] at h; exact .inl ⟨e, h.1, h.2⟩
  · split at h
    · exact .inr (.inl ‹_›)
    · split at h
      · exact .inr (.inr (.inl ‹_›))
      · split at h
        · exact .inr (.inr (.inr (.inl ‹_›)))
        · split at h
          · exact .inr (.inr (.inr (.inr ‹_›)))
          · cases h

theorem besR_eq {v o : Val} (hv : valOK v = true) (ho : valOK o = true) : besR v o = likeV v o := by
  unfold besR likeV isV
  by_cases hk : v.kind = 0
  · obtain ⟨k, n, s⟩ := v
    simp only at hk
    subst hk
    obtain ⟨_, h2, h3⟩ := (valOK_kind hv).resolve_right (by simp)
    simp only at h2 h3
    subst h2 h3
    rcases valOK_kind ho with ⟨h, _⟩ | h | h | h | h <;> simp [h]
  · simp [hk]

theorem likeV_ok {v o : Val} (hv : valOK v = true) (ho : valOK o = true) : valOK (likeV v o) = true := by
  rw [← besR_eq hv ho]
  unfold besR
  split
  · split
    · rfl
    · split
      · rfl
      · split
        · rfl
        · exact hv
  · exact hv

section
variable {C : CSpec} {GT : Nat → Option AV}

theorem tru3_ev (b : Bool) (H : Heap) : EFun C GT a_sccref1_Tru [.bool b] H (valV (isV b)) H := by
  cases b
  · refine efun_of ?_
    refine sCondF ?_
    refine sOpt (v := [AV.int IntKind.i64 3, AV.int IntKind.i64 0, AV.str []]) rfl ?_
    refine sStoreE (v := AV.agg [AV.int IntKind.i64 3, AV.int IntKind.i64 0, AV.str []]) (AV.cells (AV.agg [AV.int IntKind.i64 3, AV.int IntKind.i64 0, AV.str []])) push_last rfl rfl rfl rfl ?_
    exact sRetCell (o := 0) rfl rfl (ptr_box (set_at push_last)) rfl rfl rfl (((Old.refl _).push _).set (by first | assumption | exact Nat.le_refl _ | simp | omega) _)
  · refine efun_of ?_
    refine sCondT ?_
    refine sOpt (v := [AV.int IntKind.i64 3, AV.int IntKind.i64 1, AV.str []]) rfl ?_
    refine sStoreE (v := AV.agg [AV.int IntKind.i64 3, AV.int IntKind.i64 1, AV.str []]) (AV.cells (AV.agg [AV.int IntKind.i64 3, AV.int IntKind.i64 1, AV.str []])) push_last rfl rfl rfl rfl ?_
    exact sRetCell (o := 0) rfl rfl (ptr_box (set_at push_last)) rfl rfl rfl (((Old.refl _).push _).set (by first | assumption | exact Nat.le_refl _ | simp | omega) _)

theorem txt3_ev (s : List UInt8) (H : Heap) : EFun C GT a_sccref1_Txt [.str s] H (valV ⟨2, 0, s⟩) H := by
  refine efun_of ?_
  refine sOpt (v := [AV.int IntKind.i64 2, AV.int IntKind.i64 0, AV.str s]) rfl ?_
  refine sStoreE (v := AV.agg [AV.int IntKind.i64 2, AV.int IntKind.i64 0, AV.str s]) (AV.cells (AV.agg [AV.int IntKind.i64 2, AV.int IntKind.i64 0, AV.str s])) push_last rfl rfl rfl rfl ?_
  exact sRetCell (o := 0) rfl rfl (ptr_box (set_at push_last)) rfl rfl rfl (((Old.refl _).push _).set (by first | assumption | exact Nat.le_refl _ | simp | omega) _)

theorem bad3_ev (n : Int) (H : Heap) : EFun C GT a_sccref1_Bad [intV n] H (valV ⟨4, n, []⟩) H := by
  refine efun_of ?_
  refine sOpt (v := [AV.int IntKind.i64 4, intV n, AV.str []]) rfl ?_
  refine sStoreE (v := AV.agg [AV.int IntKind.i64 4, intV n, AV.str []]) (AV.cells (AV.agg [AV.int IntKind.i64 4, intV n, AV.str []])) push_last rfl rfl rfl rfl ?_
  exact sRetCell (o := 0) rfl rfl (ptr_box (set_at push_last)) rfl rfl rfl (((Old.refl _).push _).set (by first | assumption | exact Nat.le_refl _ | simp | omega) _)

theorem beside3_ev (hN : ∀ n H, C f_sccref1_Num [intV n] H (valV ⟨1, n, []⟩) H) (hX : ∀ s H, C f_sccref1_Txt [.str s] H (valV ⟨2, 0, s⟩) H) (hT : ∀ b H, C f_sccref1_Tru [.bool b] H (valV (isV b)) H)
    (v o : Val) (H : Heap) : EFun C GT a_sccref1_beside [valV v, valV o] H (valV (besR v o)) H := by
  obtain ⟨r, hr⟩ : ∃ r, besR v o = r := ⟨_, rfl⟩
  rw [hr]
  refine efun_of ?_
  refine sBox (x := valV v) rfl ?_
  refine sBox (x := valV o) rfl ?_
  refine sLoadBox (AV.int IntKind.i64 v.kind) (push_old (push_old push_last)) rfl ?_
  refine sCond (fun h => ?_) (fun h => ?_)
  · have h : v.kind = 0 := eq_of_beq h
    unfold besR at hr
    rw [if_pos h] at hr
    refine sLoadBox (AV.int IntKind.i64 o.kind) (push_old push_last) rfl ?_
    refine sCond (fun h1 => ?_) (fun h1 => ?_)
    · have h1 : o.kind = 1 := eq_of_beq h1
      rw [if_pos h1] at hr
      subst hr
      refine sCall0 (hN _ _) ?_
      refine sStoreE (v := valV { kind := 1, num := 0, text := [] }) (AV.cells (valV { kind := 1, num := 0, text := [] })) push_last rfl rfl rfl rfl ?_
      exact sRetCell (o := 0) rfl rfl (ptr_box (set_at push_last)) rfl rfl rfl (((((Old.refl _).push _).push _).push _).set (by first | assumption | exact Nat.le_refl _ | simp | omega) _)
    rw [if_neg (ne_of_beq_false h1)] at hr
    refine sCond (fun h2 => ?_) (fun h2 => ?_)
    · rw [if_pos (eq_of_beq h2)] at hr
      subst hr
      refine sCall0 (hX _ _) ?_
      refine sStoreE (v := valV { kind := 2, num := 0, text := [] }) (AV.cells (valV { kind := 2, num := 0, text := [] })) push_last rfl rfl rfl rfl ?_
      exact sRetCell (o := 0) rfl rfl (ptr_box (set_at push_last)) rfl rfl rfl (((((Old.refl _).push _).push _).push _).set (by first | assumption | exact Nat.le_refl _ | simp | omega) _)
    rw [if_neg (ne_of_beq_false h2)] at hr
    refine sCond (fun h3 => ?_) (fun h3 => ?_)
    · rw [if_pos (eq_of_beq h3)] at hr
      subst hr
      refine sCall0 (hT _ _) ?_
      refine sStoreE (v := valV (isV false)) (AV.cells (valV (isV false))) push_last rfl rfl rfl rfl ?_
      exact sRetCell (o := 0) rfl rfl (ptr_box (set_at push_last)) rfl rfl rfl (((((Old.refl _).push _).push _).push _).set (by first | assumption | exact Nat.le_refl _ | simp | omega) _)
    rw [if_neg (ne_of_beq_false h3)] at hr
    subst hr
    refine sLoadBox (valV v) (push_old (push_old push_last)) rfl ?_
    refine sStoreE (v := valV v) (AV.cells (valV v)) push_last rfl rfl rfl rfl ?_
    exact sRetCell (o := 0) rfl rfl (ptr_box (set_at push_last)) rfl rfl rfl (((((Old.refl _).push _).push _).push _).set (by first | assumption | exact Nat.le_refl _ | simp | omega) _)
  · have h : v.kind ≠ 0 := ne_of_beq_false h
    unfold besR at hr
    rw [if_neg h] at hr
    subst hr
    refine sLoadBox (valV v) (push_old (push_old push_last)) rfl ?_
    refine sStoreE (v := valV v) (AV.cells (valV v)) push_last rfl rfl rfl rfl ?_
    exact sRetCell (o := 0) rfl rfl (ptr_box (set_at push_last)) rfl rfl rfl (((((Old.refl _).push _).push _).push _).set (by first | assumption | exact Nat.le_refl _ | simp | omega) _)

theorem two3_ev (hB : ∀ v o H, C f_sccref1_beside [valV v, valV o] H (valV (besR v o)) H) (hC : ∀ a b H, C f_sccref1_Compare [valV a, valV b] H (intV (cmpR a b)) H) (hT : ∀ b H, C f_sccref1_Tru [.bool b] H (valV (isV b)) H)
    (op : Int) (h1 : 1 ≤ op) (h6 : op ≤ 6) (a b : Val) (ha : valOK a = true) (hb : valOK b = true) (H : Heap) : EFun C GT a_sccref1_Two [intV op, valV a, valV b] H (valV (twoC op a b)) H := by
  obtain ⟨r, hr⟩ : ∃ r, twoC op a b = r := ⟨_, rfl⟩
  rw [hr]
  unfold twoC at hr
  have hc := hC (besR a b) (besR b a)
  rw [besR_eq ha hb, besR_eq hb ha, cmpR_eq (likeV_ok ha hb) (likeV_ok hb ha)] at hc
  have hba := hB a b
  have hbb := hB b a
  rw [besR_eq ha hb] at hba
  rw [besR_eq hb ha] at hbb
  clear hB hC
  refine efun_of ?_
  refine sBox (x := valV a) rfl ?_
  refine sBox (x := valV b) rfl ?_
  refine sCond (fun h => absurd (of_decide_eq_true h) (by omega)) (fun _ => ?_)
  refine sCondF ?_
  refine sCond (fun h => absurd (of_decide_eq_true h) (by omega)) (fun _ => ?_)
  refine sCond (fun h => absurd (of_decide_eq_true h) (by omega)) (fun _ => ?_)
  refine sLoadBox (AV.int IntKind.i64 a.kind) (push_old (push_old push_last)) rfl ?_
  refine sCond (fun h => ?_) (fun h => ?_)
  · rw [if_pos (eq_of_beq h)] at hr
    subst hr
    refine sLoadBox (valV a) (push_old (push_old push_last)) rfl ?_
    refine sStoreE (v := valV a) (AV.cells (valV a)) push_last rfl rfl rfl rfl ?_
    exact sRetCell (o := 0) rfl rfl (ptr_box (set_at push_last)) rfl rfl rfl (((((Old.refl _).push _).push _).push _).set (by first | assumption | exact Nat.le_refl _ | simp | omega) _)
  rw [if_neg (ne_of_beq_false h)] at hr
  refine sLoadBox (AV.int IntKind.i64 b.kind) (push_old push_last) rfl ?_
  refine sCond (fun h => ?_) (fun h => ?_)
  · rw [if_pos (eq_of_beq h)] at hr
    subst hr
    refine sLoadBox (valV b) (push_old push_last) rfl ?_
    refine sStoreE (v := valV b) (AV.cells (valV b)) push_last rfl rfl rfl rfl ?_
    exact sRetCell (o := 0) rfl rfl (ptr_box (set_at push_last)) rfl rfl rfl (((((Old.refl _).push _).push _).push _).set (by first | assumption | exact Nat.le_refl _ | simp | omega) _)
  rw [if_neg (ne_of_beq_false h)] at hr
  generalize likeV a b = x at hba hc hr
  generalize likeV b a = y at hbb hc hr
  refine sCond (fun h => absurd (of_decide_eq_true h) (by omega)) (fun _ => ?_)
  refine sCond (fun h => absurd (eq_of_beq h) (by omega)) (fun _ => ?_)
  refine sLoadBox (valV a) (push_old (push_old push_last)) rfl ?_
  refine sLoadBox (valV b) (push_old push_last) rfl ?_
  refine sCall0 (hba _) ?_
  refine sLoadBox (valV b) (push_old push_last) rfl ?_
  refine sLoadBox (valV a) (push_old (push_old push_last)) rfl ?_
  refine sCall0 (hbb _) ?_
  refine sCall0 (hc _) ?_
  generalize cmpV x y = c at hr ⊢
  subst hr
  have hop : op = 1 ∨ op = 2 ∨ op = 3 ∨ op = 4 ∨ op = 5 ∨ op = 6 := by omega
  rcases hop with rfl | rfl | rfl | rfl | rfl | rfl
  · refine sCondT ?_
    refine sCall0 (hT _ _) ?_
    refine sStoreE (v := valV (isV (c == 0))) (AV.cells (valV (isV (c == 0)))) push_last rfl rfl rfl rfl ?_
    exact sRetCell (o := 0) rfl rfl (ptr_box (set_at push_last)) rfl rfl rfl (((((Old.refl _).push _).push _).push _).set (by first | assumption | exact Nat.le_refl _ | simp | omega) _)
  · refine sCondF ?_
    refine sCondT ?_
    refine sCall0 (hT _ _) ?_
    refine sStoreE (v := valV (isV (c != 0))) (AV.cells (valV (isV (c != 0)))) push_last rfl rfl rfl rfl ?_
    exact sRetCell (o := 0) rfl rfl (ptr_box (set_at push_last)) rfl rfl rfl (((((Old.refl _).push _).push _).push _).set (by first | assumption | exact Nat.le_refl _ | simp | omega) _)
  · refine sCondF ?_
    refine sCondF ?_
    refine sCondT ?_
    refine sCall0 (hT _ _) ?_
    refine sStoreE (v := valV (isV (decide (c < 0)))) (AV.cells (valV (isV (decide (c < 0))))) push_last rfl rfl rfl rfl ?_
    exact sRetCell (o := 0) rfl rfl (ptr_box (set_at push_last)) rfl rfl rfl (((((Old.refl _).push _).push _).push _).set (by first | assumption | exact Nat.le_refl _ | simp | omega) _)
  · refine sCondF ?_
    refine sCondF ?_
    refine sCondF ?_
    refine sCondT ?_
    refine sCall0 (hT _ _) ?_
    refine sStoreE (v := valV (isV (decide (c ≤ 0)))) (AV.cells (valV (isV (decide (c ≤ 0))))) push_last rfl rfl rfl rfl ?_
    exact sRetCell (o := 0) rfl rfl (ptr_box (set_at push_last)) rfl rfl rfl (((((Old.refl _).push _).push _).push _).set (by first | assumption | exact Nat.le_refl _ | simp | omega) _)
  · refine sCondF ?_
    refine sCondF ?_
    refine sCondF ?_
    refine sCondF ?_
    refine sCondT ?_
    refine sCall0 (hT _ _) ?_
    refine sStoreE (v := valV (isV (decide (c > 0)))) (AV.cells (valV (isV (decide (c > 0))))) push_last rfl rfl rfl rfl ?_
    exact sRetCell (o := 0) rfl rfl (ptr_box (set_at push_last)) rfl rfl rfl (((((Old.refl _).push _).push _).push _).set (by first | assumption | exact Nat.le_refl _ | simp | omega) _)
  · refine sCondF ?_
    refine sCondF ?_
    refine sCondF ?_
    refine sCondF ?_
    refine sCondF ?_
    refine sCondT ?_
    refine sCall0 (hT _ _) ?_
    refine sStoreE (v := valV (isV (decide (c ≥ 0)))) (AV.cells (valV (isV (decide (c ≥ 0))))) push_last rfl rfl rfl rfl ?_
    exact sRetCell (o := 0) rfl rfl (ptr_box (set_at push_last)) rfl rfl rfl (((((Old.refl _).push _).push _).push _).set (by first | assumption | exact Nat.le_refl _ | simp | omega) _)

set_option maxHeartbeats 4000000 in
theorem wants3_ev (hK : ∀ tv t H, TabOf H tv t → C f_sccref3_Table [tv] H (natV (tabErr t)) H) (hL : ∀ tv t c H, TabOf H tv t → C f_sccref3_Column [tv, intV c] H (.bool (colOK t c)) H) (hI : ∀ v H, C f_sccref1_Is [valV v] H (.bool (valOK v)) H)
    (tv wv : AV) (t : List Row) (l : List Want) (H : Heap) (ht : TabOf H tv t) (hw : LstOf wv 5 (l.map wantV)) : EFun C GT a_sccref3_Wants [tv, wv] H (natV (wantErr t l)) H := by
  have hk := hK tv t H ht
  refine efun_of ?_
  refine sCall0 (hk) ?_
  refine sCond (fun he => ?_) (fun he => ?_)
  · have he' : tabErr t ≠ 0 := by simp only [bne_iff_ne, ne_eq] at he; omega
    have e : wantErr t l = tabErr t := by unfold wantErr; rw [if_pos he']
    rw [e]; exact sRetV rfl rfl rfl rfl (Old.refl _)
  have he' : tabErr t = 0 := by simp only [bne_eq_false_iff_eq] at he; omega
  refine sLenO l.length hw (by simp) ?_
  refine sCond (fun h => ?_) (fun h => ?_)
  · simp only [decide_eq_true_eq] at h
    have e : wantErr t l = 4 := by unfold wantErr; rw [if_neg (by omega), if_pos (by omega)]
    rw [e]; exact sRetV rfl rfl rfl rfl (Old.refl _)
  simp only [decide_eq_false_iff_not] at h
  refine sLoop (σ := Nat) (fun i => [(6, .int .i64 i), (1, wv), (0, tv)]) (fun i H1 => H1 = H ∧ i ≤ l.length ∧ ∀ k c, k < i → l[k]? = some c → wantOK t c = true) (fun i => l.length - i) 0 rfl ⟨rfl, Nat.zero_le _, fun k r h => absurd h (Nat.not_lt_zero _)⟩ (fun i H1 ⟨e, hi, hok⟩ => ?_)
  subst e
  dsimp only
  refine sLenO l.length hw (by simp) ?_
  refine sCond (fun hlt => ?_) (fun hlt => ?_)
  · simp only [decide_eq_true_eq, Int.ofNat_lt] at hlt
    have hci : l[i]? = some l[i] := List.getElem?_eq_getElem hlt
    obtain ⟨w, hwd⟩ : ∃ w, l[i] = w := ⟨_, rfl⟩
    rw [hwd] at hci
    have hcm : (l.map wantV)[i]? = some (wantV w) := by rw [List.getElem?_map, hci]; rfl
    have bad : wantOK t w = false → wantErr t l = 1 := fun hb => by
      unfold wantErr; rw [if_neg (by omega), if_neg (by omega), if_pos (any_at hci (by rw [hb]; rfl))]
    have hcol := hL tv t w.col H1 ht
    refine sIdxO i (wantV w) hw rfl hcm ?_
    refine sLoadL (intV w.col) rfl ?_
    refine sCall0 (hcol) ?_
    refine sIdxO i (wantV w) hw rfl hcm ?_
    refine sLoadL (valV w.val) rfl ?_
    refine sCall0 (hI _ _) ?_
    refine sCond (fun hb => ?_) (fun hb => ?_)
    · rw [bad (by unfold wantOK; rw [show colOK t w.col = false by simpa using hb]; rfl)]
      refine sCondT ?_
      refine sCondT ?_
      refine sCondT ?_
      refine sCondT ?_
      refine sCondT ?_
      refine sCondT ?_
      exact sRetV rfl rfl rfl rfl (Old.refl _)
    have hb : colOK t w.col = true := by simpa using hb
    refine sCondF ?_
    refine sCond (fun hb2 => ?_) (fun hb2 => ?_)
    · rw [bad (by unfold wantOK; rw [show valOK w.val = false by simpa using hb2, Bool.and_false])]
      refine sCondT ?_
      refine sCondT ?_
      refine sCondT ?_
      refine sCondT ?_
      exact sRetV rfl rfl rfl rfl (Old.refl _)
    have hb2 : valOK w.val = true := by simpa using hb2
    refine sIdxO i (wantV w) hw rfl hcm ?_
    refine sLoadL (intV w.op) rfl ?_
    refine sCondF ?_
    refine sCond (fun hb3 => ?_) (fun hb3 => ?_)
    · rw [bad (by unfold wantOK; rw [show decide (1 ≤ w.op) = false by have := of_decide_eq_true hb3; exact decide_eq_false (by omega), Bool.and_false]; rfl)]
      refine sCondT ?_
      refine sCondT ?_
      exact sRetV rfl rfl rfl rfl (Old.refl _)
    refine sIdxO i (wantV w) hw rfl hcm ?_
    refine sLoadL (intV w.op) rfl ?_
    refine sCondF ?_
    refine sCond (fun hb4 => ?_) (fun hb4 => ?_)
    · rw [bad (by unfold wantOK; rw [show decide (w.op ≤ 6) = false by have := of_decide_eq_true hb4; exact decide_eq_false (by omega), Bool.and_false]; rfl)]
      exact sRetV rfl rfl rfl rfl (Old.refl _)
    have hb3 := of_decide_eq_false hb3
    have hb4 := of_decide_eq_false hb4
    refine sW64n (r := i + 1) rfl (by omega) ?_
    refine sNext (i + 1) rfl ⟨rfl, by omega, fun k c hk hkc => ?_⟩ (by omega)
    by_cases e : k = i
    · subst e; rw [hci] at hkc; cases hkc
      unfold wantOK
      rw [hb, hb2, decide_eq_true (by omega : 1 ≤ w.op), decide_eq_true (by omega : w.op ≤ 6)]; rfl
    · exact hok k c (by omega) hkc
  · simp only [decide_eq_false_iff_not, Int.ofNat_lt] at hlt
    have e : wantErr t l = 0 := by
      unfold wantErr; rw [if_neg (by omega), if_neg (by omega), if_neg ?_]
      rw [any_no fun k c hk hkc => by rw [hok k c (by omega) hkc]; rfl]; simp
    rw [e]; exact sRetV rfl rfl rfl rfl (Old.refl _)

structure SMt where
  i : Nat
  n : Nat

set_option maxHeartbeats 4000000 in
theorem meets3_ev (hTwo : ∀ op a b H, 1 ≤ op → op ≤ 6 → valOK a = true → valOK b = true → C f_sccref1_Two [intV op, valV a, valV b] H (valV (twoC op a b)) H)
    (x wv : AV) (r : Row) (l : List Want) (H : Heap) (hx : RowOf x r) (hw : LstOf wv 5 (l.map wantV)) (hin : ∀ w ∈ l, 0 ≤ w.col ∧ w.col < (r.length : Int) ∧ 1 ≤ w.op ∧ w.op ≤ 6 ∧ valOK w.val = true) (hok : ∀ v ∈ r, valOK v = true) (hl : l.length ≤ 12) :
    EFun C GT a_sccref3_Meets [x, wv] H (natV (meetN r l)) H := by
  refine efun_of ?_
  refine sLoop (fun s : SMt => [(6, natV s.i), (5, natV s.n), (1, wv), (0, x)]) (fun s H1 => Old H H1 ∧ s.i ≤ l.length ∧ s.n = meetN r (l.take s.i)) (fun s => l.length - s.i) ⟨0, 0⟩ rfl ⟨Old.refl _, Nat.zero_le _, rfl⟩ (fun ⟨i, n⟩ H1 ⟨hO, hi, hn⟩ => ?_)
  simp only at hi hn
  dsimp only
  refine sLenO l.length hw (by simp) ?_
  refine sCond (fun hlt => ?_) (fun hlt => ?_)
  · have hlt : i < l.length := by have := of_decide_eq_true hlt; omega
    have hci : l[i]? = some l[i] := List.getElem?_eq_getElem hlt
    obtain ⟨w, hwd⟩ : ∃ w, l[i] = w := ⟨_, rfl⟩
    rw [hwd] at hci
    have hcm : (l.map wantV)[i]? = some (wantV w) := by rw [List.getElem?_map, hci]; rfl
    obtain ⟨c0, c1, o1, o6, hwo⟩ := hin w (List.mem_of_getElem? hci)
    obtain ⟨j, hj⟩ : ∃ j : Nat, w.col = j := ⟨w.col.toNat, by omega⟩
    have hjl : j < r.length := by omega
    have hrj : r[j]? = some r[j] := List.getElem?_eq_getElem hjl
    have htwo := fun H => hTwo w.op r[j] w.val H o1 o6 (hok _ (List.getElem_mem _)) hwo
    have hm : meet r w = ((twoC w.op r[j] w.val).kind == 3 && (twoC w.op r[j] w.val).num == 1) := by
      unfold meet
      have : r.getD w.col.toNat default = r[j] := by rw [hj]; simp [hjl]
      rw [this]
    have hstep : meetN r (l.take (i + 1)) = meetN r (l.take i) + if meet r w = true then 1 else 0 := by
      unfold meetN
      rw [List.take_succ_eq_append_getElem hlt, hwd, List.filter_append, List.length_append]
      simp only [List.filter_cons, List.filter_nil]
      split <;> simp
    have hnb : n ≤ l.length := by
      rw [hn]; unfold meetN
      exact Nat.le_trans (List.length_filter_le _ _) (by rw [List.length_take]; omega)
    generalize twoC w.op r[j] w.val = v at htwo hm
    have fin : ∀ H2, Old H H2 → H2[H1.length]? = some (.box (valV v).cells) → True := fun _ _ _ => trivial
    refine sIdxO i (wantV w) hw rfl hcm ?_
    refine sLoadL (intV w.op) rfl ?_
    refine sIdxO i (wantV w) hw rfl hcm ?_
    refine sLoadL (intV w.col) rfl ?_
    refine sIdxO j (valV r[j]) hx hj (hx.get [] hrj).2 ?_
    refine sLoadL (valV r[j]) rfl ?_
    refine sIdxO i (wantV w) hw rfl hcm ?_
    refine sLoadL (valV w.val) rfl ?_
    refine sAlt ?_ ?_
    · refine sCall0 (htwo _) ?_
      refine sStoreE (v := valV v) (AV.cells (valV v)) push_last rfl rfl rfl rfl ?_
      refine sLoadBox (AV.int IntKind.i64 v.kind) (set_at push_last) rfl ?_
      refine sCond (fun h3 => ?_) (fun h3 => ?_)
      · refine sLoadBox (AV.int IntKind.i64 v.num) (set_at push_last) rfl ?_
        refine sCondT ?_
        refine sCond (fun h4 => ?_) (fun h4 => ?_)
        · refine sW64n (r := n + 1) rfl (by omega) ?_
          refine sW64n (r := i + 1) rfl (by omega) ?_
          refine sNext (SMt.mk (i + 1) (n + 1)) rfl ⟨hO.pushSet _ _, by simp only; omega, ?_⟩ (by simp only; omega)
          simp only; rw [hstep, hm, h3, h4, hn]; rfl
        · refine sW64n (r := i + 1) rfl (by omega) ?_
          refine sNext (SMt.mk (i + 1) n) rfl ⟨hO.pushSet _ _, by simp only; omega, ?_⟩ (by simp only; omega)
          simp only; rw [hstep, hm, h3, h4, hn]; rfl
      · refine sCondF ?_
        refine sCondF ?_
        refine sW64n (r := i + 1) rfl (by omega) ?_
        refine sNext (SMt.mk (i + 1) n) rfl ⟨hO.pushSet _ _, by simp only; omega, ?_⟩ (by simp only; omega)
        simp only; rw [hstep, hm, h3, hn]; rfl
    · refine sCall0 (htwo _) ?_
      refine sStoreE (v := valV v) (AV.cells (valV v)) push_last rfl rfl rfl rfl ?_
      refine sLoadBox (AV.int IntKind.i64 v.kind) (set_at push_last) rfl ?_
      refine sCond (fun h3 => ?_) (fun h3 => ?_)
      · refine sLoadBox (AV.int IntKind.i64 v.num) (set_at push_last) rfl ?_
        refine sCondT ?_
        refine sCond (fun h4 => ?_) (fun h4 => ?_)
        · refine sW64n (r := n + 1) rfl (by omega) ?_
          refine sW64n (r := i + 1) rfl (by omega) ?_
          refine sNext (SMt.mk (i + 1) (n + 1)) rfl ⟨hO.pushSet _ _, by simp only; omega, ?_⟩ (by simp only; omega)
          simp only; rw [hstep, hm, h3, h4, hn]; rfl
        · refine sW64n (r := i + 1) rfl (by omega) ?_
          refine sNext (SMt.mk (i + 1) n) rfl ⟨hO.pushSet _ _, by simp only; omega, ?_⟩ (by simp only; omega)
          simp only; rw [hstep, hm, h3, h4, hn]; rfl
      · refine sCondF ?_
        refine sCondF ?_
        refine sW64n (r := i + 1) rfl (by omega) ?_
        refine sNext (SMt.mk (i + 1) n) rfl ⟨hO.pushSet _ _, by simp only; omega, ?_⟩ (by simp only; omega)
        simp only; rw [hstep, hm, h3, hn]; rfl
  · have hge : i = l.length := by have := of_decide_eq_false hlt; omega
    subst hge
    rw [List.take_length] at hn
    rw [← hn]
    exact sRetV rfl rfl rfl rfl hO
end
end Go.AM

/- The walk of the law PickRows. Own work. -/
set_option linter.all false
set_option maxRecDepth 20000
namespace Go.AM
section
variable {C : CSpec} {GT : Nat → Option AV}

theorem pickV_err {t : List Row} {l : List Want} {en : Nat → Bool} {n : Nat} (h : wantErr t l = n + 1) : pickV t l en = .tup [.lst (some true) 0 [], errV (n + 1 : Nat)] := by
  unfold pickV; rw [if_pos (by omega), h]; rfl
theorem pickV_ok {t : List Row} {l : List Want} {en : Nat → Bool} (h : wantErr t l = 0) : pickV t l en = .tup [lstF 1 ((pickL t l en t.length).map natV), .nili] := by
  unfold pickV; rw [if_neg (by omega)]
theorem pickL_len (t : List Row) (l : List Want) (en : Nat → Bool) (n : Nat) : (pickL t l en n).length ≤ n := by
  unfold pickL; exact Nat.le_trans (List.length_filter_le _ _) (by simp)

theorem nat_int (l : List Nat) : l.map natV = (l.map fun n : Nat => (n : Int)).map intV := by rw [List.map_map]; rfl

/-- Two lists of numbers, as they lie. -/
theorem intsW_ev (va vb : AV) (xs ys : List Int) (H : Heap) (ha : view H 1 va = some (xs.map intV)) (hb : view H 1 vb = some (ys.map intV)) (hl : xs.length ≤ 9223372036854775807) : EFun C GT a_sccsame_Ints [va, vb] H (.bool (decide (xs = ys))) H := by
  refine efun_of ?_
  refine sLenN xs.length ha (by simp) ?_
  refine sLenN ys.length hb (by simp) ?_
  refine sCond (fun h => ?_) (fun h => ?_)
  · have e : ¬ xs = ys := by intro e; subst e; simp at h
    rw [decide_eq_false e]
    exact sRetV rfl rfl rfl rfl (Old.refl _)
  have hlen : xs.length = ys.length := by simp only [bne_eq_false_iff_eq] at h; omega
  refine sLoop (σ := Nat) (fun i => [(5, .int .i64 i), (1, vb), (0, va)]) (fun i H1 => H1 = H ∧ i ≤ xs.length ∧ ∀ k, k < i → xs[k]? = ys[k]?) (fun i => xs.length - i) 0 rfl ⟨rfl, Nat.zero_le _, fun k h => absurd h (Nat.not_lt_zero _)⟩ (fun i H1 ⟨e, hi, hok⟩ => ?_)
  subst e
  dsimp only
  refine sLenN xs.length ha (by simp) ?_
  refine sCond (fun hlt => ?_) (fun hlt => ?_)
  · simp only [decide_eq_true_eq, Int.ofNat_lt] at hlt
    have hx : xs[i]? = some xs[i] := List.getElem?_eq_getElem hlt
    have hlt' : i < ys.length := by omega
    have hy : ys[i]? = some ys[i] := List.getElem?_eq_getElem hlt'
    refine sIdxV i (intV xs[i]) ha rfl (by rw [List.getElem?_map, hx]; rfl) (fun p hp => ?_)
    refine sLoadP (intV xs[i]) hp rfl ?_
    refine sIdxV i (intV ys[i]) hb rfl (by rw [List.getElem?_map, hy]; rfl) (fun p2 hp2 => ?_)
    refine sLoadP (intV ys[i]) hp2 rfl ?_
    refine sCond (fun hne => ?_) (fun hne => ?_)
    · have e : ¬ xs = ys := by
        intro e
        simp only [bne_iff_ne, ne_eq] at hne
        apply hne
        have : some xs[i] = some ys[i] := by rw [← hx, ← hy, e]
        exact Option.some.inj this
      rw [decide_eq_false e]
      exact sRetV rfl rfl rfl rfl (Old.refl _)
    · simp only [bne_eq_false_iff_eq] at hne
      refine sW64n (r := i + 1) rfl (by omega) ?_
      refine sNext (i + 1) rfl ⟨rfl, by omega, fun k hk => ?_⟩ (by omega)
      by_cases e : k = i
      · subst e; rw [hx, hy, hne]
      · exact hok k (by omega)
  · simp only [decide_eq_false_iff_not, Int.ofNat_lt] at hlt
    have e : xs = ys := by
      apply List.ext_getElem?
      intro k
      by_cases hk : k < xs.length
      · exact hok k (by omega)
      · rw [List.getElem?_eq_none (by omega), List.getElem?_eq_none (by omega)]
    rw [decide_eq_true e]
    exact sRetV rfl rfl rfl rfl (Old.refl _)

structure SRw where
  i : Nat
  a : AV
  b : AV

set_option maxHeartbeats 1000000 in
theorem rows_loop (hM : ∀ x wv (r : Row) l H, RowOf x r → LstOf wv 5 (l.map wantV) → (∀ w ∈ l, 0 ≤ w.col ∧ w.col < (r.length : Int) ∧ 1 ≤ w.op ∧ w.op ≤ 6 ∧ valOK w.val = true) → (∀ v ∈ r, valOK v = true) → l.length ≤ 12 → C f_sccref3_Meets [x, wv] H (natV (meetN r l)) H)
    (H : Heap) (K : Post) (tv wv : AV) (t : List Row) (l : List Want) (ht : TabOf H tv t) (hw : LstOf wv 5 (l.map wantV)) (he : wantErr t l = 0)
    (k : ∀ va vb H', Old H H' → Owns H H' va 1 ((pickL t l (enAll l) t.length).map natV) → Owns H H' vb 1 ((pickL t l enAny t.length).map natV) → ∀ fr, restrictF fr [7, 6, 5, 1, 0] = [(7, vb), (6, va), (5, natV 0), (1, wv), (0, tv)] → K (.exit 0) fr H') :
    loopP C GT [8, 7, 6, 1, 0, 5] b_scclaw3_PickRows_0 K [(8, intV 0), (7, .lst (some true) 0 []), (6, .lst (some true) 0 []), (1, wv), (0, tv), (5, natV 0)] H := by
  obtain ⟨w1, w2, w3⟩ := want_ok he
  obtain ⟨rows, hrv, hrl, hrg⟩ := ht
  have hvals : ∀ (i : Nat) (r : Row), t[i]? = some r → ∀ v ∈ r, valOK v = true := tab_vals (by unfold wantErr at he; split at he <;> omega)
  have hwv : ∀ w ∈ l, valOK w.val = true := fun w hw => by
    unfold wantErr at he
    split at he
    · omega
    split at he
    · cases he
    split at he
    · cases he
    rename_i h3
    by_cases hb : wantOK t w = true
    · unfold wantOK at hb; simp only [Bool.and_eq_true] at hb; exact hb.2
    · exact absurd (List.any_eq_true.2 ⟨w, hw, by simpa using hb⟩) h3
  refine sLoop (fun s : SRw => [(8, natV s.i), (7, s.b), (6, s.a), (1, wv), (0, tv), (5, natV 0)])
    (fun s H' => Old H H' ∧ s.i ≤ t.length ∧ Owns H H' s.a 1 ((pickL t l (enAll l) s.i).map natV) ∧ Owns H H' s.b 1 ((pickL t l enAny s.i).map natV) ∧ ∀ b, s.a.blk = some b → s.b.blk ≠ some b) (fun s => t.length - s.i) ⟨0, .lst (some true) 0 [], .lst (some true) 0 []⟩ rfl
    ⟨Old.refl _, Nat.zero_le _, Owns.nil _ _ _, Owns.nil _ _ _, fun b h => by cases h⟩ (fun ⟨i, a, b⟩ H1 ⟨hO, hi, hoa, hob, hap⟩ => ?_)
  simp only at hi hoa hob hap
  dsimp only
  refine sCondT ?_
  refine sLenN t.length (view_old hO hrv) hrl ?_
  refine sCondT ?_
  refine sCond (fun hlt => ?_) (fun hlt => ?_)
  · have hlt : i < t.length := by have := of_decide_eq_true hlt; omega
    have hti : t[i]? = some t[i] := List.getElem?_eq_getElem hlt
    obtain ⟨r, hr⟩ : ∃ r, t[i] = r := ⟨_, rfl⟩
    rw [hr] at hti
    obtain ⟨x, hx, hxr⟩ := hrg i r hti
    have hm := hM x wv r l H1 hxr hw (fun w hw => ⟨(w3 i r hti w hw).1, (w3 i r hti w hw).2.1, (w3 i r hti w hw).2.2.1, (w3 i r hti w hw).2.2.2, hwv w hw⟩) (hvals i r hti) w2
    have hti' : t.getD i [] = r := by rw [List.getD_eq_getElem?_getD, hti]; rfl
    have sa := pickL_succ t l (enAll l) i
    have sb := pickL_succ t l enAny i
    rw [hti'] at sa sb
    have hla := pickL_len t l (enAll l) i
    have hlb := pickL_len t l enAny i
    have hn : meetN r l ≤ l.length := by unfold meetN; exact List.length_filter_le _ _
    obtain ⟨n, hnd⟩ : ∃ n, meetN r l = n := ⟨_, rfl⟩
    rw [hnd] at hm sa sb hn
    refine sIdxV i x (view_old hO hrv) rfl hx (fun p hp => ?_)
    refine sLoadP x hp (by obtain ⟨q, k, rfl, _⟩ := hxr; rfl) ?_
    refine sCall0 (hm) ?_
    refine sLenO l.length hw (by simp) ?_
    have second : ∀ (a' : AV) (H2 : Heap), Old H H2 → Owns H H2 a' 1 ((pickL t l (enAll l) (i + 1)).map natV) → Owns H H2 b 1 ((pickL t l enAny i).map natV) → (∀ c, a'.blk = some c → b.blk ≠ some c) →
        ∀ F, restrictF F [6, 1, 0, 5, 8, 7, 9] = [(6, a'), (1, wv), (0, tv), (5, natV 0), (8, natV i), (7, b), (9, natV n)] → True := fun _ _ _ _ _ _ _ _ => trivial
    refine sCond (fun hb => ?_) (fun hb => ?_)
    · have hb' : enAll l n = true := hb
      rw [if_pos hb'] at sa
      refine sPush (natV i) hoa hO rfl rfl (by omega) (by rw [List.length_map]; omega) (fun s0 H3 a' H4 hoa4 hO4 hnew hkeep => ?_)
      have hob4 : Owns H H4 b 1 ((pickL t l enAny i).map natV) := hob.keep fun c y hc hy => hkeep c y (fun e => hap c e hc) hy
      have hap4 : ∀ c, a'.blk = some c → b.blk ≠ some c := fun c hc hbc => by have := hnew c hc; have := (hob.lt hbc).2; omega
      have hoa4' : Owns H H4 a' 1 ((pickL t l (enAll l) (i + 1)).map natV) := by rw [sa, List.map_append]; exact hoa4
      refine sCond (fun hb2 => ?_) (fun hb2 => ?_)
      · have hb2' : enAny n = true := hb2
        rw [if_pos hb2'] at sb
        refine sPush (natV i) hob4 hO4 rfl rfl (by omega) (by rw [List.length_map]; omega) (fun s1 H5 b' H6 hob6 hO6 hnew6 hkeep6 => ?_)
        refine sW64n (r := i + 1) rfl (by omega) ?_
        refine sNext (SRw.mk (i + 1) a' b') rfl ⟨hO6, by simp only; omega, hoa4'.keep fun c y hc hy => hkeep6 c y (fun e => hap4 c hc e) hy, by simp only; rw [sb, List.map_append]; exact hob6, fun c hc hbc => ?_⟩ (by simp only; omega)
        have := hnew6 c hbc; have := (hoa4.lt hc).2; omega
      · have hb2' : enAny n = false := hb2
        rw [if_neg (by rw [hb2']; simp)] at sb
        refine sW64n (r := i + 1) rfl (by omega) ?_
        refine sNext (SRw.mk (i + 1) a' b) rfl ⟨hO4, by simp only; omega, hoa4', by simp only; rw [sb]; exact hob4, hap4⟩ (by simp only; omega)
    · have hb' : enAll l n = false := hb
      rw [if_neg (by rw [hb']; simp)] at sa
      refine sCond (fun hb2 => ?_) (fun hb2 => ?_)
      · have hb2' : enAny n = true := hb2
        rw [if_pos hb2'] at sb
        refine sPush (natV i) hob hO rfl rfl (by omega) (by rw [List.length_map]; omega) (fun s1 H5 b' H6 hob6 hO6 hnew6 hkeep6 => ?_)
        refine sW64n (r := i + 1) rfl (by omega) ?_
        refine sNext (SRw.mk (i + 1) a b') rfl ⟨hO6, by simp only; omega, by simp only; rw [sa]; exact hoa.keep fun c y hc hy => hkeep6 c y (fun e => hap c hc e) hy, by simp only; rw [sb, List.map_append]; exact hob6, fun c hc hbc => ?_⟩ (by simp only; omega)
        have := hnew6 c hbc; have := (hoa.lt hc).2; omega
      · have hb2' : enAny n = false := hb2
        rw [if_neg (by rw [hb2']; simp)] at sb
        refine sW64n (r := i + 1) rfl (by omega) ?_
        refine sNext (SRw.mk (i + 1) a b) rfl ⟨hO, by simp only; omega, by simp only; rw [sa]; exact hoa, by simp only; rw [sb]; exact hob, hap⟩ (by simp only; omega)
  · have hge : i = t.length := by have := of_decide_eq_false hlt; omega
    subst hge
    exact k a b H1 hO hoa hob _ rfl

theorem rows_ev (hT : ∀ tv wv t l H, TabOf H tv t → LstOf wv 5 (l.map wantV) → C f_sccref3_Wants [tv, wv] H (natV (wantErr t l)) H)
    (hM : ∀ x wv (r : Row) l H, RowOf x r → LstOf wv 5 (l.map wantV) → (∀ w ∈ l, 0 ≤ w.col ∧ w.col < (r.length : Int) ∧ 1 ≤ w.op ∧ w.op ≤ 6 ∧ valOK w.val = true) → (∀ v ∈ r, valOK v = true) → l.length ≤ 12 → C f_sccref3_Meets [x, wv] H (natV (meetN r l)) H)
    (hP : ∀ tv wv t l H, TabOf H tv t → wv.cells = [wv] ∧ wv.one = true → view H 5 wv = some (l.map wantV) → C f_pick_Pick [tv, wv] H (pickV t l (enAll l)) H)
    (hA : ∀ tv wv t l H, TabOf H tv t → view H 5 wv = some (l.map wantV) → C f_pick_Any [tv, wv] H (pickV t l enAny) H)
    (hE : ∀ x n e H, ErrIs x n → C f_sccsame_Error [x, .int .i64 e] H (.bool (n == e)) H)
    (hI : ∀ va vb (xs ys : List Int) H, view H 1 va = some (xs.map intV) → view H 1 vb = some (ys.map intV) → xs.length ≤ 9223372036854775807 → C f_sccsame_Ints [va, vb] H (.bool (decide (xs = ys))) H)
    (tv wv : AV) (t : List Row) (l : List Want) (H : Heap) (ht : TabOf H tv t) (hw : LstOf wv 5 (l.map wantV)) : EFun C GT a_scclaw3_PickRows [tv, wv] H (.bool true) H := by
  have hwe := hT tv wv t l H ht hw
  by_cases he : wantErr t l = 0
  case neg =>
    obtain ⟨n, hn⟩ : ∃ n, wantErr t l = n + 1 := ⟨wantErr t l - 1, by omega⟩
    have hp := fun H ht => hP tv wv t l H ht hw.one (hw.view H)
    have ha := fun H ht => hA tv wv t l H ht (hw.view H)
    rw [pickV_err hn] at hp
    rw [pickV_err hn] at ha
    have ee : ∀ H, C f_sccsame_Error [errV (n + 1 : Nat), natV (n + 1)] H (.bool true) H := fun H => by have := hE _ _ ((n + 1 : Nat) : Int) H (errN_is (n + 1)); rwa [beq_self_eq_true] at this
    have hi : ∀ H, C f_sccsame_Ints [.lst (some true) 0 [], .lst (some true) 0 []] H (.bool true) H := fun H => by have := hI (.lst (some true) 0 []) (.lst (some true) 0 []) [] [] H rfl rfl (by simp); rwa [decide_eq_true rfl] at this
    rw [hn] at hwe
    refine efun_of ?_
    refine sCall0 (hwe) ?_
    refine sLoop (σ := Unit) (fun _ => [(8, intV 0), (7, .lst (some true) 0 []), (6, .lst (some true) 0 []), (1, wv), (0, tv), (5, natV (n + 1))]) (fun _ H' => H' = H) (fun _ => 0) () rfl rfl (fun _ H1 e => ?_)
    subst e
    dsimp only
    refine sCondF ?_
    refine sCondF ?_
    refine sCondF ?_
    refine sCall0 (hp _ ht) ?_
    refine sOpt rfl ?_
    refine sOpt rfl ?_
    refine sCall0 (ee _) ?_
    refine sCall0 (ha _ ht) ?_
    refine sOpt rfl ?_
    refine sOpt rfl ?_
    refine sCall0 (ee _) ?_
    refine sCall0 (hi _) ?_
    refine sCall0 (hi _) ?_
    refine sCondT ?_
    refine sCondT ?_
    refine sCondT ?_
    refine sCondT ?_
    refine sCondT ?_
    refine sCondT ?_
    exact sRetV rfl rfl rfl rfl (Old.refl _)
  rw [he] at hwe
  have hl1 := pickL_len t l (enAll l) t.length
  have hl2 := pickL_len t l enAny t.length
  obtain ⟨h60, _, _⟩ := want_ok he
  refine efun_of ?_
  refine sCall0 (hwe) ?_
  refine rows_loop hM H _ tv wv t l ht hw he (fun va vb H' hO hva hvb fr hfr => ?_)
  refine sBlk hfr ?_
  have hp := hP tv wv t l H' (ht.old hO) hw.one (hw.view H')
  rw [pickV_ok he] at hp
  have ha := hA tv wv t l H' (ht.old hO) (hw.view H')
  rw [pickV_ok he] at ha
  have ee : ∀ H, C f_sccsame_Error [.nili, natV 0] H (.bool true) H := fun H => by have := hE _ _ ((0 : Nat) : Int) H (errN_is 0); rwa [beq_self_eq_true] at this
  have hi1 := hI (lstF 1 ((pickL t l (enAll l) t.length).map natV)) va ((pickL t l (enAll l) t.length).map fun n : Nat => (n : Int)) ((pickL t l (enAll l) t.length).map fun n : Nat => (n : Int)) H' (by rw [← nat_int]; exact (lstF_of 1 _).view H') (by rw [← nat_int]; exact hva.view) (by rw [List.length_map]; omega)
  have hi2 := hI (lstF 1 ((pickL t l enAny t.length).map natV)) vb ((pickL t l enAny t.length).map fun n : Nat => (n : Int)) ((pickL t l enAny t.length).map fun n : Nat => (n : Int)) H' (by rw [← nat_int]; exact (lstF_of 1 _).view H') (by rw [← nat_int]; exact hvb.view) (by rw [List.length_map]; omega)
  rw [decide_eq_true rfl] at hi1 hi2
  refine sCall0 (hp) ?_
  refine sOpt rfl ?_
  refine sOpt rfl ?_
  refine sCall0 (ee _) ?_
  refine sCall0 (ha) ?_
  refine sOpt rfl ?_
  refine sOpt rfl ?_
  refine sCall0 (ee _) ?_
  refine sCall0 (hi1) ?_
  refine sCall0 (hi2) ?_
  refine sCondT ?_
  refine sCondT ?_
  refine sCondT ?_
  refine sCondT ?_
  refine sCondT ?_
  refine sCondT ?_
  exact sRetV rfl rfl rfl rfl hO
end
end Go.AM
