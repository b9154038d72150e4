/- The walk of the law PickParts: its beginning, and all of it. Own work. -/
import Derived.Test.YtaijlknbeapnhaaDoorPkn
import Derived.Test.YtaijlknbeapnhaaDoorAm29
set_option linter.all false
namespace Go.AM
section
variable {C : CSpec} {GT : Nat → Option AV}

theorem pickV_err {t : List Row} {l : List Want} {en : Nat → Bool} {n : Nat} (h : wantErr t l = n + 1) : pickV t l en = .tup [.lst (some true) 0 [], errV (n + 1 : Nat)] := by
  unfold pickV; rw [if_pos (by omega), h]; rfl
theorem pickV_ok {t : List Row} {l : List Want} {en : Nat → Bool} (h : wantErr t l = 0) : pickV t l en = .tup [lstF 1 ((pickL t l en t.length).map natV), .nili] := by
  unfold pickV; rw [if_neg (by omega)]
theorem pickL_len (t : List Row) (l : List Want) (en : Nat → Bool) (n : Nat) : (pickL t l en n).length ≤ n := by
  unfold pickL; exact Nat.le_trans (List.length_filter_le _ _) (by simp)
theorem pickL_none (t : List Row) (n : Nat) : pickL t [] (enAll []) n = List.range n ∧ pickL t [] enAny n = [] := by
  unfold pickL
  exact ⟨List.filter_eq_self.2 fun _ _ => rfl, List.filter_eq_nil_iff.2 fun _ _ => by simp [meetN, enAny]⟩
theorem want_one {t : List Row} {l : List Want} {w : Want} (h : wantErr t l = 0) (hw : w ∈ l) : wantErr t [w] = 0 ∧ (1 ≤ w.op ∧ w.op ≤ 6) ∧ wantErr t [{ w with op := ctr w.op }] = 0 := by
  unfold wantErr at h
  split at h
  · omega
  rename_i h1
  split at h
  · cases h
  split at h
  · cases h
  rename_i h3
  have hb : wantOK t w = true := by
    by_cases hb : wantOK t w = true
    · exact hb
    · exact absurd (List.any_eq_true.2 ⟨w, hw, by simpa using hb⟩) h3
  have hb2 := hb
  unfold wantOK at hb2
  simp only [Bool.and_eq_true, decide_eq_true_eq] at hb2
  obtain ⟨⟨⟨a, b⟩, c⟩, d⟩ := hb2
  have hc := ctr_in b c
  have hb' : wantOK t { w with op := ctr w.op } = true := by
    unfold wantOK
    simp only [Bool.and_eq_true, decide_eq_true_eq]
    exact ⟨⟨⟨a, hc.1⟩, hc.2⟩, d⟩
  refine ⟨?_, ⟨b, c⟩, ?_⟩
  · unfold wantErr; rw [if_neg h1, if_neg (by simp), if_neg (by simp [hb])]
  · unfold wantErr; rw [if_neg h1, if_neg (by simp), if_neg (by simp [hb'])]

/-- From the turned want on. -/
theorem parts_end (H0 H1 : Heap) (hO : Old H0 H1) (hP : ∀ tv wv t l H, TabOf H tv t → wv.cells = [wv] ∧ wv.one = true → view H 5 wv = some (l.map wantV) → C f_pick_Pick [tv, wv] H (pickV t l (enAll l)) H)
    (b : Nat) (hbl : H0.length ≤ b) (tv : AV) (t : List Row) (w w2 : Want) (hw2 : w2 = { w with op := ctr w.op }) (hb : H1[b]? = some (.box (wantV w2).cells)) (ht : TabOf H1 tv t)
    (hw : wantErr t [w] = 0) (hwc : wantErr t [w2] = 0) (h16 : 1 ≤ w.op ∧ w.op ≤ 6) :
    EW C GT (b_scclaw4_PickParts.behind 12) (finF a_scclaw4_PickParts H0 (.bool true) H0) [(13, .ref b 0 0 0), (0, tv), (14, lstF 1 ((pickL t [w] (enAll [w]) t.length).map natV)), (15, .nili)] H1 := by
  obtain ⟨h60, _, hin⟩ := want_ok hw
  refine sLoadBox (wantV w2) hb rfl ?_
  refine sBslice (vs' := [wantV w2]) rfl rfl ?_
  have hO2 : Old H1 (H1 ++ [ABlk.row 5 [wantV w2]]) := (Old.refl _).push _
  have hp := hP tv (.sl (some false) H1.length 5 0 1) t [w2] _ (ht.old hO2) ⟨rfl, rfl⟩ view_new
  rw [pickV_ok hwc] at hp
  refine sCall0 hp ?_
  refine sOpt rfl ?_
  refine sOpt rfl ?_
  refine sOpt rfl ?_
  refine sCondF ?_
  refine sOpt rfl ?_
  refine sCondF ?_
  refine sCondF ?_
  have hlen := parts_len t w h16.1 h16.2 t.length (Nat.le_refl _)
  rw [← hw2] at hlen
  refine sTail rfl (parts_tail H0 _ (hO.trans hO2) b tv t w2 (pickL t [w] (enAll [w]) t.length) (pickL t [w2] (enAll [w2]) t.length) (old_get hO2 hb) (ht.old hO2) h60 (fun i r hi => ?_) ?_) ?_
  · have := hin i r hi w (by simp)
    rw [hw2]; exact ⟨this.1, this.2.1⟩
  · rw [hw2] at hlen ⊢; exact hlen
  rfl

/-- From behind the merge on. -/
theorem parts_mid (H0 H1 : Heap) (hO : Old H0 H1) (hP : ∀ tv wv t l H, TabOf H tv t → wv.cells = [wv] ∧ wv.one = true → view H 5 wv = some (l.map wantV) → C f_pick_Pick [tv, wv] H (pickV t l (enAll l)) H)
    (tv wv : AV) (t : List Row) (l0 : List Want) (hl0 : l0 ≠ []) (hwv : LstOf wv 5 (l0.map wantV)) (ht : TabOf H1 tv t) (he : wantErr t l0 = 0) :
    EW C GT (b_scclaw4_PickParts.behind 9) (finF a_scclaw4_PickParts H0 (.bool true) H0) [(0, tv), (1, wv)] H1 := by
  obtain ⟨w, l, rfl⟩ := List.exists_cons_of_ne_nil hl0
  obtain ⟨q, k, rfl, hk⟩ := hwv
  have hk : k = 5 := hk.resolve_right (by simp)
  subst hk
  obtain ⟨hw, h16, hwc⟩ := want_one he (List.mem_cons_self)
  obtain ⟨sv, hs, hsv⟩ := lst_take (v := .lst q 5 ((w :: l).map wantV)) (k := 5) (xs := (w :: l).map wantV) ⟨_, _, rfl, .inl rfl⟩ (n := 1) (by simp)
  refine sIdx (i := 0) rfl rfl ?_
  refine sLoadL (wantV w) rfl ?_
  refine sStoreE (v := wantV w) (wantV w).cells push_last rfl rfl rfl rfl ?_
  have hO2 : Old H1 ((H1 ++ [ABlk.box [.int .i64 0, .int .i64 0, .int .i64 0, .int .i64 0, .str []]]).set H1.length (.box (wantV w).cells)) := (Old.refl H1).pushSet _ _
  have hb : ((H1 ++ [ABlk.box [.int .i64 0, .int .i64 0, .int .i64 0, .int .i64 0, .str []]]).set H1.length (.box (wantV w).cells))[H1.length]? = some (.box (wantV w).cells) := set_at push_last
  refine sOpt hs ?_
  have hp := hP tv sv t [w] _ (ht.old hO2) hsv.one (hsv.view _)
  rw [pickV_ok hw] at hp
  refine sCall0 hp ?_
  refine sOpt rfl ?_
  refine sOpt rfl ?_
  refine sIdx (i := 0) rfl rfl ?_
  refine sLoadL (intV w.op) rfl ?_
  generalize (H1 ++ [ABlk.box [.int .i64 0, .int .i64 0, .int .i64 0, .int .i64 0, .str []]]).set H1.length (.box (wantV w).cells) = H2 at hO2 hb ⊢
  have go : ∀ n : Int, ctr w.op = n → seqK (EW C GT (b_scclaw4_PickParts.behind 12) (finF a_scclaw4_PickParts H0 (.bool true) H0)) (finF a_scclaw4_PickParts H0 (.bool true) H0) .normal [(13, .ref H1.length 0 0 0), (0, tv), (14, lstF 1 ((pickL t [w] (enAll [w]) t.length).map natV)), (15, .nili)] (H2.set H1.length (.box (splice (wantV w).cells 1 [intV n]))) := by
    intro n hn
    refine sTail rfl (parts_end H0 (H2.set H1.length (.box (splice (wantV w).cells 1 [intV n]))) (hO.trans (hO2.set (Nat.le_refl _) _)) hP H1.length hO.1 tv t w { w with op := ctr w.op } rfl ?_ (ht.old (hO2.set (Nat.le_refl _) _)) hw hwc h16) ?_
    · rw [set_at hb, hn]; rfl
    rfl
  have hop : w.op = 1 ∨ w.op = 2 ∨ w.op = 3 ∨ w.op = 4 ∨ w.op = 5 ∨ w.op = 6 := by omega
  obtain ⟨o, ho⟩ : ∃ o, w.op = o := ⟨_, rfl⟩
  rw [ho] at hop go
  rw [ho]
  rcases hop with rfl | rfl | rfl | rfl | rfl | rfl
  · refine sCondT ?_
    refine sStoreBox hb rfl rfl (Nat.le_of_ble_eq_true rfl) ?_
    refine sBlkN ?_
    exact go 2 rfl
  · refine sCondF ?_
    refine sCondT ?_
    refine sStoreBox hb rfl rfl (Nat.le_of_ble_eq_true rfl) ?_
    refine sBlkN ?_
    exact go 1 rfl
  · refine sCondF ?_
    refine sCondF ?_
    refine sCondT ?_
    refine sStoreBox hb rfl rfl (Nat.le_of_ble_eq_true rfl) ?_
    refine sBlkN ?_
    exact go 6 rfl
  · refine sCondF ?_
    refine sCondF ?_
    refine sCondF ?_
    refine sCondT ?_
    refine sStoreBox hb rfl rfl (Nat.le_of_ble_eq_true rfl) ?_
    refine sBlkN ?_
    exact go 5 rfl
  · refine sCondF ?_
    refine sCondF ?_
    refine sCondF ?_
    refine sCondF ?_
    refine sCondT ?_
    refine sStoreBox hb rfl rfl (Nat.le_of_ble_eq_true rfl) ?_
    refine sBlkN ?_
    exact go 4 rfl
  · refine sCondF ?_
    refine sCondF ?_
    refine sCondF ?_
    refine sCondF ?_
    refine sCondF ?_
    refine sCondT ?_
    refine sStoreBox hb rfl rfl (Nat.le_of_ble_eq_true rfl) ?_
    refine sBlkN ?_
    exact go 3 rfl

set_option maxHeartbeats 1000000 in
theorem parts_ev (hN : ∀ n H, C f_sccref1_Num [intV n] H (valV ⟨1, n, []⟩) H)
    (hP : ∀ tv wv t l H, TabOf H tv t → wv.cells = [wv] ∧ wv.one = true → view H 5 wv = some (l.map wantV) → C f_pick_Pick [tv, wv] H (pickV t l (enAll l)) H)
    (hA : ∀ tv wv t l H, TabOf H tv t → view H 5 wv = some (l.map wantV) → C f_pick_Any [tv, wv] H (pickV t l enAny) H)
    (tv wv : AV) (t : List Row) (l : List Want) (H : Heap) (ht : TabOf H tv t) (hw : LstOf wv 5 (l.map wantV)) : EFun C GT a_scclaw4_PickParts [tv, wv] H (.bool true) H := by
  refine efun_of ?_
  refine sCall0 (hN 2 H) ?_
  refine sBslice (vs' := [valV ⟨1, 2, []⟩]) rfl rfl ?_
  refine sCall0 (hN 1 _) ?_
  refine sBslice (vs' := [valV ⟨1, 1, []⟩]) rfl rfl ?_
  have hr1 : ((H ++ [ABlk.row 3 [valV ⟨1, 2, []⟩]]) ++ [ABlk.row 3 [valV ⟨1, 1, []⟩]])[H.length]? = some (.row 3 [valV ⟨1, 2, []⟩]) := push_old push_last
  have hr2 : (((H ++ [ABlk.row 3 [valV ⟨1, 2, []⟩]]) ++ [ABlk.row 3 [valV ⟨1, 1, []⟩]]).set H.length (.frz 3 [valV ⟨1, 2, []⟩]))[(H ++ [ABlk.row 3 [valV ⟨1, 2, []⟩]]).length]? = some (.row 3 [valV ⟨1, 1, []⟩]) := set_other (by simp) push_last
  refine sBsliceF [.lst (some false) 3 [valV ⟨1, 2, []⟩], .lst (some false) 3 [valV ⟨1, 1, []⟩]] ((((H ++ [ABlk.row 3 [valV ⟨1, 2, []⟩]]) ++ [ABlk.row 3 [valV ⟨1, 1, []⟩]]).set H.length (.frz 3 [valV ⟨1, 2, []⟩])).set (H ++ [ABlk.row 3 [valV ⟨1, 2, []⟩]]).length (.frz 3 [valV ⟨1, 1, []⟩])) ?_ rfl ?_
  · exact frzL_cons (frz_sl hr1 rfl) (frzL_cons (frz_sl hr2 rfl) rfl)
  have hO3 : Old H ((((H ++ [ABlk.row 3 [valV ⟨1, 2, []⟩]]) ++ [ABlk.row 3 [valV ⟨1, 1, []⟩]]).set H.length (.frz 3 [valV ⟨1, 2, []⟩])).set (H ++ [ABlk.row 3 [valV ⟨1, 2, []⟩]]).length (.frz 3 [valV ⟨1, 1, []⟩])) :=
    ((((Old.refl H).push _).push _).set (Nat.le_refl _) _).set (by simp) _
  generalize (((H ++ [ABlk.row 3 [valV ⟨1, 2, []⟩]]) ++ [ABlk.row 3 [valV ⟨1, 1, []⟩]]).set H.length (.frz 3 [valV ⟨1, 2, []⟩])).set (H ++ [ABlk.row 3 [valV ⟨1, 2, []⟩]]).length (.frz 3 [valV ⟨1, 1, []⟩]) = H3 at hO3 ⊢
  refine sCall0 (hN 2 _) ?_
  refine sOpt rfl ?_
  refine sBslice (vs' := [wantV ⟨0, 3, ⟨1, 2, []⟩⟩]) rfl rfl ?_
  have hfact : pickV [[⟨1, 2, []⟩], [⟨1, 1, []⟩]] [⟨0, 3, ⟨1, 2, []⟩⟩] (enAll [⟨0, 3, ⟨1, 2, []⟩⟩]) = .tup [.lst (some false) 1 [natV 1], .nili] := by kernel_rfl
  have hd0 := hP (.sl (some false) H3.length 1 0 2) (.sl (some false) (H3 ++ [ABlk.row 1 [.lst (some false) 3 [valV ⟨1, 2, []⟩], .lst (some false) 3 [valV ⟨1, 1, []⟩]]]).length 5 0 1) [[⟨1, 2, []⟩], [⟨1, 1, []⟩]] [⟨0, 3, ⟨1, 2, []⟩⟩]
    ((H3 ++ [ABlk.row 1 [.lst (some false) 3 [valV ⟨1, 2, []⟩], .lst (some false) 3 [valV ⟨1, 1, []⟩]]]) ++ [ABlk.row 5 [wantV ⟨0, 3, ⟨1, 2, []⟩⟩]])
    ⟨_, view_old ((Old.refl _).push _) view_new, rfl, fun i r hi => by
      match i, hi with
      | 0, hi => simp at hi; subst hi; exact ⟨_, rfl, ⟨_, _, rfl, .inl rfl⟩⟩
      | 1, hi => simp at hi; subst hi; exact ⟨_, rfl, ⟨_, _, rfl, .inl rfl⟩⟩
      | i + 2, hi => simp at hi⟩ ⟨rfl, rfl⟩ view_new
  rw [hfact] at hd0
  refine sCall0 hd0 ?_
  have hO : Old H ((H3 ++ [ABlk.row 1 [.lst (some false) 3 [valV ⟨1, 2, []⟩], .lst (some false) 3 [valV ⟨1, 1, []⟩]]]) ++ [ABlk.row 5 [wantV ⟨0, 3, ⟨1, 2, []⟩⟩]]) := (hO3.push _).push _
  generalize (H3 ++ [ABlk.row 1 [.lst (some false) 3 [valV ⟨1, 2, []⟩], .lst (some false) 3 [valV ⟨1, 1, []⟩]]]) ++ [ABlk.row 5 [wantV ⟨0, 3, ⟨1, 2, []⟩⟩]] = H4 at hO ⊢
  clear hd0 hr1 hr2 hO3 hfact
  refine sOpt rfl ?_
  refine sOpt rfl ?_
  refine sOpt rfl ?_
  refine sCondF ?_
  refine sLenL ?_
  refine sCondF ?_
  refine sCondF ?_
  refine sIdx (i := 0) rfl rfl ?_
  refine sLoadL (natV 1) rfl ?_
  refine sCondF ?_
  refine sCondF ?_
  have hp := hP tv wv t l H4 (ht.old hO) (by obtain ⟨q, k, rfl, _⟩ := hw; exact ⟨rfl, rfl⟩) (hw.view H4)
  have ha := hA tv wv t l H4 (ht.old hO) (hw.view H4)
  by_cases he : wantErr t l = 0
  case neg =>
    obtain ⟨n, hn⟩ : ∃ n, wantErr t l = n + 1 := ⟨wantErr t l - 1, by omega⟩
    rw [pickV_err hn] at hp ha
    refine sCall0 hp ?_
    refine sOpt rfl ?_
    refine sOpt rfl ?_
    refine sCall0 ha ?_
    refine sOpt rfl ?_
    refine sOpt rfl ?_
    refine sOpt rfl ?_
    refine sCondT ?_
    refine sCondT ?_
    refine sCondT ?_
    refine sOpt rfl ?_
    refine sCondT ?_
    refine sOpt rfl ?_
    refine sCondT ?_
    exact sRetV rfl rfl rfl rfl hO
  rw [pickV_ok he] at hp ha
  obtain ⟨h60, h12, hin⟩ := want_ok he
  refine sCall0 hp ?_
  refine sOpt rfl ?_
  refine sOpt rfl ?_
  refine sCall0 ha ?_
  refine sOpt rfl ?_
  refine sOpt rfl ?_
  refine sOpt rfl ?_
  refine sCondF ?_
  refine sOpt rfl ?_
  refine sCondF ?_
  refine sCondF ?_
  refine sLenO l.length hw (by simp) ?_
  refine sCond (fun h0 => ?_) (fun h0 => ?_)
  · have h0 : l = [] := List.length_eq_zero_iff.1 (by have := eq_of_beq h0; omega)
    have n1 : pickL t l (enAll l) t.length = List.range t.length := by rw [h0]; exact (pickL_none t _).1
    have n2 : pickL t l enAny t.length = [] := by rw [h0]; exact (pickL_none t _).2
    obtain ⟨rows, hrv, hrl, hrg⟩ := ht
    refine sLenO t.length (lstF_of 1 _) (by rw [n1]; simp) ?_
    refine sLenN t.length (view_old hO hrv) hrl ?_
    refine sCond (fun _ => ?_) (fun h => absurd h (by simp))
    refine sLenO 0 (lstF_of 1 _) (by rw [n2]; rfl) ?_
    refine sCondT ?_
    exact sRetV rfl rfl rfl rfl hO
  have h0 : l ≠ [] := fun e => by rw [e] at h0; exact absurd h0 (by simp)
  refine sTail rfl (parts_merge H H4 tv wv (pickL t l (enAll l) t.length) (pickL t l enAny t.length) (pickL_sorted _ _ _ _) (pickL_sorted _ _ _ _) (Nat.le_trans (pickL_len _ _ _ _) h60) (Nat.le_trans (pickL_len _ _ _ _) h60) (left_start fun x hx => all_any h0 hx)
    (parts_mid H H4 hO hP tv wv t l h0 hw (ht.old hO) he)) ?_
  rfl
end
end Go.AM
