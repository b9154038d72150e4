/- The walk of the law PickCounts. Own work. -/
import Derived.Test.YtaijlknbeapnhaaDoorGrl
set_option linter.all false
set_option maxRecDepth 20000
namespace Go.AM

section
variable {C : CSpec} {GT : Nat → Option AV}

theorem groupV_err {t : List Row} {cols : List Int} {col : Int} (h : colErr t cols ≠ 0 ∨ colOK t col = false) : ∃ n : Nat, groupV t cols col = .tup [.lst (some true) 0 [], errV (n + 1 : Nat)] := by
  unfold groupV
  by_cases h0 : colErr t cols = 0
  · rw [if_neg (by omega), if_pos (h.resolve_left (by omega))]; exact ⟨0, rfl⟩
  · rw [if_pos h0]
    obtain ⟨n, hn⟩ : ∃ n, colErr t cols = n + 1 := ⟨colErr t cols - 1, by omega⟩
    rw [hn]; exact ⟨n, rfl⟩
theorem groupV_ok {t : List Row} {cols : List Int} {col : Int} (h : colErr t cols = 0) (h2 : colOK t col = true) : groupV t cols col = .tup [lstF 5 ((grpL t cols col t.length (sortL t (keysOf cols))).map grpV), .nili] := by
  unfold groupV; rw [if_neg (by omega), if_neg (by rw [h2]; simp)]

/-- What lies in a group's cells. -/
theorem grp_kv (g : Grp) : LstOf (lstF 3 (g.key.map valV)) 3 (g.key.map valV) := lstF_of _ _

structure SCc where
  k : Nat
  c : Int

theorem cmpL_nil {a b : List Val} : cmpL (a.drop a.length) b = 0 := by simp [cmpL]

/-- The first place at which two keys differ. -/
theorem counts_cmp (hV : ∀ a b H, C f_value_Compare [valV a, valV b] H (intV (cmpV a b)) H) (H : Heap) (K : Post) (gv cv tv : AV) (gs : List Grp) (cols : List Int) (col : Int) (i n b : Nat) (g g' : Grp) (hg : LstOf gv 5 (gs.map grpV)) (hi : gs[i]? = some g) (hi' : gs[i + 1]? = some g')
    (hc : view H 1 cv = some (cols.map intV)) (hl : cols.length ≤ 12) (hil : i ≤ 1000) (hk : g.key.length = cols.length) (hk' : g'.key.length = cols.length)
    (k : ∀ fr, restrictF fr [9, 1, 12, 11, 0, 2, 13, 14] = [(9, gv), (1, cv), (12, .ref b 0 0 0), (11, natV n), (0, tv), (2, intV col), (13, natV (i + 1)), (14, intV (cmpL g.key g'.key))] → K (.exit 2) fr H) :
    loopP C GT [15, 13, 9, 1, 12, 11, 0, 2, 14] b_scclaw4_PickCounts_0 K [(15, intV 0), (13, natV (i + 1)), (9, gv), (1, cv), (12, .ref b 0 0 0), (11, natV n), (0, tv), (2, intV col), (14, intV 0)] H := by
  refine sLoop (fun s : SCc => [(15, natV s.k), (13, natV (i + 1)), (9, gv), (1, cv), (12, .ref b 0 0 0), (11, natV n), (0, tv), (2, intV col), (14, intV s.c)])
    (fun s H' => H' = H ∧ s.k ≤ cols.length ∧ cmpL g.key g'.key = (if s.c = 0 then cmpL (g.key.drop s.k) (g'.key.drop s.k) else s.c)) (fun s => cols.length - s.k) ⟨0, 0⟩ rfl
    ⟨rfl, Nat.zero_le _, by simp⟩ (fun ⟨j, c⟩ H1 ⟨e, hj, hcmp⟩ => ?_)
  subst e
  simp only at hj hcmp
  dsimp only
  refine sLenN cols.length hc (by simp) ?_
  refine sCond (fun h => ?_) (fun h => ?_)
  · have h : j < cols.length := by have := of_decide_eq_true h; omega
    refine sCondT ?_
    refine sCond (fun h0 => ?_) (fun h0 => ?_)
    · have h0 : c = 0 := eq_of_beq h0
      subst h0
      have ha : g.key[j]? = some g.key[j] := List.getElem?_eq_getElem (by omega)
      have hb : g'.key[j]? = some g'.key[j] := List.getElem?_eq_getElem (by omega)
      refine sW64n (r := i) (by omega) (by omega) ?_
      refine sIdxO i (grpV g) hg rfl (by rw [List.getElem?_map, hi]; rfl) ?_
      refine sLoadL (lstF 3 (g.key.map valV)) rfl ?_
      refine sIdxO j (valV g.key[j]) (grp_kv g) rfl (by rw [List.getElem?_map, ha]; rfl) ?_
      refine sLoadL (valV g.key[j]) rfl ?_
      refine sIdxO (i + 1) (grpV g') hg rfl (by rw [List.getElem?_map, hi']; rfl) ?_
      refine sLoadL (lstF 3 (g'.key.map valV)) rfl ?_
      refine sIdxO j (valV g'.key[j]) (grp_kv g') rfl (by rw [List.getElem?_map, hb]; rfl) ?_
      refine sLoadL (valV g'.key[j]) rfl ?_
      refine sCall0 (hV _ _ _) ?_
      refine sW64n (r := j + 1) rfl (by omega) ?_
      refine sNext (SCc.mk (j + 1) (cmpV g.key[j] g'.key[j])) rfl ⟨rfl, by simp only; omega, ?_⟩ (by simp only; omega)
      rw [hcmp, if_pos rfl, drop_of_get ha, drop_of_get hb]
      simp only [cmpL]
      by_cases e : cmpV g.key[j] g'.key[j] = 0
      · rw [if_neg (by simp [e]), if_pos e]
      · rw [if_pos (by simp [e]), if_neg e]
    · have h0 : c ≠ 0 := ne_of_beq_false h0
      rw [if_neg h0] at hcmp
      refine k _ ?_
      rw [hcmp]; rfl
  · have h : j = cols.length := by have := of_decide_eq_false h; omega
    refine sCondF ?_
    refine sCondF ?_
    refine k _ ?_
    have : cmpL g.key g'.key = c := by
      rw [hcmp]
      split
      · rename_i e
        rw [e, h, ← hk, cmpL_nil]
      · rfl
    rw [this]; rfl

structure SCo where
  i : Nat
  n : Nat

set_option maxHeartbeats 1000000 in
/-- All groups. -/
theorem counts_loop (hV : ∀ a b H, C f_value_Compare [valV a, valV b] H (intV (cmpV a b)) H) (hT : ∀ a b, NumK a → NumK b → ∀ H, C f_value_Two [intV 8, valV a, valV b] H (valV (addV a b)) H)
    (H0 H : Heap) (hO0 : Old H0 H) (K : Post) (gv cv tv : AV) (gs : List Grp) (cols : List Int) (col : Int) (b : Nat) (hg : LstOf gv 5 (gs.map grpV)) (hbl : H0.length ≤ b) (hb : H[b]? = some (.box (valV (nmV 0)).cells)) (hc : view H0 1 cv = some (cols.map intV)) (hl : cols.length ≤ 12) (h60 : gs.length ≤ 60)
    (hcs : (gs.map (·.count)).sum ≤ 1000) (he : ∀ g ∈ gs, 1 ≤ g.count ∧ g.key.length = cols.length) (hr : ∀ i g g', gs[i]? = some g → gs[i + 1]? = some g' → cmpL g.key g'.key < 0) (hn : ∀ g ∈ gs, NumK g.sum)
    (k : ∀ H', Old H0 H' → H'[b]? = some (.box (valV (sumG gs)).cells) → ∀ fr, restrictF fr [12, 0, 2, 11] = [(12, .ref b 0 0 0), (0, tv), (2, intV col), (11, natV (gs.map (·.count)).sum)] → K (.exit 0) fr H') :
    loopP C GT [13, 9, 1, 12, 11, 0, 2] b_scclaw4_PickCounts_1 K [(13, intV 0), (9, gv), (1, cv), (12, .ref b 0 0 0), (11, intV 0), (0, tv), (2, intV col)] H := by
  refine sLoop (fun s : SCo => [(13, natV s.i), (9, gv), (1, cv), (12, .ref b 0 0 0), (11, natV s.n), (0, tv), (2, intV col)])
    (fun s H' => Old H0 H' ∧ s.i ≤ gs.length ∧ s.n = ((gs.take s.i).map (·.count)).sum ∧ H'[b]? = some (.box (valV (sumG (gs.take s.i))).cells)) (fun s => gs.length - s.i) ⟨0, 0⟩ rfl
    ⟨hO0, Nat.zero_le _, by simp, hb⟩ (fun ⟨i, n⟩ H1 ⟨hO, hi, hn1, hb1⟩ => ?_)
  simp only at hi hn1 hb1
  dsimp only
  refine sLenO gs.length hg (by simp) ?_
  refine sCond (fun h => ?_) (fun h => ?_)
  · have h : i < gs.length := by have := of_decide_eq_true h; omega
    have hgi : gs[i]? = some gs[i] := List.getElem?_eq_getElem h
    obtain ⟨g, hgd⟩ : ∃ g, gs[i] = g := ⟨_, rfl⟩
    rw [hgd] at hgi
    have hgm : (gs.map grpV)[i]? = some (grpV g) := by rw [List.getElem?_map, hgi]; rfl
    obtain ⟨e1, e2⟩ := he g (List.mem_of_getElem? hgi)
    have hst : gs.take (i + 1) = gs.take i ++ [g] := by rw [List.take_succ_eq_append_getElem h, hgd]
    have hsn : ((gs.take (i + 1)).map (·.count)).sum = n + g.count := by rw [hst, List.map_append, List.sum_append, ← hn1]; simp
    have hle : ((gs.take (i + 1)).map (·.count)).sum ≤ (gs.map (·.count)).sum := by
      conv => rhs; rw [← List.take_append_drop (i + 1) gs]
      rw [List.map_append, List.sum_append]; omega
    have hsg : sumG (gs.take (i + 1)) = addV (sumG (gs.take i)) g.sum := by rw [hst, sumG_snoc]
    have hnk := sumG_nk (gs.take i) fun g hg => hn g (List.mem_of_mem_take hg)
    refine sIdxO i (grpV g) hg rfl hgm ?_
    refine sLoadL (natV g.count) rfl ?_
    refine sW64n (r := n + g.count) rfl (by omega) ?_
    refine sIdxO i (grpV g) hg rfl hgm ?_
    refine sLoadL (natV g.count) rfl ?_
    refine sCond (fun h => absurd (of_decide_eq_true h) (by omega)) (fun _ => ?_)
    refine sIdxO i (grpV g) hg rfl hgm ?_
    refine sLoadL (lstF 3 (g.key.map valV)) rfl ?_
    refine sLenO g.key.length (grp_kv g) (by simp) ?_
    refine sLenN cols.length (view_old hO hc) (by simp) ?_
    refine sCondF ?_
    refine sCond (fun h => absurd h (by simp [e2])) (fun _ => ?_)
    refine sLoadBox (valV (sumG (gs.take i))) hb1 rfl ?_
    refine sIdxO i (grpV g) hg rfl hgm ?_
    refine sLoadL (valV g.sum) rfl ?_
    refine sCall0 (hT _ _ hnk (hn g (List.mem_of_getElem? hgi)) _) ?_
    refine sStoreE (v := valV (addV (sumG (List.take i gs)) g.sum)) (AV.cells (valV (addV (sumG (List.take i gs)) g.sum))) hb1 rfl rfl rfl rfl ?_
    have hO2 : Old H0 (H1.set b (.box (valV (addV (sumG (gs.take i)) g.sum)).cells)) := hO.set hbl _
    have hb2 : (H1.set b (.box (valV (addV (sumG (gs.take i)) g.sum)).cells))[b]? = some (.box (valV (sumG (gs.take (i + 1)))).cells) := by rw [hsg]; exact set_at hb1
    generalize H1.set b (.box (valV (addV (sumG (gs.take i)) g.sum)).cells) = H2 at hO2 hb2 ⊢
    refine sCond (fun h0 => ?_) (fun h0 => ?_)
    · have h0 : i = 0 := by have := eq_of_beq h0; omega
      subst h0
      refine sW64n (r := 0 + 1) rfl (by omega) ?_
      exact sNext (SCo.mk 1 (n + g.count)) rfl ⟨hO2, by simp only; omega, hsn.symm, hb2⟩ (by simp only; omega)
    · have h0 : i ≠ 0 := fun e => by subst e; exact absurd h0 (by simp)
      obtain ⟨j, rfl⟩ : ∃ j, i = j + 1 := ⟨i - 1, by omega⟩
      have hgj : gs[j]? = some gs[j] := List.getElem?_eq_getElem (by omega)
      have hneg := hr j _ _ hgj hgi
      refine counts_cmp hV H2 _ gv cv tv gs cols col j (n + g.count) b gs[j] g hg hgj hgi (view_old hO2 hc) hl (by omega) (he _ (List.mem_of_getElem? hgj)).2 e2 (fun fr hfr => ?_)
      refine sBlk hfr ?_
      refine sCond (fun h => absurd (of_decide_eq_true h) (by omega)) (fun _ => ?_)
      refine sW64n (r := j + 1 + 1) rfl (by omega) ?_
      exact sNext (SCo.mk (j + 1 + 1) (n + g.count)) rfl ⟨hO2, by simp only; omega, hsn.symm, hb2⟩ (by simp only; omega)
  · have h : i = gs.length := by have := of_decide_eq_false h; omega
    subst h
    rw [List.take_length] at hn1 hb1
    refine k H1 hO hb1 _ ?_
    rw [← hn1]; rfl

theorem colErr_nil {t : List Row} {cols : List Int} (h : colErr t cols = 0) : colErr t [] = 0 := by
  unfold colErr at h ⊢
  split at h
  · rename_i h1; omega
  rename_i h1
  rw [if_neg h1]; simp
theorem eqs_true (a b : Val) (h : a = b) : cellsEq [.int .i64, .int .i64, .str] (valV a).cells (valV b).cells = some true := by rw [cells_val, h]; simp

set_option maxHeartbeats 1000000 in
theorem counts_ev (hN : ∀ n H, C f_sccref1_Num [intV n] H (valV ⟨1, n, []⟩) H) (hV : ∀ a b H, C f_value_Compare [valV a, valV b] H (intV (cmpV a b)) H) (hT : ∀ a b, NumK a → NumK b → ∀ H, C f_value_Two [intV 8, valV a, valV b] H (valV (addV a b)) H)
    (hG : ∀ tv cv t cols col H, TabOf H tv t → view H 1 cv = some (cols.map intV) → C f_pick_Group [tv, cv, intV col] H (groupV t cols col) H)
    (tv cv : AV) (t : List Row) (hr : TabR t) (cols : List Int) (col : Int) (H : Heap) (ht : TabOf H tv t) (hc : view H 1 cv = some (cols.map intV)) : EFun C GT a_scclaw4_PickCounts [tv, cv, intV col] H (.bool true) H := by
  refine efun_of ?_
  refine sCall0 (hN 1 H) ?_
  refine sBslice (vs' := [valV ⟨1, 1, []⟩]) rfl rfl ?_
  refine sCall0 (hN 1 _) ?_
  refine sBslice (vs' := [valV ⟨1, 1, []⟩]) rfl rfl ?_
  have hr1 : ((H ++ [ABlk.row 3 [valV ⟨1, 1, []⟩]]) ++ [ABlk.row 3 [valV ⟨1, 1, []⟩]])[H.length]? = some (.row 3 [valV ⟨1, 1, []⟩]) := push_old push_last
  have hr2 : (((H ++ [ABlk.row 3 [valV ⟨1, 1, []⟩]]) ++ [ABlk.row 3 [valV ⟨1, 1, []⟩]]).set H.length (.frz 3 [valV ⟨1, 1, []⟩]))[(H ++ [ABlk.row 3 [valV ⟨1, 1, []⟩]]).length]? = some (.row 3 [valV ⟨1, 1, []⟩]) := set_other (by simp) push_last
  refine sBsliceF [.lst (some false) 3 [valV ⟨1, 1, []⟩], .lst (some false) 3 [valV ⟨1, 1, []⟩]] ((((H ++ [ABlk.row 3 [valV ⟨1, 1, []⟩]]) ++ [ABlk.row 3 [valV ⟨1, 1, []⟩]]).set H.length (.frz 3 [valV ⟨1, 1, []⟩])).set (H ++ [ABlk.row 3 [valV ⟨1, 1, []⟩]]).length (.frz 3 [valV ⟨1, 1, []⟩])) ?_ rfl ?_
  · exact frzL_cons (frz_sl hr1 rfl) (frzL_cons (frz_sl hr2 rfl) rfl)
  have hO3 : Old H ((((H ++ [ABlk.row 3 [valV ⟨1, 1, []⟩]]) ++ [ABlk.row 3 [valV ⟨1, 1, []⟩]]).set H.length (.frz 3 [valV ⟨1, 1, []⟩])).set (H ++ [ABlk.row 3 [valV ⟨1, 1, []⟩]]).length (.frz 3 [valV ⟨1, 1, []⟩])) :=
    ((((Old.refl H).push _).push _).set (Nat.le_refl _) _).set (by simp) _
  generalize (((H ++ [ABlk.row 3 [valV ⟨1, 1, []⟩]]) ++ [ABlk.row 3 [valV ⟨1, 1, []⟩]]).set H.length (.frz 3 [valV ⟨1, 1, []⟩])).set (H ++ [ABlk.row 3 [valV ⟨1, 1, []⟩]]).length (.frz 3 [valV ⟨1, 1, []⟩]) = H3 at hO3 ⊢
  refine sBslice (vs' := [intV 0]) rfl rfl ?_
  have hfact : groupV [[⟨1, 1, []⟩], [⟨1, 1, []⟩]] [0] 0 = .tup [.lst (some false) 5 [grpV ⟨[⟨1, 1, []⟩], 2, ⟨1, 2, []⟩⟩], .nili] := by kernel_rfl
  have hd0 := hG (.sl (some false) H3.length 1 0 2) (.sl (some false) (H3 ++ [ABlk.row 1 [.lst (some false) 3 [valV ⟨1, 1, []⟩], .lst (some false) 3 [valV ⟨1, 1, []⟩]]]).length 1 0 1) [[⟨1, 1, []⟩], [⟨1, 1, []⟩]] [0] 0
    ((H3 ++ [ABlk.row 1 [.lst (some false) 3 [valV ⟨1, 1, []⟩], .lst (some false) 3 [valV ⟨1, 1, []⟩]]]) ++ [ABlk.row 1 [intV 0]])
    ⟨_, view_old ((Old.refl _).push _) view_new, rfl, fun i r hi => by
      match i, hi with
      | 0, hi => simp at hi; subst hi; exact ⟨_, rfl, ⟨_, _, rfl, .inl rfl⟩⟩
      | 1, hi => simp at hi; subst hi; exact ⟨_, rfl, ⟨_, _, rfl, .inl rfl⟩⟩
      | i + 2, hi => simp at hi⟩ view_new
  rw [hfact] at hd0
  refine sCall0 hd0 ?_
  have hO : Old H ((H3 ++ [ABlk.row 1 [.lst (some false) 3 [valV ⟨1, 1, []⟩], .lst (some false) 3 [valV ⟨1, 1, []⟩]]]) ++ [ABlk.row 1 [intV 0]]) := (hO3.push _).push _
  generalize (H3 ++ [ABlk.row 1 [.lst (some false) 3 [valV ⟨1, 1, []⟩], .lst (some false) 3 [valV ⟨1, 1, []⟩]]]) ++ [ABlk.row 1 [intV 0]] = H4 at hO ⊢
  clear hd0 hr1 hr2 hO3 hfact
  have hq := hG tv cv t cols col H4 (ht.old hO) (view_old hO hc)
  by_cases hbad : colErr t cols ≠ 0 ∨ colOK t col = false
  · obtain ⟨n, hn⟩ := groupV_err hbad
    rw [hn] at hq
    refine sOpt rfl ?_
    refine sOpt rfl ?_
    refine sOpt rfl ?_
    refine sCondF ?_
    refine sLenL ?_
    refine sCondF ?_
    refine sCondF ?_
    refine sIdx (i := 0) rfl rfl ?_
    refine sLoadL _ rfl ?_
    refine sCondF ?_
    refine sCondF ?_
    refine sIdx (i := 0) rfl rfl ?_
    refine sLoadL (valV ⟨1, 2, []⟩) rfl ?_
    refine sCall0 (hN 2 _) ?_
    refine sOpt (v := true) (eqs_true _ _ rfl) ?_
    refine sCondF ?_
    refine sCondF ?_
    refine sCall0 hq ?_
    refine sOpt rfl ?_
    refine sOpt rfl ?_
    refine sOpt rfl ?_
    refine sCondT ?_
    exact sRetV rfl rfl rfl rfl hO
  have he : colErr t cols = 0 := by omega
  have hok : colOK t col = true := by
    cases h : colOK t col with
    | true => rfl
    | false => exact absurd (.inr h) hbad
  obtain ⟨h60, h12, hwide, hin⟩ := tab_ok he
  rw [groupV_ok he hok] at hq
  have hone := hG tv (.lst (some true) 0 []) t [] col
  rw [groupV_ok (colErr_nil he) hok] at hone
  obtain ⟨S, hS⟩ : ∃ S, sumL ((List.range t.length).map (cellAt t col)) = S := ⟨_, rfl⟩
  have hos : 0 < t.length → grpL t [] col t.length (sortL t (keysOf [])) = [⟨[], t.length, S⟩] := fun h => by rw [← hS]; exact grp_none t col (List.length_pos_iff.1 h)
  generalize grpL t [] col t.length (sortL t (keysOf [])) = os at hone hos
  have hsl : (sortL t (keysOf cols)).length = t.length := srtL_len _ _
  have hcnt := grpL_count t cols col t.length (sortL t (keysOf cols)) (by omega)
  have heach := grpL_each t cols col t.length (sortL t (keysOf cols))
  have hrise := grpL_rise t cols col t.length (sortL t (keysOf cols)) (srtL_sorted (rowLt_ok t (keysOf cols)) t.length)
  have hsok := (grpL_ok hr cols col t.length (sortL t (keysOf cols)) (by omega)).1
  have hlaw := counts_law hr cols col
  rw [hS] at hlaw
  have hgl := grpL_len t cols col t.length (sortL t (keysOf cols))
  generalize grpL t cols col t.length (sortL t (keysOf cols)) = gs at hq hcnt heach hrise hsok hlaw hgl
  refine sOpt rfl ?_
  refine sOpt rfl ?_
  refine sOpt rfl ?_
  refine sCondF ?_
  refine sLenL ?_
  refine sCondF ?_
  refine sCondF ?_
  refine sIdx (i := 0) rfl rfl ?_
  refine sLoadL _ rfl ?_
  refine sCondF ?_
  refine sCondF ?_
  refine sIdx (i := 0) rfl rfl ?_
  refine sLoadL (valV ⟨1, 2, []⟩) rfl ?_
  refine sCall0 (hN 2 _) ?_
  refine sOpt (v := true) (eqs_true _ _ rfl) ?_
  refine sCondF ?_
  refine sCondF ?_
  refine sCall0 hq ?_
  refine sOpt rfl ?_
  refine sOpt rfl ?_
  refine sOpt rfl ?_
  refine sCondF ?_
  refine sCall0 (hN _ _) ?_
  refine sStoreE (v := valV { kind := 1, num := 0, text := [] }) (AV.cells (valV { kind := 1, num := 0, text := [] })) push_last rfl rfl rfl rfl ?_
  refine counts_loop hV hT H _ ((hO.push _).set hO.1 _) _ (lstF 5 (gs.map grpV)) cv tv gs cols col H4.length (lstF_of 5 _) hO.1 (set_at push_last) hc h12 (by omega) (by omega) heach hrise (fun g hg => (hsok g hg).1) (fun H5 hO5 hb5 fr hfr => ?_)
  refine sBlk hfr ?_
  have hone5 := hone H5 (ht.old hO5) rfl
  obtain ⟨rows, hrv, hrl, hrg⟩ := ht
  refine sLenN t.length hrv hrl ?_
  refine sCond (fun h => absurd h (by rw [hcnt, hsl]; simp)) (fun _ => ?_)
  refine sCall0 hone5 ?_
  refine sOpt rfl ?_
  refine sOpt rfl ?_
  refine sOpt rfl ?_
  refine sCondF ?_
  refine sLenN t.length hrv hrl ?_
  refine sCond (fun hp => ?_) (fun hp => ?_)
  · have hp : 0 < t.length := by have := of_decide_eq_true hp; omega
    have ho := hos hp
    have hog : (os.map grpV)[0]? = some (grpV ⟨[], t.length, S⟩) := by rw [ho]; rfl
    refine sLenO 1 (lstF_of 5 _) (by rw [ho]; rfl) ?_
    refine sCondT ?_
    refine sCondF ?_
    refine sCondF ?_
    refine sLenN t.length hrv hrl ?_
    refine sCond (fun h => absurd (eq_of_beq h) (by omega)) (fun _ => ?_)
    refine sLoadBox (intV (sumG gs).kind) hb5 rfl ?_
    refine sCondF ?_
    refine sCond (fun h => ?_) (fun hk => ?_)
    · refine sCondT ?_
      refine sCondT ?_
      refine sCondT ?_
      exact sRetV rfl rfl rfl rfl hO5
    refine sIdxO 0 (grpV ⟨[], t.length, S⟩) (lstF_of 5 _) rfl hog ?_
    refine sLoadL (intV S.kind) rfl ?_
    refine sCondF ?_
    refine sCond (fun h => ?_) (fun hk2 => ?_)
    · refine sCondT ?_
      exact sRetV rfl rfl rfl rfl hO5
    refine sIdxO 0 (grpV ⟨[], t.length, S⟩) (lstF_of 5 _) rfl hog ?_
    refine sLoadL (valV S) rfl ?_
    refine sLoadBox (valV (sumG gs)) hb5 rfl ?_
    refine sOpt (cells_val S (sumG gs)) ?_
    refine sCondF ?_
    have heq : S = sumG gs := hlaw (by simpa using hk) (by simpa using hk2)
    exact sRetE (v0 := .bool (decide (S = sumG gs))) (by simp [heq]) rfl rfl rfl rfl hO5
  · have hp : t.length = 0 := by have := of_decide_eq_false hp; omega
    refine sCondF ?_
    refine sCondF ?_
    refine sCondF ?_
    refine sLenN t.length hrv hrl ?_
    refine sCond (fun _ => ?_) (fun h => absurd h (by simp [hp]))
    refine sCondT ?_
    refine sCondT ?_
    refine sCondT ?_
    refine sCondT ?_
    refine sCondT ?_
    exact sRetV rfl rfl rfl rfl hO5
end
end Go.AM
