/- The walk of the law SortStands. Own work. -/
import Derived.Test.YtniijfcjdlhfcaaSst
import Derived.KernelRfl
set_option linter.all false
set_option maxRecDepth 20000
namespace Go.AM

theorem insL_last {lt : Nat → Nat → Bool} (h : ∀ x y, lt x y = false) (x : Nat) : ∀ l, insL lt x l = l ++ [x]
  | [] => rfl
  | y :: l => by
    unfold insL
    rw [if_neg (by rw [h]; simp), insL_last h x l]; rfl
theorem sortL_nil (t : List Row) : sortL t [] = List.range t.length := by
  have h : ∀ x y, rowLt t [] x y = false := fun x y => rfl
  have : ∀ n, srtL (rowLt t []) n = List.range n := fun n => by
    induction n with
    | zero => rfl
    | succ n ih => rw [srtL, insL_last h, ih, List.range_succ]
  exact this _

/-- What is known of a sorted list. -/
structure SortedOK (t : List Row) (ks : List Key) (l : List Nat) : Prop where
  len : l.length = t.length
  lt : ∀ (i : Nat) (x : Nat), l[i]? = some x → x < t.length
  once : ∀ (i : Nat) (x : Nat), l[i]? = some x → x ∉ l.take i
  bef : ∀ (i : Nat) (x y : Nat), l[i]? = some x → l[i + 1]? = some y → Bef (rowLt t ks) x y
theorem sortL_ok (t : List Row) (ks : List Key) : SortedOK t ks (sortL t ks) := by
  have hp : (sortL t ks).Perm (List.range t.length) := srtL_perm (rowLt t ks) t.length
  have hs : (sortL t ks).Pairwise (Bef (rowLt t ks)) := srtL_sorted (rowLt_ok t ks) t.length
  refine ⟨srtL_len _ _, fun i x h => ?_, fun i x h hm => ?_, fun i x y h1 h2 => ?_⟩
  · exact List.mem_range.1 (hp.mem_iff.1 (List.mem_of_getElem? h))
  · obtain ⟨j, hj⟩ := List.getElem?_of_mem hm
    have hji : j < i := by
      have := (List.getElem?_eq_some_iff.1 hj).1
      rw [List.length_take] at this; omega
    rw [List.getElem?_take, if_pos hji] at hj
    obtain ⟨a1, a2⟩ := List.getElem?_eq_some_iff.1 h
    obtain ⟨b1, b2⟩ := List.getElem?_eq_some_iff.1 hj
    have := List.pairwise_iff_getElem.1 hs j i b1 a1 hji
    refine Bef.ne (rowLt_ok t ks) this ?_
    rw [b2, a2]
  · obtain ⟨a1, a2⟩ := List.getElem?_eq_some_iff.1 h1
    obtain ⟨b1, b2⟩ := List.getElem?_eq_some_iff.1 h2
    have := List.pairwise_iff_getElem.1 hs i (i + 1) a1 b1 (by omega)
    rw [a2, b2] at this
    exact this

def seenF (l : List Nat) (i : Nat) : Nat → Bool := fun j => decide (j ∈ l.take i)
theorem seenF_succ {l : List Nat} {i x : Nat} (h : l[i]? = some x) : upd (seenF l i) x true = seenF l (i + 1) := by
  obtain ⟨h1, h2⟩ := List.getElem?_eq_some_iff.1 h
  funext j
  unfold upd seenF
  rw [List.take_succ_eq_append_getElem h1, h2]
  by_cases e : j = x
  · subst e; simp
  · simp [e]

theorem neg_opt (z : Int) (h : -1 ≤ z ∧ z ≤ 1) : aUn .neg (intV z) = some (intV (-z)) := by
  simp only [aUn, intV]
  rw [IntWalk.i64_in _ (by omega), Int.zero_sub]

structure SSK where
  k : Nat
  c : Int

section
variable {C : CSpec} {GT : Nat → Option AV}

set_option maxHeartbeats 4000000 in
theorem stands_ev (hN : ∀ n H, C f_sccref1_Num [intV n] H (valV ⟨1, n, []⟩) H)
    (hS : ∀ tv kv t ks H, TabOf H tv t → view H 2 kv = some (ks.map keyV) → ks.length ≤ 8796093022208 → C f_sort_Sort [tv, kv] H (sortV t ks) H)
    (hQ : ∀ tv kv lv t ks (l : List Int) H, TabOf H tv t → view H 2 kv = some (ks.map keyV) → ks.length ≤ 8796093022208 → view H 1 lv = some (l.map intV) → l.length ≤ 1000000000000 → C f_sort_Sorted [tv, kv, lv] H (sortedV t ks l) H)
    (hV : ∀ a b H, C f_value_Compare [valV a, valV b] H (intV (cmpV a b)) H) (tv kv : AV) (t : List Row) (ks : List Key) (H : Heap) (ht : TabOf H tv t) (hk : LstOf kv 2 (ks.map keyV)) (hkl : ks.length ≤ 8796093022208) :
    EFun C GT a_scclaw4_SortStands [tv, kv] H (.bool true) H := by
  refine sCall0 (hN 2 _) ?_
  refine sBslice (vs' := [valV ⟨1, 2, []⟩]) rfl rfl ?_
  refine sCall0 (hN 1 _) ?_
  refine sBslice (vs' := [valV ⟨1, 1, []⟩]) rfl rfl ?_
  have hr1 : ((H ++ [ABlk.row 3 [valV ⟨1, 2, []⟩]]) ++ [ABlk.row 3 [valV ⟨1, 1, []⟩]])[H.length]? = some (.row 3 [valV ⟨1, 2, []⟩]) := push_old push_last
  have hr2 : (((H ++ [ABlk.row 3 [valV ⟨1, 2, []⟩]]) ++ [ABlk.row 3 [valV ⟨1, 1, []⟩]]).set H.length (.frz 3 [valV ⟨1, 2, []⟩]))[(H ++ [ABlk.row 3 [valV ⟨1, 2, []⟩]]).length]? = some (.row 3 [valV ⟨1, 1, []⟩]) := set_other (by simp) push_last
  refine sBsliceF [.lst (some false) 3 [valV ⟨1, 2, []⟩], .lst (some false) 3 [valV ⟨1, 1, []⟩]] ((((H ++ [ABlk.row 3 [valV ⟨1, 2, []⟩]]) ++ [ABlk.row 3 [valV ⟨1, 1, []⟩]]).set H.length (.frz 3 [valV ⟨1, 2, []⟩])).set (H ++ [ABlk.row 3 [valV ⟨1, 2, []⟩]]).length (.frz 3 [valV ⟨1, 1, []⟩])) ?_ rfl ?_
  · exact frzL_cons (frz_sl hr1 rfl) (frzL_cons (frz_sl hr2 rfl) rfl)
  have hO3 : Old H ((((H ++ [ABlk.row 3 [valV ⟨1, 2, []⟩]]) ++ [ABlk.row 3 [valV ⟨1, 1, []⟩]]).set H.length (.frz 3 [valV ⟨1, 2, []⟩])).set (H ++ [ABlk.row 3 [valV ⟨1, 2, []⟩]]).length (.frz 3 [valV ⟨1, 1, []⟩])) :=
    ((((Old.refl H).push _).push _).set (Nat.le_refl _) _).set (by simp) _
  generalize (((H ++ [ABlk.row 3 [valV ⟨1, 2, []⟩]]) ++ [ABlk.row 3 [valV ⟨1, 1, []⟩]]).set H.length (.frz 3 [valV ⟨1, 2, []⟩])).set (H ++ [ABlk.row 3 [valV ⟨1, 2, []⟩]]).length (.frz 3 [valV ⟨1, 1, []⟩]) = H3 at hO3 ⊢
  refine sOpt rfl ?_
  refine sBslice (vs' := [keyV ⟨0, false⟩]) rfl rfl ?_
  have hfact : sortV [[⟨1, 2, []⟩], [⟨1, 1, []⟩]] [⟨0, false⟩] = .tup [.lst (some false) 1 [nV 1, nV 0], .nili] := by kernel_rfl
  have hd0 := hS (.sl (some false) H3.length 1 0 2) (.sl (some false) (H3 ++ [ABlk.row 1 [.lst (some false) 3 [valV ⟨1, 2, []⟩], .lst (some false) 3 [valV ⟨1, 1, []⟩]]]).length 2 0 1) [[⟨1, 2, []⟩], [⟨1, 1, []⟩]] [⟨0, false⟩]
    ((H3 ++ [ABlk.row 1 [.lst (some false) 3 [valV ⟨1, 2, []⟩], .lst (some false) 3 [valV ⟨1, 1, []⟩]]]) ++ [ABlk.row 2 [keyV ⟨0, false⟩]])
    ⟨_, view_old ((Old.refl _).push _) view_new, rfl, fun i r hi => by
      match i, hi with
      | 0, hi => simp at hi; subst hi; exact ⟨_, rfl, ⟨_, _, rfl, .inl rfl⟩⟩
      | 1, hi => simp at hi; subst hi; exact ⟨_, rfl, ⟨_, _, rfl, .inl rfl⟩⟩
      | i + 2, hi => simp at hi⟩ view_new (by simp)
  rw [hfact] at hd0
  refine sCall0 hd0 ?_
  have hO : Old H ((H3 ++ [ABlk.row 1 [.lst (some false) 3 [valV ⟨1, 2, []⟩], .lst (some false) 3 [valV ⟨1, 1, []⟩]]]) ++ [ABlk.row 2 [keyV ⟨0, false⟩]]) := (hO3.push _).push _
  generalize (H3 ++ [ABlk.row 1 [.lst (some false) 3 [valV ⟨1, 2, []⟩], .lst (some false) 3 [valV ⟨1, 1, []⟩]]]) ++ [ABlk.row 2 [keyV ⟨0, false⟩]] = H4 at hO ⊢
  clear hd0 hr1 hr2 hO3 hfact
  refine sOpt rfl ?_
  refine sOpt rfl ?_
  refine sOpt rfl ?_
  refine sCondF ?_
  refine sLenL ?_
  refine sCondF ?_
  refine sCondF ?_
  refine sIdx (i := 0) rfl rfl ?_
  refine sLoadL (nV 1) rfl ?_
  refine sCondF ?_
  refine sCondF ?_
  have hd := hS tv kv t ks H4 (ht.old hO) (hk.view H4) hkl
  cases he : colErr t (colsOf ks) with
  | succ n =>
    have e : sortV t ks = .tup [.lst (some true) 0 [], errV (n + 1 : Nat)] := by unfold sortV; rw [if_pos (by omega), he]; rfl
    rw [e] at hd
    refine sCall0 hd ?_
    refine sOpt rfl ?_
    refine sOpt rfl ?_
    refine sOpt rfl ?_
    refine sCondT ?_
    exact sRetV rfl rfl rfl rfl hO
  | zero =>
  obtain ⟨h60, h12, hwide, hin⟩ := tab_ok he
  have e : sortV t ks = .tup [lstF 1 ((sortL t ks).map nV), .nili] := by unfold sortV; rw [if_neg (by omega)]
  rw [e] at hd
  refine sCall0 hd ?_
  clear hd e
  refine sOpt rfl ?_
  refine sOpt rfl ?_
  refine sOpt rfl ?_
  refine sCondF ?_
  have ht' := ht
  obtain ⟨rows, hv, hl, hr⟩ := ht
  have hli := lstF_of 1 ((sortL t ks).map nV)
  have hOK := sortL_ok t ks
  have hsd : sortedV t ks (natsI (sortL t ks)) = .tup [.bool true, .nili] := by
    unfold sortedV; rw [if_neg (by omega)]; unfold eqI; simp
  generalize lstF 1 ((sortL t ks).map nV) = lv at hli ⊢
  generalize sortL t ks = l at hli hOK hsd
  have hln : (l.map nV).length = t.length := by rw [List.length_map]; exact hOK.len
  refine sLenN t.length (hli.view H4) hln ?_
  refine sLenN t.length (view_old hO hv) hl ?_
  refine sCond (fun h => by simp at h) (fun _ => ?_)
  refine sLenN t.length (view_old hO hv) hl ?_
  refine sMakeB (n := t.length) rfl rfl (by omega) (by omega) ?_
  refine sLoop (σ := Nat) (fun i => [(10, nV i), (1, kv), (7, lv), (0, tv), (9, .sl (some false) H4.length 1 0 t.length)])
    (fun i H' => Old H4 H' ∧ i ≤ t.length ∧ H'[H4.length]? = some (.row 1 (rowF t.length (fB (seenF l i))))) (fun i => t.length - i) 0 rfl ⟨(Old.refl _).push _, Nat.zero_le _, by rw [push_last]; rfl⟩ (fun i H5 ⟨hO5, hi, hrow⟩ => ?_)
  have hO5' : Old H H5 := hO.trans hO5
  refine sLenN t.length (hli.view H5) hln ?_
  refine sCond (fun hlt => ?_) (fun hlt => ?_)
  · simp only [decide_eq_true_eq, Int.ofNat_lt] at hlt
    have hlil : i < l.length := by rw [hOK.len]; exact hlt
    obtain ⟨x, hx⟩ : ∃ x, l[i]? = some x := ⟨l[i], List.getElem?_eq_getElem hlil⟩
    have hxm : (l.map nV)[i]? = some (nV x) := by rw [List.getElem?_map, hx]; rfl
    have hxt : x < t.length := hOK.lt i x hx
    have hseen : seenF l i x = false := by unfold seenF; exact decide_eq_false (hOK.once i x hx)
    refine sIdxO i (nV x) hli rfl hxm ?_
    refine sLoadL (nV x) rfl ?_
    refine sCond (fun h => by simp only [decide_eq_true_eq] at h; omega) (fun _ => ?_)
    refine sIdxO i (nV x) hli rfl hxm ?_
    refine sLoadL (nV x) rfl ?_
    refine sLenN t.length (view_old hO5' hv) hl ?_
    refine sCondF ?_
    refine sCond (fun h => by simp only [decide_eq_true_eq] at h; omega) (fun _ => ?_)
    refine sIdxO i (nV x) hli rfl hxm ?_
    refine sLoadL (nV x) rfl ?_
    refine sAt ⟨by omega, by omega⟩ ?_
    refine sLoadB x (by omega) hxt hrow ?_
    refine sCondF ?_
    refine sCond (fun h => by rw [hseen] at h; cases h) (fun _ => ?_)
    refine sIdxO i (nV x) hli rfl hxm ?_
    refine sLoadL (nV x) rfl ?_
    refine sAt ⟨by omega, by omega⟩ ?_
    refine sStoreB x true (by omega) hxt hrow ?_
    rw [seenF_succ hx]
    have hO6 : Old H4 (H5.set H4.length (.row 1 (rowF t.length (fB (seenF l (i + 1)))))) := hO5.set (Nat.le_refl _) _
    have hrow6 : (H5.set H4.length (.row 1 (rowF t.length (fB (seenF l (i + 1))))))[H4.length]? = some (.row 1 (rowF t.length (fB (seenF l (i + 1))))) := set_at hrow
    generalize H5.set H4.length (.row 1 (rowF t.length (fB (seenF l (i + 1))))) = H6 at hO6 hrow6 ⊢
    have hO6' : Old H H6 := hO.trans hO6
    refine sCond (fun h0 => ?_) (fun h0 => ?_)
    · refine sW64n (r := i + 1) rfl (by omega) ?_
      exact sNext (i + 1) rfl ⟨hO6, by omega, hrow6⟩ (by show _ < _; omega)
    · have hi0 : 0 < i := by
        have : ¬ (i : Int) = 0 := by simpa using h0
        omega
      obtain ⟨y, hy⟩ : ∃ y, l[i - 1]? = some y := ⟨l[i - 1]'(by omega), List.getElem?_eq_getElem (by omega)⟩
      have hym : (l.map nV)[i - 1]? = some (nV y) := by rw [List.getElem?_map, hy]; rfl
      have hyt : y < t.length := hOK.lt (i - 1) y hy
      have hbef := hOK.bef (i - 1) y x hy (by rw [show i - 1 + 1 = i by omega]; exact hx)
      have hye : t[y]? = some t[y] := List.getElem?_eq_getElem hyt
      have hxe : t[x]? = some t[x] := List.getElem?_eq_getElem hxt
      have ec : rowC t ks y x = cmpK t[y] t[x] ks := by unfold rowC; simp [List.getD_eq_getElem?_getD, hxe, hye]
      have hle : cmpK t[y] t[x] ks ≤ 0 ∧ (cmpK t[y] t[x] ks = 0 → y < x) := by
        rw [← ec]
        rcases hbef with h | ⟨h, h'⟩
        · have : rowC t ks y x < 0 := of_decide_eq_true h
          exact ⟨by omega, fun h => by omega⟩
        · have : ¬ rowC t ks x y < 0 := of_decide_eq_false h
          have := (rowC_fn t ks).anti x y
          exact ⟨by omega, fun _ => h'⟩
      obtain ⟨xy, hxy, hry⟩ := hr y _ hye
      obtain ⟨xx, hxx, hrx⟩ := hr x _ hxe
      refine sLoop (fun s : SSK => [(12, nV s.k), (1, kv), (10, nV i), (7, lv), (0, tv), (9, .sl (some false) H4.length 1 0 t.length), (11, intV s.c)])
        (fun s H' => H' = H6 ∧ s.k ≤ ks.length ∧ cmpK t[y] t[x] ks = if s.c = 0 then cmpK t[y] t[x] (ks.drop s.k) else s.c) (fun s => ks.length - s.k) ⟨0, 0⟩ rfl ⟨rfl, Nat.zero_le _, rfl⟩ (fun ⟨k, c⟩ H7 ⟨e7, hkk, hcc⟩ => ?_)
      subst e7
      simp only at hkk hcc
      dsimp only
      refine sLenN ks.length (hk.view H7) (by simp) ?_
      refine sCond (fun hkl2 => ?_) (fun hkl2 => ?_)
      · simp only [decide_eq_true_eq, Int.ofNat_lt] at hkl2
        refine sCondT ?_
        refine sCond (fun hc0 => ?_) (fun hc0 => ?_)
        · have hc0 : c = 0 := by simpa using hc0
          subst hc0
          rw [if_pos rfl] at hcc
          have hke : ks[k]? = some ks[k] := List.getElem?_eq_getElem hkl2
          have hkm : (ks.map keyV)[k]? = some (keyV ks[k]) := by rw [List.getElem?_map, hke]; rfl
          have c0 : 0 ≤ ks[k].col := (hin y _ hye ks[k].col (List.mem_map.2 ⟨_, List.mem_of_getElem? hke, rfl⟩)).1
          have cy := (hin y _ hye ks[k].col (List.mem_map.2 ⟨_, List.mem_of_getElem? hke, rfl⟩)).2
          have cx := (hin x _ hxe ks[k].col (List.mem_map.2 ⟨_, List.mem_of_getElem? hke, rfl⟩)).2
          have hvy : t[y][ks[k].col.toNat]? = some (t[y].getD ks[k].col.toNat default) := by
            rw [List.getD_eq_getElem?_getD, List.getElem?_eq_getElem (by omega)]; rfl
          have hvx : t[x][ks[k].col.toNat]? = some (t[x].getD ks[k].col.toNat default) := by
            rw [List.getD_eq_getElem?_getD, List.getElem?_eq_getElem (by omega)]; rfl
          have hdrop : ks.drop k = ks[k] :: ks.drop (k + 1) := List.drop_eq_getElem_cons hkl2
          rw [hdrop] at hcc
          refine sW64n (r := i - 1) (by omega) (by omega) ?_
          refine sIdxO (i - 1) (nV y) hli rfl hym ?_
          refine sLoadL (nV y) rfl ?_
          refine sIdxV y xy (view_old hO6' hv) rfl hxy (fun p hp => ?_)
          refine sLoadP xy hp (by rw [hry.cells]; rfl) ?_
          refine sIdxO k (keyV ks[k]) hk rfl hkm ?_
          refine sLoadL (intV ks[k].col) rfl ?_
          refine sIdxO ks[k].col.toNat (valV (t[y].getD ks[k].col.toNat default)) hry (Int.toNat_of_nonneg c0).symm (hry.get [] hvy).2 ?_
          refine sLoadL (valV (t[y].getD ks[k].col.toNat default)) rfl ?_
          refine sIdxO i (nV x) hli rfl hxm ?_
          refine sLoadL (nV x) rfl ?_
          refine sIdxV x xx (view_old hO6' hv) rfl hxx (fun p2 hp2 => ?_)
          refine sLoadP xx hp2 (by rw [hrx.cells]; rfl) ?_
          refine sIdxO k (keyV ks[k]) hk rfl hkm ?_
          refine sLoadL (intV ks[k].col) rfl ?_
          refine sIdxO ks[k].col.toNat (valV (t[x].getD ks[k].col.toNat default)) hrx (Int.toNat_of_nonneg c0).symm (hrx.get [] hvx).2 ?_
          refine sLoadL (valV (t[x].getD ks[k].col.toNat default)) rfl ?_
          refine sCall0 (hV _ _ _) ?_
          refine sIdxO k (keyV ks[k]) hk rfl hkm ?_
          refine sLoadL (.bool ks[k].down) rfl ?_
          refine sCond (fun hdn => ?_) (fun hdn => ?_)
          · have ek : keyC t[y] t[x] ks[k] = - cmpV (t[y].getD ks[k].col.toNat default) (t[x].getD ks[k].col.toNat default) := by unfold keyC; rw [if_pos hdn]
            refine sOpt (neg_opt _ (cmpV_range (t[y].getD ks[k].col.toNat default) (t[x].getD ks[k].col.toNat default))) ?_
            refine sW64n (r := k + 1) rfl (by omega) ?_
            refine sNext (SSK.mk (k + 1) (- cmpV (t[y].getD ks[k].col.toNat default) (t[x].getD ks[k].col.toNat default))) rfl ⟨rfl, by simp only; omega, ?_⟩ (by simp only; omega)
            simp only
            rw [hcc, cmpK, ← ek]
            by_cases e0 : keyC t[y] t[x] ks[k] = 0
            · rw [if_neg (by simp [e0]), if_pos e0]
            · rw [if_pos (by simp [e0]), if_neg e0]
          · have ek : keyC t[y] t[x] ks[k] = cmpV (t[y].getD ks[k].col.toNat default) (t[x].getD ks[k].col.toNat default) := by unfold keyC; rw [if_neg (by rw [hdn]; simp)]
            refine sW64n (r := k + 1) rfl (by omega) ?_
            refine sNext (SSK.mk (k + 1) (cmpV (t[y].getD ks[k].col.toNat default) (t[x].getD ks[k].col.toNat default))) rfl ⟨rfl, by simp only; omega, ?_⟩ (by simp only; omega)
            simp only
            rw [hcc, cmpK, ← ek]
            by_cases e0 : keyC t[y] t[x] ks[k] = 0
            · rw [if_neg (by simp [e0]), if_pos e0]
            · rw [if_pos (by simp [e0]), if_neg e0]
        · have hc0 : c ≠ 0 := by simpa using hc0
          rw [if_neg hc0] at hcc
          refine sCond (fun h => ?_) (fun h => ?_)
          · have := of_decide_eq_true h; omega
          · refine sCond (fun hz => absurd (by simpa using hz) hc0) (fun _ => ?_)
            refine sCondF ?_
            refine sCondF ?_
            refine sCondF ?_
            refine sW64n (r := i + 1) rfl (by omega) ?_
            exact sNext (i + 1) rfl ⟨hO6, by omega, hrow6⟩ (by show _ < _; omega)
      · simp only [decide_eq_false_iff_not, Int.ofNat_lt] at hkl2
        have ekk : k = ks.length := by omega
        subst ekk
        rw [List.drop_length] at hcc
        have hce : c = cmpK t[y] t[x] ks := by
          rw [hcc]
          split
          · rename_i e0; rw [e0]; rfl
          · rfl
        refine sCondF ?_
        refine sCondF ?_
        refine sCond (fun h => ?_) (fun h => ?_)
        · have := of_decide_eq_true h; omega
        · refine sCond (fun hz => ?_) (fun hz => ?_)
          · have hz' : c = 0 := by simpa using hz
            refine sW64n (r := i - 1) (by omega) (by omega) ?_
            refine sIdxO (i - 1) (nV y) hli rfl hym ?_
            refine sLoadL (nV y) rfl ?_
            refine sIdxO i (nV x) hli rfl hxm ?_
            refine sLoadL (nV x) rfl ?_
            refine sCondT ?_
            refine sCondF ?_
            refine sCond (fun hg => ?_) (fun hg => ?_)
            · simp only [decide_eq_true_eq] at hg
              have := hle.2 (by omega)
              omega
            · refine sW64n (r := i + 1) rfl (by omega) ?_
              exact sNext (i + 1) rfl ⟨hO6, by omega, hrow6⟩ (by show _ < _; omega)
          · refine sCondF ?_
            refine sCondF ?_
            refine sCondF ?_
            refine sW64n (r := i + 1) rfl (by omega) ?_
            exact sNext (i + 1) rfl ⟨hO6, by omega, hrow6⟩ (by show _ < _; omega)
  · simp only [decide_eq_false_iff_not, Int.ofNat_lt] at hlt
    have hq := hQ tv kv lv t ks (natsI l) H5 (ht'.old hO5') (hk.view H5) hkl (by rw [natsI_map]; exact hli.view H5) (by unfold natsI; rw [List.length_map, hOK.len]; omega)
    rw [hsd] at hq
    refine sCall0 hq ?_
    refine sOpt rfl ?_
    refine sOpt rfl ?_
    have hz : colErr t (colsOf []) = 0 := by
      unfold colErr at he ⊢
      split at he
      · omega
      · rename_i h1; rw [if_neg h1, if_neg (by simp [colsOf]), if_neg (by simp [colsOf])]
    have hs0 := hS tv (.lst (some true) 0 []) t [] H5 (ht'.old hO5') rfl (by simp)
    have e0 : sortV t [] = .tup [lstF 1 ((List.range t.length).map nV), .nili] := by unfold sortV; rw [if_neg (by omega), sortL_nil]
    rw [e0] at hs0
    refine sCall0 hs0 ?_
    refine sOpt rfl ?_
    refine sOpt rfl ?_
    have hlr := lstF_of 1 ((List.range t.length).map nV)
    generalize lstF 1 ((List.range t.length).map nV) = lr at hlr ⊢
    have hlrn : ((List.range t.length).map nV).length = t.length := by simp
    refine sLoop (σ := Nat) (fun i => [(17, nV i), (15, lr), (0, tv), (16, .nili), (13, .bool true), (14, .nili)]) (fun i H' => H' = H5 ∧ i ≤ t.length) (fun i => t.length - i) 0 rfl ⟨rfl, Nat.zero_le _⟩ (fun i H8 ⟨e8, hi8⟩ => ?_)
    subst e8
    refine sLenN t.length (hlr.view H8) hlrn ?_
    refine sCond (fun h8 => ?_) (fun h8 => ?_)
    · simp only [decide_eq_true_eq, Int.ofNat_lt] at h8
      refine sIdxO i (nV i) hlr rfl (by rw [List.getElem?_map, List.getElem?_range h8]; rfl) ?_
      refine sLoadL (nV i) rfl ?_
      refine sCond (fun h => by simp at h) (fun _ => ?_)
      refine sW64n (r := i + 1) rfl (by omega) ?_
      exact sNext (i + 1) rfl ⟨rfl, by omega⟩ (by show _ < _; omega)
    · refine sOpt rfl ?_
      refine sCondT ?_
      refine sCondT ?_
      refine sCondT ?_
      refine sOpt rfl ?_
      refine sCondT ?_
      refine sCondT ?_
      refine sLenN t.length (hlr.view H8) hlrn ?_
      refine sLenN t.length (view_old hO5' hv) hl ?_
      refine sCondT ?_
      refine sRetE (v0 := .bool ((t.length : Int) == t.length)) (by simp) rfl rfl rfl rfl hO5'
end
end Go.AM
