/- The walk of pick.Group. Own work. -/
import Derived.Test.YtaijlknbeapnhaaDoorGrp
set_option linter.all false
namespace Go.AM

def groupV (t : List Row) (cols : List Int) (col : Int) : AV :=
  if colErr t cols ≠ 0 then .tup [.lst (some true) 0 [], errN (colErr t cols)] else if colOK t col = false then .tup [.lst (some true) 0 [], errV 1]
  else .tup [lstF 5 ((grpL t cols col t.length (sortL t (keysOf cols))).map grpV), .nili]

theorem grpL_len (t : List Row) (cols : List Int) (col : Int) : ∀ m l, (grpL t cols col m l).length ≤ m
  | 0, _ => Nat.le_refl _
  | m + 1, [] => Nat.zero_le _
  | m + 1, x :: l => by simp only [grpL, List.length_cons]; have := grpL_len t cols col m (l.drop (runL t (keysOf cols) x l)); omega
theorem grpL_fuel (t : List Row) (cols : List Int) (col : Int) : ∀ m l, l.length ≤ m → grpL t cols col m l = grpL t cols col l.length l
  | 0, l, h => by rw [List.length_eq_zero_iff.1 (Nat.le_zero.1 h)]; rfl
  | m + 1, [], _ => rfl
  | m + 1, x :: l, h => by
    simp only [List.length_cons, grpL]
    congr 1
    have : (l.drop (runL t (keysOf cols) x l)).length ≤ l.length := by simp
    rw [grpL_fuel t cols col m _ (by simp at h; omega), grpL_fuel t cols col l.length _ this]

section
variable {C : CSpec} {GT : Nat → Option AV}

theorem grp_elem (g : Grp) : (grpV g).elem 5 = true := by
  have h1 := lstF_bel 0 3 (g.key.map valV)
  have h2 : (lstF 3 (g.key.map valV)).one = true := by cases g.key.map valV <;> rfl
  simp only [grpV, AV.elem, AV.noRef, AV.cells, AV.bel, AV.belL, h1, h2, List.all_cons, List.all_nil, natV, intV]
  rfl

structure SGr where
  lv : AV
  l : List Nat
  ov : AV
  gs : List Grp

set_option maxHeartbeats 2000000 in
theorem grp_loop (hK : ∀ xa xb kv (a b : Row) ks H, RowOf xa a → RowOf xb b → view H 2 kv = some (ks.map keyV) → (∀ k ∈ ks, KeyIn a k) → (∀ k ∈ ks, KeyIn b k) → ks.length ≤ 1000000000000 → C f_sort_Compare [xa, xb, kv] H (intV (cmpK a b ks)) H)
    (hS : ∀ sv l H, view H 3 sv = some (l.map valV) → l.length ≤ 1000 → C f_pick_sum [sv] H (valV (sumL l)) H)
    (H : Heap) (K : Post) (tv cv kv lv : AV) (t : List Row) (cols : List Int) (col : Int) (l0 : List Nat) (ht : TabOf H tv t) (hc : view H 1 cv = some (cols.map intV)) (hl : cols.length ≤ 12) (hk : view H 2 kv = some ((keysOf cols).map keyV)) (hlv : LstOf lv 1 (l0.map nV))
    (hin : ∀ (i : Nat) (r : Row), t[i]? = some r → ∀ k ∈ keysOf cols, KeyIn r k) (hcol : ∀ (i : Nat) (r : Row), t[i]? = some r → 0 ≤ col ∧ col < (r.length : Int)) (hlt : ∀ i ∈ l0, i < t.length) (h60 : l0.length ≤ 60)
    (k : ∀ v H', Owns H H' v 5 ((grpL t cols col l0.length l0).map grpV) → Old H H' → ∀ fr, restrictF fr [14] = [(14, v)] → K (.exit 2) fr H') :
    loopP C GT [12, 0, 2, 14, 1, 9] b_pick_Group_4 K [(12, lv), (0, tv), (2, intV col), (14, .lst (some true) 0 []), (1, cv), (9, kv)] H := by
  refine sLoop (fun s : SGr => [(12, s.lv), (0, tv), (2, intV col), (14, s.ov), (1, cv), (9, kv)])
    (fun s H' => Old H H' ∧ LstOf s.lv 1 (s.l.map nV) ∧ Owns H H' s.ov 5 (s.gs.map grpV) ∧ s.gs ++ grpL t cols col s.l.length s.l = grpL t cols col l0.length l0 ∧ (∀ i ∈ s.l, i < t.length) ∧ s.l.length + s.gs.length ≤ 60) (fun s => s.l.length) ⟨lv, l0, .lst (some true) 0 [], []⟩ rfl
    ⟨Old.refl _, hlv, Owns.nil _ _ _, rfl, hlt, by simpa using h60⟩ (fun ⟨lv, l, ov, gs⟩ H1 ⟨hO, hlv, hown, hgs, hlt, hlen⟩ => ?_)
  simp only at hlv hown hgs hlt hlen
  dsimp only
  refine sLenO l.length hlv (by simp) ?_
  refine sCond (fun h => ?_) (fun h => ?_)
  case refine_2 =>
    have h : l = [] := List.length_eq_zero_iff.1 (by have := of_decide_eq_false h; omega)
    subst h
    refine k ov H1 ?_ hO _ rfl
    rw [← hgs]; simpa [grpL] using hown
  have h : l ≠ [] := fun e => by subst e; exact absurd h (by simp)
  obtain ⟨x, l, rfl⟩ := List.exists_cons_of_ne_nil h
  have hxt := hlt x (by simp)
  have htx : t[x]? = some t[x] := List.getElem?_eq_getElem hxt
  simp only [List.length_cons] at hlen
  have hrl := runL_le t (keysOf cols) x l
  refine grp_run hK H1 _ tv cv kv lv ov t (keysOf cols) col x l (ht.old hO) (view_old hO hk) hlv hin (by simpa [keysOf] using hl) hlt (by omega) (fun fr hfr => ?_)
  refine sBlk hfr ?_
  have hn : runL t (keysOf cols) x l + 1 ≤ (x :: l).length := by simp; omega
  obtain ⟨n, hnd⟩ : ∃ n, runL t (keysOf cols) x l = n := ⟨_, rfl⟩
  rw [hnd] at hn hrl
  rw [hnd]
  have hin2 : ∀ c ∈ cols, ∃ j : Nat, c = j ∧ j < t[x].length := fun c hc => by
    obtain ⟨h1, h2⟩ := hin x _ htx ⟨c, false⟩ (List.mem_map.2 ⟨c, hc, rfl⟩)
    exact ⟨c.toNat, by simp only at h1; omega, by simp only at h1 h2; omega⟩
  refine sOpt (v := [AV.lst (some true) 0 [], nV (n + 1), AV.int IntKind.i64 0, AV.int IntKind.i64 0, AV.str []]) rfl ?_
  refine sStoreE (v := AV.agg [AV.lst (some true) 0 [], nV (n + 1), AV.int IntKind.i64 0, AV.int IntKind.i64 0, AV.str []]) (AV.cells (AV.agg [AV.lst (some true) 0 [], nV (n + 1), AV.int IntKind.i64 0, AV.int IntKind.i64 0, AV.str []])) push_last rfl rfl rfl rfl ?_
  refine sLenN cols.length hc (by simp) ?_
  refine grp_key H1 _ H1.length (Nat.le_refl _) tv cv kv lv ov t cols col x (l.map nV) (n + 1) _ ((Old.refl H1).pushSet _ _) (set_at push_last) (ht.old hO) (view_old hO hc) hl hlv hxt hin2 (fun v2 H2 hown2 hO2 hb2 fr hfr => ?_)
  refine sBlk hfr ?_
  obtain ⟨sv, hsl, hsv⟩ := lst_take hlv (n := n + 1) (by simpa using hn)
  rw [← List.map_take] at hsv
  obtain ⟨dv, hdl, hdv⟩ := lst_drop hlv (n := n + 1) (by simpa using hn)
  rw [← List.map_drop] at hdv
  refine sOpt hsl ?_
  refine sLenO ((x :: l).take (n + 1)).length hsv (by simp) ?_
  refine grp_all H2 _ H1.length tv cv kv lv sv ov t col ((x :: l).take (n + 1)) (natV (n + 1)) (ht.old (hO.trans hO2)) hsv (by rw [List.length_take]; omega) (fun i hi => ?_) (fun v3 H3 hown3 hO3 fr hfr => ?_)
  · have h1 := hlt i (List.mem_of_mem_take hi)
    obtain ⟨h2, h3⟩ := hcol i _ (List.getElem?_eq_getElem h1)
    exact ⟨h1, col.toNat, by omega, by omega⟩
  refine sBlk hfr ?_
  have hb3 := old_get hO3 hb2
  have hsum := hS v3 _ H3 hown3.view (by rw [List.length_map, List.length_take]; omega)
  obtain ⟨s, hs⟩ : ∃ s, sumL (((x :: l).take (n + 1)).map (cellAt t col)) = s := ⟨_, rfl⟩
  rw [hs] at hsum
  refine sCall0 hsum ?_
  refine sStoreE (v := valV s) [v2, natV (n + 1), AV.int IntKind.i64 s.kind, AV.int IntKind.i64 s.num, AV.str s.text] hb3 rfl rfl rfl rfl ?_
  refine sLoadBox (AV.agg [v2, natV (n + 1), AV.int IntKind.i64 s.kind, AV.int IntKind.i64 s.num, AV.str s.text]) (set_at hb3) rfl ?_
  have hv3 : Owns H1 (H3.set H1.length (.box [v2, natV (n + 1), .int .i64 s.kind, .int .i64 s.num, .str s.text])) v2 3 ((keyVals t cols x).map valV) :=
    (hown2.keep fun b x hb hx => old_get hO3 hx).set (hown2.ne_box hb2) _
  have hO13 : Old H1 (H3.set H1.length (.box [v2, natV (n + 1), .int .i64 s.kind, .int .i64 s.num, .str s.text])) := (hO2.trans hO3).set (Nat.le_refl _) _
  obtain ⟨H4, hf, hlen4, hkeep4, hold4⟩ := frzL_own (cs := [natV (n + 1), .int .i64 s.kind, .int .i64 s.num, .str s.text]) hv3 (fun H => rfl)
  have hO4 : Old H1 H4 := hold4 hO13
  have hov : Owns H H4 ov 5 (gs.map grpV) := hown.keep fun b y hb hy => by
    have hbl := (List.getElem?_eq_some_iff.1 hy).1
    refine hkeep4 b y (fun e => ?_) (set_other (by omega) (old_get hO3 (old_get hO2 hy)))
    have := (hv3.lt e).1; omega
  refine sBsliceF [grpV ⟨keyVals t cols x, n + 1, s⟩] H4 hf (by simp [grp_elem]) ?_
  refine sAppend (H0 := H) (hov.push _) ((hO.trans hO4).push _) view_new (by omega) (by simp; omega) (by simp) (fun v' H' ho' hO' hblk hfr => ?_)
  refine sOpt hdl ?_
  have hd : (x :: l).drop (n + 1) = l.drop n := rfl
  refine sNext (SGr.mk dv ((x :: l).drop (n + 1)) v' (gs ++ [⟨keyVals t cols x, n + 1, s⟩])) rfl ⟨hO', hdv, by simp only [List.map_append]; exact ho', ?_, fun i hi => hlt i (List.mem_of_mem_drop hi), ?_⟩ ?_
  · rw [← hgs]
    simp only [List.length_cons, grpL, hnd]
    have e1 : (x :: l.take n).map (cellAt t col) = ((x :: l).take (n + 1)).map (cellAt t col) := rfl
    rw [e1, hs, hd, List.append_assoc, ← grpL_fuel t cols col l.length (l.drop n) (by simp)]
    rfl
  · simp only [List.length_append, List.length_cons, List.length_nil, hd, List.length_drop]; omega
  · simp only [hd, List.length_drop, List.length_cons]; omega

theorem group_ev (hCols : ∀ tv cv t cols H, TabOf H tv t → view H 1 cv = some (cols.map intV) → C f_sort_Columns [tv, cv] H (errN (colErr t cols)) H)
    (hCol : ∀ tv t c H, TabOf H tv t → C f_sort_Column [tv, intV c] H (.bool (colOK t c)) H)
    (hSort : ∀ tv kv t ks H, TabOf H tv t → view H 2 kv = some (ks.map keyV) → ks.length ≤ 8796093022208 → C f_sort_Sort [tv, kv] H (sortV t ks) H)
    (hK : ∀ xa xb kv (a b : Row) ks H, RowOf xa a → RowOf xb b → view H 2 kv = some (ks.map keyV) → (∀ k ∈ ks, KeyIn a k) → (∀ k ∈ ks, KeyIn b k) → ks.length ≤ 1000000000000 → C f_sort_Compare [xa, xb, kv] H (intV (cmpK a b ks)) H)
    (hS : ∀ sv l H, view H 3 sv = some (l.map valV) → l.length ≤ 1000 → C f_pick_sum [sv] H (valV (sumL l)) H)
    (tv cv : AV) (t : List Row) (cols : List Int) (col : Int) (H : Heap) (ht : TabOf H tv t) (hc : view H 1 cv = some (cols.map intV)) : EFun C GT a_pick_Group [tv, cv, intV col] H (groupV t cols col) H := by
  have hce := hCols tv cv t cols H ht hc
  by_cases he : colErr t cols = 0
  case neg =>
    obtain ⟨n, hn⟩ : ∃ n, colErr t cols = n + 1 := ⟨colErr t cols - 1, by omega⟩
    have e : groupV t cols col = .tup [.lst (some true) 0 [], errN (n + 1)] := by unfold groupV; rw [if_pos he, hn]
    rw [hn] at hce
    rw [e]
    refine efun_of ?_
    refine sCall0 hce ?_
    refine sOpt rfl ?_
    refine sCondT ?_
    exact sRetV rfl rfl rfl rfl (Old.refl _)
  rw [he] at hce
  have hco := hCol tv t col H ht
  by_cases hok : colOK t col = true
  case neg =>
    have hok : colOK t col = false := by simpa using hok
    have e : groupV t cols col = .tup [.lst (some true) 0 [], errV 1] := by unfold groupV; rw [if_neg (by omega), if_pos hok]
    rw [hok] at hco
    rw [e]
    refine efun_of ?_
    refine sCall0 hce ?_
    refine sOpt rfl ?_
    refine sCondF ?_
    refine sCall0 hco ?_
    refine sCondT ?_
    exact sRetV rfl rfl rfl rfl (Old.refl _)
  rw [hok] at hco
  obtain ⟨h60, h12, hwide, hin⟩ := tab_ok he
  have e : groupV t cols col = .tup [lstF 5 ((grpL t cols col t.length (sortL t (keysOf cols))).map grpV), .nili] := by unfold groupV; rw [if_neg (by omega), if_neg (by rw [hok]; simp)]
  have hkc : colsOf (keysOf cols) = cols := by unfold colsOf keysOf; rw [List.map_map]; exact List.map_id _
  rw [e]
  refine efun_of ?_
  refine sCall0 hce ?_
  refine sOpt rfl ?_
  refine sCondF ?_
  refine sCall0 hco ?_
  refine sCondF ?_
  refine sLenN cols.length hc (by simp) ?_
  refine grp_keys H H _ tv cv cols col hc h12 (fun kv H1 hown hO fr hfr => ?_)
  refine sBlk hfr ?_
  have hsr := hSort tv kv t (keysOf cols) H1 (ht.old hO) hown.view (by simp [keysOf]; omega)
  have hsv : sortV t (keysOf cols) = .tup [lstF 1 ((sortL t (keysOf cols)).map nV), .nili] := by unfold sortV; rw [hkc, if_neg (by omega)]
  rw [hsv] at hsr
  refine sCall0 hsr ?_
  refine sOpt rfl ?_
  refine sOpt rfl ?_
  refine sOpt rfl ?_
  refine sCondF ?_
  have hsl : (sortL t (keysOf cols)).length = t.length := srtL_len _ _
  refine grp_loop hK hS H1 _ tv cv kv _ t cols col (sortL t (keysOf cols)) (ht.old hO) (view_old hO hc) h12 hown.view (lstF_of 1 _) (fun i r hr k hk => ?_) (fun i r hr => ?_) (fun i hi => ?_) (by omega) (fun v H2 hown2 hO2 fr hfr => ?_)
  · obtain ⟨c, hcm, rfl⟩ := List.mem_map.1 hk
    exact hin i r hr c hcm
  · have h1 : 0 ≤ col ∧ col < (wideT t : Int) := by unfold colOK at hok; simpa using hok
    have := (hwide i r hr).1
    omega
  · obtain ⟨j, hj⟩ := List.getElem?_of_mem hi
    exact (sortL_ok t (keysOf cols)).lt j i hj
  refine sBlk hfr ?_
  rw [hsl] at hown2
  obtain ⟨H', hf, hO', _⟩ := (hown2.weaken hO.1).frz (hO.trans hO2)
  exact sRetF (v0 := .tup [v, .nili]) rfl rfl (by simp only [frzV, frzL, hf]) (by simp [AV.bel, AV.belL, lstF_bel]) hO'
end
end Go.AM
