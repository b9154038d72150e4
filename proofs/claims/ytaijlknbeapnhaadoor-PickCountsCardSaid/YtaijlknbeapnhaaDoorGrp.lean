/- The walk of pick.Group: its loops. Own work. -/
import Derived.Test.YtaijlknbeapnhaaDoorAdd
import Derived.Test.YtaijlknbeapnhaaDoorSst
set_option linter.all false
namespace Go.AM

/-! ### What it computes -/

structure Grp where
  key : List Val
  count : Nat
  sum : Val
def grpV (g : Grp) : AV := .agg [lstF 3 (g.key.map valV), natV g.count, intV g.sum.kind, intV g.sum.num, .str g.sum.text]
def cellAt (t : List Row) (c : Int) (i : Nat) : Val := (t.getD i []).getD c.toNat default
def keyVals (t : List Row) (cols : List Int) (i : Nat) : List Val := cols.map fun c => cellAt t c i
def runL (t : List Row) (ks : List Key) (x : Nat) (l : List Nat) : Nat := (l.takeWhile (same t ks x)).length
def grpL (t : List Row) (cols : List Int) (col : Int) : Nat → List Nat → List Grp
  | 0, _ => []
  | _ + 1, [] => []
  | m + 1, x :: l => ⟨keyVals t cols x, runL t (keysOf cols) x l + 1, sumL ((x :: l.take (runL t (keysOf cols) x l)).map (cellAt t col))⟩ :: grpL t cols col m (l.drop (runL t (keysOf cols) x l))

theorem runL_le (t : List Row) (ks : List Key) (x : Nat) (l : List Nat) : runL t ks x l ≤ l.length := by
  unfold runL; exact (List.takeWhile_prefix _).length_le
theorem takeWhile_is {α : Type} (p : α → Bool) : ∀ (l : List α) (n : Nat), n ≤ l.length → (∀ j x, j < n → l[j]? = some x → p x = true) → (n = l.length ∨ ∃ x, l[n]? = some x ∧ p x = false) → (l.takeWhile p).length = n
  | [], n, hn, _, _ => by simp at hn; subst hn; rfl
  | a :: l, 0, _, _, h => by
    rcases h with h | ⟨x, hx, hp⟩
    · simp at h
    · simp at hx; subst hx; simp [List.takeWhile, hp]
  | a :: l, n + 1, hn, h1, h2 => by
    have ha : p a = true := h1 0 a (by omega) rfl
    rw [List.takeWhile_cons_of_pos ha, List.length_cons, takeWhile_is p l n (by simpa using hn) (fun j x hj hx => h1 (j + 1) x (by omega) (by simpa using hx)) (by simpa using h2)]

section
variable {C : CSpec} {GT : Nat → Option AV}

structure SPv where
  i : Nat
  v : AV

/-- The keys. -/
theorem grp_keys (H0 H : Heap) (K : Post) (tv cv : AV) (cols : List Int) (col : Int) (hc : view H 1 cv = some (cols.map intV)) (hl : cols.length ≤ 12)
    (k : ∀ v H', Owns H H' v 2 ((keysOf cols).map keyV) → Old H H' → ∀ fr, restrictF fr [0, 2, 1, 9] = [(0, tv), (2, intV col), (1, cv), (9, v)] → K (.exit 0) fr H') :
    loopP C GT [35, 9, 33, 0, 2, 1, 34] b_pick_Group_0 K [(35, .int .i64 0), (9, .lst (some true) 0 []), (33, cv), (0, tv), (2, intV col), (1, cv), (34, .int .i64 cols.length)] H := by
  refine sLoop (fun s : SPv => [(35, .int .i64 s.i), (9, s.v), (33, cv), (0, tv), (2, intV col), (1, cv), (34, .int .i64 cols.length)]) (fun s H' => Old H H' ∧ s.i ≤ cols.length ∧ Owns H H' s.v 2 ((keysOf (cols.take s.i)).map keyV)) (fun s => cols.length - s.i) ⟨0, .lst (some true) 0 []⟩ rfl
    ⟨Old.refl _, Nat.zero_le _, Owns.nil _ _ _⟩ (fun ⟨i, v⟩ H1 ⟨hO, hi, hown⟩ => ?_)
  simp only at hi hown
  dsimp only
  refine sCond (fun hlt => ?_) (fun hlt => ?_)
  · have hlt : i < cols.length := by have := of_decide_eq_true hlt; omega
    have hci : cols[i]? = some cols[i] := List.getElem?_eq_getElem hlt
    refine sIdxV i (intV cols[i]) (view_old hO hc) rfl (by rw [List.getElem?_map, hci]; rfl) (fun p hp => ?_)
    refine sLoadP (intV cols[i]) hp rfl ?_
    refine sOpt rfl ?_
    refine sBslice (vs' := [keyV ⟨cols[i], false⟩]) rfl rfl ?_
    refine sAppend (H0 := H) (hown.push _) (hO.push _) view_new (by omega) ?_ (by simp) (fun v' H' ho' hO' hblk hfr => ?_)
    · simp only [keysOf, List.length_map, List.length_take, List.length_cons, List.length_nil]; omega
    refine sW64n (r := i + 1) rfl (by omega) ?_
    refine sNext (SPv.mk (i + 1) v') rfl ⟨hO', by simp only; omega, ?_⟩ (by simp only; omega)
    have e : (keysOf (cols.take (i + 1))).map keyV = (keysOf (cols.take i)).map keyV ++ [keyV ⟨cols[i], false⟩] := by
      rw [List.take_succ_eq_append_getElem hlt]; simp only [keysOf, List.map_append, List.map_cons, List.map_nil]
    simp only [e]
    exact ho'
  · have hge : i = cols.length := by have := of_decide_eq_false hlt; omega
    subst hge
    rw [List.take_length] at hown
    exact k v H1 hown hO _ rfl

/-- How many are alike. -/
theorem grp_run (hK : ∀ xa xb kv (a b : Row) ks H, RowOf xa a → RowOf xb b → view H 2 kv = some (ks.map keyV) → (∀ k ∈ ks, KeyIn a k) → (∀ k ∈ ks, KeyIn b k) → ks.length ≤ 1000000000000 → C f_sort_Compare [xa, xb, kv] H (intV (cmpK a b ks)) H)
    (H : Heap) (K : Post) (tv cv kv lv ov : AV) (t : List Row) (ks : List Key) (col : Int) (x : Nat) (l : List Nat) (ht : TabOf H tv t) (hk : view H 2 kv = some (ks.map keyV)) (hlv : LstOf lv 1 ((x :: l).map nV))
    (hin : ∀ (i : Nat) (r : Row), t[i]? = some r → ∀ k ∈ ks, KeyIn r k) (hkl : ks.length ≤ 12) (hlt : ∀ i ∈ x :: l, i < t.length) (hll : l.length ≤ 1000)
    (k : ∀ fr, restrictF fr [12, 0, 2, 1, 9, 15, 14] = [(12, lv), (0, tv), (2, intV col), (1, cv), (9, kv), (15, nV (runL t ks x l + 1)), (14, ov)] → K (.exit 4) fr H) :
    loopP C GT [15, 12, 0, 2, 1, 9, 14] b_pick_Group_1 K [(15, .int .i64 1), (12, lv), (0, tv), (2, intV col), (1, cv), (9, kv), (14, ov)] H := by
  obtain ⟨rows, hrv, hrl, hrg⟩ := ht
  have hxt := hlt x (by simp)
  have htx : t[x]? = some t[x] := List.getElem?_eq_getElem hxt
  obtain ⟨xa, hxa, hxr⟩ := hrg x _ htx
  refine sLoop (σ := Nat) (fun n => [(15, nV (n + 1)), (12, lv), (0, tv), (2, intV col), (1, cv), (9, kv), (14, ov)]) (fun n H' => H' = H ∧ n ≤ l.length ∧ ∀ j y, j < n → l[j]? = some y → same t ks x y = true) (fun n => l.length - n) 0 rfl
    ⟨rfl, Nat.zero_le _, fun j y h => absurd h (Nat.not_lt_zero _)⟩ (fun n H1 ⟨e, hn, hs⟩ => ?_)
  subst e
  refine sLenO (l.length + 1) hlv (by simp) ?_
  refine sCond (fun h => ?_) (fun h => ?_)
  · have h : n < l.length := by have := of_decide_eq_true h; omega
    have hln : l[n]? = some l[n] := List.getElem?_eq_getElem h
    have hyt := hlt l[n] (List.mem_cons_of_mem _ (List.getElem_mem h))
    have hty : t[l[n]]? = some t[l[n]] := List.getElem?_eq_getElem hyt
    obtain ⟨ya, hya, hyr⟩ := hrg _ _ hty
    have hsm : same t ks x l[n] = (cmpK t[x] t[l[n]] ks == 0) := by
      unfold same; simp only [List.getD_eq_getElem?_getD, htx, hty, Option.getD_some]
    refine sIdxO 0 (nV x) hlv rfl rfl ?_
    refine sLoadL (nV x) rfl ?_
    refine sIdxV x xa hrv rfl hxa (fun p hp => ?_)
    refine sLoadP xa hp (by obtain ⟨q, k, rfl, _⟩ := hxr; rfl) ?_
    refine sIdxO (n + 1) (nV l[n]) hlv rfl (by simp [hln]) ?_
    refine sLoadL (nV l[n]) rfl ?_
    refine sIdxV l[n] ya hrv rfl hya (fun p hp => ?_)
    refine sLoadP ya hp (by obtain ⟨q, k, rfl, _⟩ := hyr; rfl) ?_
    refine sCall0 (hK xa ya kv _ _ ks _ hxr hyr hk (hin _ _ htx) (hin _ _ hty) (by omega)) ?_
    refine sCondT ?_
    refine sCond (fun hb => ?_) (fun hb => ?_)
    · refine sW64n (r := n + 1 + 1) rfl (by omega) ?_
      refine sNext (n + 1) rfl ⟨rfl, by omega, fun j y hj hy => ?_⟩ (by omega)
      by_cases e : j = n
      · subst e; rw [hln] at hy; cases hy; rw [hsm]; exact hb
      · exact hs j y (by omega) hy
    · refine k _ ?_
      rw [show runL t ks x l = n from takeWhile_is _ l n hn hs (.inr ⟨_, hln, by rw [hsm]; exact hb⟩)]
      rfl
  · have h : n = l.length := by have := of_decide_eq_false h; omega
    refine sCondF ?_
    refine sCondF ?_
    refine k _ ?_
    rw [show runL t ks x l = n from takeWhile_is _ l n hn hs (.inl h)]
    rfl

/-- The key of a group. -/
theorem grp_key (H : Heap) (K : Post) (b : Nat) (hbl : H.length ≤ b) (tv cv kv lv ov : AV) (t : List Row) (cols : List Int) (col : Int) (x : Nat) (l : List AV) (n : Nat) (G : Heap) (hG : Old H G) (hb : G[b]? = some (.box [.lst (some true) 0 [], natV n, intV 0, intV 0, .str []]))
    (ht : TabOf H tv t) (hc : view H 1 cv = some (cols.map intV)) (hl : cols.length ≤ 12) (hlv : LstOf lv 1 (nV x :: l)) (hxt : x < t.length) (hin : ∀ c ∈ cols, ∃ j : Nat, c = j ∧ j < t[x].length)
    (k : ∀ v H', Owns H H' v 3 ((keyVals t cols x).map valV) → Old H H' → H'[b]? = some (.box [v, natV n, intV 0, intV 0, .str []]) →
      ∀ fr, restrictF fr [2, 0, 1, 9, 15, 12, 16, 14] = [(2, intV col), (0, tv), (1, cv), (9, kv), (15, natV n), (12, lv), (16, .ref b 0 0 0), (14, ov)] → K (.exit 6) fr H') :
    loopP C GT [85, 16, 12, 0, 83, 2, 1, 9, 15, 14, 84] b_pick_Group_2 K [(85, .int .i64 0), (16, .ref b 0 0 0), (12, lv), (0, tv), (83, cv), (2, intV col), (1, cv), (9, kv), (15, natV n), (14, ov), (84, .int .i64 cols.length)] G := by
  obtain ⟨rows, hrv, hrl, hrg⟩ := ht
  have htx : t[x]? = some t[x] := List.getElem?_eq_getElem hxt
  obtain ⟨xa, hxa, hxr⟩ := hrg x _ htx
  refine sLoop (fun s : SPv => [(85, .int .i64 s.i), (16, .ref b 0 0 0), (12, lv), (0, tv), (83, cv), (2, intV col), (1, cv), (9, kv), (15, natV n), (14, ov), (84, .int .i64 cols.length)])
    (fun s H' => Old H H' ∧ s.i ≤ cols.length ∧ Owns H H' s.v 3 ((keyVals t (cols.take s.i) x).map valV) ∧ H'[b]? = some (.box [s.v, natV n, intV 0, intV 0, .str []])) (fun s => cols.length - s.i) ⟨0, .lst (some true) 0 []⟩ rfl
    ⟨hG, Nat.zero_le _, Owns.nil _ _ _, hb⟩ (fun ⟨i, v⟩ H1 ⟨hO, hi, hown, hb1⟩ => ?_)
  simp only at hi hown hb1
  dsimp only
  refine sCond (fun hlt => ?_) (fun hlt => ?_)
  · have hlt : i < cols.length := by have := of_decide_eq_true hlt; omega
    have hci : cols[i]? = some cols[i] := List.getElem?_eq_getElem hlt
    obtain ⟨j, hj, hjl⟩ := hin cols[i] (List.getElem_mem hlt)
    have hxj : t[x][j]? = some t[x][j] := List.getElem?_eq_getElem hjl
    have hcell : cellAt t cols[i] x = t[x][j] := by
      unfold cellAt; rw [List.getD_eq_getElem?_getD (l := t), htx, hj]; simp [hjl]
    have e : (keyVals t (cols.take (i + 1)) x).map valV = (keyVals t (cols.take i) x).map valV ++ [valV t[x][j]] := by
      rw [List.take_succ_eq_append_getElem hlt]; simp only [keyVals, List.map_append, List.map_cons, List.map_nil, hcell]
    refine sIdxV i (intV cols[i]) (view_old hO hc) rfl (by rw [List.getElem?_map, hci]; rfl) (fun p hp => ?_)
    refine sLoadP (intV cols[i]) hp rfl ?_
    refine sIdxO 0 (nV x) hlv rfl rfl ?_
    refine sLoadL (nV x) rfl ?_
    refine sIdxV x xa (view_old hO hrv) rfl hxa (fun p hp => ?_)
    refine sLoadP xa hp (by obtain ⟨q, k, rfl, _⟩ := hxr; rfl) ?_
    refine sIdxO j (valV t[x][j]) hxr hj (by rw [List.getElem?_map, hxj]; rfl) ?_
    refine sLoadL (valV t[x][j]) rfl ?_
    have fin : ∀ v' H', Owns H H' v' 3 ((keyVals t (cols.take i) x).map valV ++ [valV t[x][j]]) → Old H H' → H'[b]? = some (.box [v, natV n, intV 0, intV 0, .str []]) →
        Old H (H'.set b (.box [v', natV n, intV 0, intV 0, .str []])) ∧ i + 1 ≤ cols.length ∧ Owns H (H'.set b (.box [v', natV n, intV 0, intV 0, .str []])) v' 3 ((keyVals t (cols.take (i + 1)) x).map valV) ∧ (H'.set b (.box [v', natV n, intV 0, intV 0, .str []]))[b]? = some (.box [v', natV n, intV 0, intV 0, .str []]) := by
      intro v' H' h1 h2 h3
      refine ⟨h2.set hbl _, by omega, ?_, set_at h3⟩
      rw [e]
      exact h1.set (h1.ne_box h3) _
    have hll : ((keyVals t (cols.take i) x).map valV).length + [valV t[x][j]].length ≤ 137438953472 := by
      simp only [keyVals, List.length_map, List.length_take, List.length_cons, List.length_nil]; omega
    have hv1 : v.cells = [v] ∧ v.one = true := by rcases hown with ⟨rfl, _⟩ | ⟨b', rfl, _⟩ <;> exact ⟨rfl, rfl⟩
    have hst : ∀ (v' : AV) (H' : Heap), Owns H H' v' 3 ((keyVals t (cols.take i) x).map valV ++ [valV t[x][j]]) → H'[b]? = some (.box [v, natV n, intV 0, intV 0, .str []]) → ∀ K : AV → Heap → Prop, K .undef (H'.set b (.box [v', natV n, intV 0, intV 0, .str []])) → actP (.store 1) [.ref b 0 0 0, v'] H' K := by
      intro v' H' ho h3 K q
      have hv1 : v'.cells = [v'] ∧ v'.one = true := by rcases ho with ⟨rfl, _⟩ | ⟨b', rfl, _⟩ <;> exact ⟨rfl, rfl⟩
      refine sStoreBox h3 (by rw [hv1.1]; rfl) (by rw [hv1.1]; simp [hv1.2]) (by simp) ?_
      rw [hv1.1]; exact q
    refine sAlt ?_ ?_
    · refine sLoadBox v hb1 rfl ?_
      refine sBslice (vs' := [valV t[x][j]]) rfl rfl ?_
      refine sAppend (H0 := H) (hown.push _) (hO.push _) view_new (by omega) hll (by simp) (fun v' H' ho' hO' hblk hfr => ?_)
      have hb2 := hfr b _ (hown.ne_box hb1) (push_old hb1)
      refine hst v' H' ho' hb2 _ ?_
      refine sW64n (r := i + 1) rfl (by omega) ?_
      exact sNext (SPv.mk (i + 1) v') rfl (fin v' H' ho' hO' hb2) (by simp only; omega)
    · refine sBslice (vs' := [valV t[x][j]]) rfl rfl ?_
      refine sLoadBox v (push_old hb1) rfl ?_
      refine sAppend (H0 := H) (hown.push _) (hO.push _) view_new (by omega) hll (by simp) (fun v' H' ho' hO' hblk hfr => ?_)
      have hb2 := hfr b _ (hown.ne_box hb1) (push_old hb1)
      refine hst v' H' ho' hb2 _ ?_
      refine sW64n (r := i + 1) rfl (by omega) ?_
      exact sNext (SPv.mk (i + 1) v') rfl (fin v' H' ho' hO' hb2) (by simp only; omega)
  · have hge : i = cols.length := by have := of_decide_eq_false hlt; omega
    subst hge
    rw [List.take_length] at hown
    exact k v H1 hown hO hb1 _ rfl

/-- What is added up. -/
theorem grp_all (H : Heap) (K : Post) (b : Nat) (tv cv kv lv sv ov : AV) (t : List Row) (col : Int) (l : List Nat) (n : AV)
    (ht : TabOf H tv t) (hsv : LstOf sv 1 (l.map nV)) (hl : l.length ≤ 1000) (hin : ∀ i ∈ l, ∃ (h : i < t.length) (j : Nat), col = j ∧ j < t[i].length)
    (k : ∀ v H', Owns H H' v 3 ((l.map (cellAt t col)).map valV) → Old H H' →
      ∀ fr, restrictF fr [0, 2, 1, 9, 15, 12, 16, 14, 19] = [(0, tv), (2, intV col), (1, cv), (9, kv), (15, n), (12, lv), (16, .ref b 0 0 0), (14, ov), (19, v)] → K (.exit 8) fr H') :
    loopP C GT [108, 2, 0, 19, 106, 1, 9, 15, 12, 16, 14, 107] b_pick_Group_3 K [(108, .int .i64 0), (2, intV col), (0, tv), (19, .lst (some true) 0 []), (106, sv), (1, cv), (9, kv), (15, n), (12, lv), (16, .ref b 0 0 0), (14, ov), (107, .int .i64 l.length)] H := by
  obtain ⟨rows, hrv, hrl, hrg⟩ := ht
  refine sLoop (fun s : SPv => [(108, .int .i64 s.i), (2, intV col), (0, tv), (19, s.v), (106, sv), (1, cv), (9, kv), (15, n), (12, lv), (16, .ref b 0 0 0), (14, ov), (107, .int .i64 l.length)])
    (fun s H' => Old H H' ∧ s.i ≤ l.length ∧ Owns H H' s.v 3 (((l.take s.i).map (cellAt t col)).map valV)) (fun s => l.length - s.i) ⟨0, .lst (some true) 0 []⟩ rfl
    ⟨Old.refl _, Nat.zero_le _, Owns.nil _ _ _⟩ (fun ⟨i, v⟩ H1 ⟨hO, hi, hown⟩ => ?_)
  simp only at hi hown
  dsimp only
  refine sCond (fun hlt => ?_) (fun hlt => ?_)
  · have hlt : i < l.length := by have := of_decide_eq_true hlt; omega
    have hli : l[i]? = some l[i] := List.getElem?_eq_getElem hlt
    obtain ⟨hxt, j, hj, hjl⟩ := hin l[i] (List.getElem_mem hlt)
    have htx : t[l[i]]? = some t[l[i]] := List.getElem?_eq_getElem hxt
    obtain ⟨xa, hxa, hxr⟩ := hrg _ _ htx
    have hxj : t[l[i]][j]? = some t[l[i]][j] := List.getElem?_eq_getElem hjl
    have hcell : cellAt t col l[i] = t[l[i]][j] := by
      unfold cellAt; rw [List.getD_eq_getElem?_getD (l := t), htx, hj]; simp [hjl]
    have e : ((l.take (i + 1)).map (cellAt t col)).map valV = ((l.take i).map (cellAt t col)).map valV ++ [valV t[l[i]][j]] := by
      rw [List.take_succ_eq_append_getElem hlt]; simp only [List.map_append, List.map_cons, List.map_nil, hcell]
    refine sIdxO i (nV l[i]) hsv rfl (by rw [List.getElem?_map, hli]; rfl) ?_
    refine sLoadL (nV l[i]) rfl ?_
    refine sIdxV l[i] xa (view_old hO hrv) rfl hxa (fun p hp => ?_)
    refine sLoadP xa hp (by obtain ⟨q, k, rfl, _⟩ := hxr; rfl) ?_
    refine sIdxO j (valV t[l[i]][j]) hxr hj (by rw [List.getElem?_map, hxj]; rfl) ?_
    refine sLoadL (valV t[l[i]][j]) rfl ?_
    refine sBslice (vs' := [valV t[l[i]][j]]) rfl rfl ?_
    refine sAppend (H0 := H) (hown.push _) (hO.push _) view_new (by omega) ?_ (by simp) (fun v' H' ho' hO' hblk hfr => ?_)
    · simp only [List.length_map, List.length_take, List.length_cons, List.length_nil]; omega
    refine sW64n (r := i + 1) rfl (by omega) ?_
    refine sNext (SPv.mk (i + 1) v') rfl ⟨hO', by simp only; omega, ?_⟩ (by simp only; omega)
    simp only [e]
    exact ho'
  · have hge : i = l.length := by have := of_decide_eq_false hlt; omega
    subst hge
    rw [List.take_length] at hown
    exact k v H1 hown hO _ rfl
end
end Go.AM
