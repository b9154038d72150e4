/- The contracts of sort.Sort, sort.Sorted and what is under them. Own work. -/
import Derived.Test.YtaijlknbeapnhaaDoorCmp
import Derived.Test.YtaijlknbeapnhaaDoorStw
set_option linter.all false
namespace Go.AM

def colsOf (ks : List Key) : List Int := ks.map Key.col
def rowLt (t : List Row) (ks : List Key) : Nat → Nat → Bool := ltOf (rowC t ks)
theorem rowLt_ok (t : List Row) (ks : List Key) : LtOK (rowLt t ks) := ltOK_of (rowC_fn t ks)
def sortL (t : List Row) (ks : List Key) : List Nat := srtL (rowLt t ks) t.length
def sortV (t : List Row) (ks : List Key) : AV :=
  if colErr t (colsOf ks) ≠ 0 then .tup [.lst (some true) 0 [], errN (colErr t (colsOf ks))] else .tup [lstF 1 ((sortL t ks).map nV), .nili]

section
variable {C : CSpec} {GT : Nat → Option AV}

structure SC where
  i : Nat
  v : AV

theorem columnsK_ev (hCols : ∀ tv cv t cols H, TabOf H tv t → view H 1 cv = some (cols.map intV) → C f_sort_Columns [tv, cv] H (errN (colErr t cols)) H)
    (tv kv : AV) (t : List Row) (ks : List Key) (H : Heap) (ht : TabOf H tv t) (hk : view H 2 kv = some (ks.map keyV)) (hl : ks.length ≤ 8796093022208) : EFun C GT a_sort_columns [tv, kv] H (errN (colErr t (colsOf ks))) H := by
  refine sLenN ks.length hk (by simp) ?_
  refine sLoop (fun s : SC => [(10, .int .i64 s.i), (5, s.v), (8, kv), (0, tv), (9, .int .i64 ks.length)]) (fun s H' => Old H H' ∧ s.i ≤ ks.length ∧ Owns H H' s.v 1 ((colsOf (ks.take s.i)).map intV)) (fun s => ks.length - s.i) ⟨0, .lst (some true) 0 []⟩ rfl
    ⟨Old.refl _, Nat.zero_le _, Owns.nil _ _ _⟩ (fun ⟨i, v⟩ H1 ⟨hO, hi, hown⟩ => ?_)
  simp only at hi hown
  dsimp only
  refine sCond (fun hlt => ?_) (fun hlt => ?_)
  · simp only [decide_eq_true_eq, Int.ofNat_lt] at hlt
    have hki : ks[i]? = some ks[i] := List.getElem?_eq_getElem hlt
    refine sIdxV i (keyV ks[i]) (view_old hO hk) rfl (by rw [List.getElem?_map, hki]; rfl) (fun p hp => ?_)
    refine sLoadP (keyV ks[i]) hp rfl ?_
    refine sStoreBox push_last rfl rfl (by simp) ?_
    refine sLoadBox (intV ks[i].col) (set_at push_last) rfl ?_
    refine sBslice (vs' := [intV ks[i].col]) rfl rfl ?_
    refine sAppendW (H0 := H) ((hown.pushSet _ _).push _) ((hO.pushSet _ _).push _) view_new ?_ ?_ (by simp) (fun v' H' ho' hO' hblk hfr => ?_)
    · simp only [colsOf, List.length_map, List.length_take, List.length_cons, List.length_nil]; omega
    · simp only [colsOf, List.length_map, List.length_take, List.length_cons, List.length_nil]; omega
    refine sW64n (r := i + 1) rfl (by omega) ?_
    refine sNext (SC.mk (i + 1) v') rfl ⟨hO', by simp only; omega, ?_⟩ (by simp only; omega)
    have e : (colsOf (ks.take (i + 1))).map intV = (colsOf (ks.take i)).map intV ++ [intV ks[i].col] := by
      rw [List.take_succ_eq_append_getElem hlt]; simp only [colsOf, List.map_append, List.map_cons, List.map_nil]
    simp only [e]
    exact ho'
  simp only [decide_eq_false_iff_not, Int.ofNat_lt] at hlt
  have ei : i = ks.length := by omega
  subst ei
  rw [List.take_length] at hown
  refine sCall0 (hCols tv v t (colsOf ks) H1 (ht.old hO) hown.view) ?_
  cases he : colErr t (colsOf ks) with
  | zero => exact sRetV rfl rfl rfl rfl hO
  | succ n => exact sRetV rfl rfl rfl rfl hO

theorem sortC_ev (hK : ∀ xa xb kv (a b : Row) ks H, RowOf xa a → RowOf xb b → view H 2 kv = some (ks.map keyV) → (∀ k ∈ ks, KeyIn a k) → (∀ k ∈ ks, KeyIn b k) → ks.length ≤ 1000000000000 → C f_sort_Compare [xa, xb, kv] H (intV (cmpK a b ks)) H)
    (x y : Nat) (t : List Row) (ks : List Key) (tv kv : AV) (H : Heap) (bt bk : Nat) (hbt : H[bt]? = some (.box [tv])) (hbk : H[bk]? = some (.box [kv])) (ht : TabOf H tv t) (hkv : view H 2 kv = some (ks.map keyV)) (hx : x < t.length) (hy : y < t.length)
    (hin : ∀ (i : Nat) (r : Row), t[i]? = some r → ∀ k ∈ ks, KeyIn r k) (hl : ks.length ≤ 1000000000000) : EFun C GT a_sort_Sort_c1 [nV x, nV y, .ref bt 0 0 0, .ref bk 0 0 0] H (intV (rowC t ks x y)) H := by
  obtain ⟨rows, hv, _, hrow⟩ := ht
  have hxe : t[x]? = some t[x] := List.getElem?_eq_getElem hx
  have hye : t[y]? = some t[y] := List.getElem?_eq_getElem hy
  obtain ⟨xa, hxa, hra⟩ := hrow x _ hxe
  obtain ⟨xb, hxb, hrb⟩ := hrow y _ hye
  refine sLoadBox tv hbt rfl ?_
  refine sIdxV x xa hv rfl hxa (fun p hp => ?_)
  refine sLoadP xa hp (by rw [hra.cells]; rfl) ?_
  refine sLoadBox tv hbt rfl ?_
  refine sIdxV y xb hv rfl hxb (fun p2 hp2 => ?_)
  refine sLoadP xb hp2 (by rw [hrb.cells]; rfl) ?_
  refine sLoadBox kv hbk rfl ?_
  refine sCall0 (hK xa xb kv t[x] t[y] ks H hra hrb hkv (hin _ _ hxe) (hin _ _ hye) hl) ?_
  have e : rowC t ks x y = cmpK t[x] t[y] ks := by unfold rowC; simp [List.getD_eq_getElem?_getD, hxe, hye]
  rw [e]
  exact sRetV rfl rfl rfl rfl (Old.refl _)

/-- What the sort is. -/
structure SortEnv (C : CSpec) : Prop where
  nil : ∀ v fv H, view H 1 v = some [] → C f_slices_SortStableFunc___int_int_ [v, fv] H (.tup []) H
  srt : ∀ (G : Heap) (b n : Nat) (q : Option Bool) (g : FuncId) (caps : List AV) (cmp : Nat → Nat → Int), LtOK (ltOf cmp) → b < G.length → n ≤ 1099511627776 → CmpOK C G b n g caps cmp →
    ∃ f, PermOn (fun i => i) f 0 n ∧ SrtOn (ltOf cmp) f 0 n ∧ C f_slices_SortStableFunc___int_int_ [.sl q b 1 0 n, .fn g [] caps] (hpR G b n fun i => i) (.tup []) (hpR G b n f)

theorem range_rI (n : Nat) : (List.range n).map nV = rI n fun i => i := rfl
theorem rI_map (n : Nat) (f : Nat → Nat) : rI n f = ((List.range n).map f).map nV := by unfold rI rowF; rw [List.map_map]; rfl

theorem view_set {H : Heap} {k b : Nat} {v : AV} {xs : List AV} {x : ABlk} (h : view H k v = some xs) (hb : v.blk ≠ some b) : view (H.set b x) k v = some xs := by
  unfold view at h ⊢
  split at h
  · exact h
  · rename_i b' _ _ _
    have hne : b ≠ b' := fun e => hb (by rw [e]; rfl)
    split at h
    · rename_i hk
      rw [if_pos hk]
      rw [List.getElem?_set_ne hne]
      exact h
    · cases h
  · cases h
theorem TabOf.set {H : Heap} {tv : AV} {t : List Row} {b : Nat} {x : ABlk} (h : TabOf H tv t) (hb : tv.blk ≠ some b) : TabOf (H.set b x) tv t := by
  obtain ⟨rows, h1, h2⟩ := h
  exact ⟨rows, view_set h1 hb, h2⟩
theorem view_blk {H : Heap} {k b : Nat} {v : AV} {xs : List AV} (h : view H k v = some xs) (hb : v.blk = some b) : b < H.length := by
  unfold view at h
  split at h
  · cases hb
  · rename_i b' _ _ _
    simp only [AV.blk, Option.some.injEq] at hb
    subst hb
    split at h
    · split at h
      · rename_i e; exact (List.getElem?_eq_some_iff.1 e).1
      · rename_i e; exact (List.getElem?_eq_some_iff.1 e).1
      · cases h
    · cases h
  · cases h

theorem frz_pair {n : Nat} {a a' : AV} {H H' : Heap} (h : frzV n a H = some (a', H')) : frzV n (.tup [a, .nili]) H = some (.tup [a', .nili], H') := by simp only [frzV, frzL, h]

theorem sort_ev (hE : SortEnv C) (hCols : ∀ tv kv t ks H, TabOf H tv t → view H 2 kv = some (ks.map keyV) → ks.length ≤ 8796093022208 → C f_sort_columns [tv, kv] H (errN (colErr t (colsOf ks))) H)
    (hClos : ∀ (x y : Nat) (t : List Row) (ks : List Key) (tv kv : AV) (H : Heap) (bt bk : Nat), H[bt]? = some (.box [tv]) → H[bk]? = some (.box [kv]) → TabOf H tv t → view H 2 kv = some (ks.map keyV) → x < t.length → y < t.length →
      (∀ (i : Nat) (r : Row), t[i]? = some r → ∀ k ∈ ks, KeyIn r k) → ks.length ≤ 1000000000000 → C f_sort_Sort_c1 [nV x, nV y, .ref bt 0 0 0, .ref bk 0 0 0] H (intV (rowC t ks x y)) H)
    (tv kv : AV) (t : List Row) (ks : List Key) (H : Heap) (ht : TabOf H tv t) (hk : view H 2 kv = some (ks.map keyV)) (hl : ks.length ≤ 8796093022208) : EFun C GT a_sort_Sort [tv, kv] H (sortV t ks) H := by
  have ht' := ht
  obtain ⟨rows, hv, hlen, hr⟩ := ht
  refine sBox1 (view_one hv) ?_
  refine sBox1 (view_one hk) ?_
  have hO1 : Old H ((H ++ [ABlk.box [tv]]) ++ [ABlk.box [kv]]) := ((Old.refl H).push _).push _
  have hbt : ((H ++ [ABlk.box [tv]]) ++ [ABlk.box [kv]])[H.length]? = some (.box [tv]) := push_old push_last
  have hbk : ((H ++ [ABlk.box [tv]]) ++ [ABlk.box [kv]])[(H ++ [ABlk.box [tv]]).length]? = some (.box [kv]) := push_last
  have hl1 : H.length < ((H ++ [ABlk.box [tv]]) ++ [ABlk.box [kv]]).length := by simp
  have hl2 : (H ++ [ABlk.box [tv]]).length < ((H ++ [ABlk.box [tv]]) ++ [ABlk.box [kv]]).length := by simp
  refine sLoadBox tv hbt rfl ?_
  refine sLoadBox kv hbk rfl ?_
  have hcol := hCols tv kv t ks _ (ht'.old hO1) (view_old hO1 hk) hl
  cases he : colErr t (colsOf ks) with
  | succ n =>
    rw [he] at hcol
    have e : sortV t ks = .tup [.lst (some true) 0 [], errV (n + 1 : Nat)] := by unfold sortV; rw [if_pos (by omega), he]; rfl
    rw [e]
    refine sCall0 hcol ?_
    refine sOpt rfl ?_
    refine sCondT ?_
    exact sRetV rfl rfl rfl rfl hO1
  | zero =>
  rw [he] at hcol
  have e : sortV t ks = .tup [lstF 1 ((sortL t ks).map nV), .nili] := by unfold sortV; rw [if_neg (by omega)]
  rw [e]
  obtain ⟨h60, h12, hwide, hin⟩ := tab_ok he
  have hk12 : ks.length ≤ 12 := by unfold colsOf at h12; rw [List.length_map] at h12; exact h12
  have hkin : ∀ (j : Nat) (r : Row), t[j]? = some r → ∀ k ∈ ks, KeyIn r k := fun j r hj k hk => hin j r hj k.col (List.mem_map.2 ⟨k, hk, rfl⟩)
  refine sCall0 hcol ?_
  refine sOpt rfl ?_
  refine sCondF ?_
  refine sLoadBox tv hbt rfl ?_
  refine sLenN t.length hv hlen ?_
  refine sLoop (fun s : SC => [(17, .int .i64 s.i), (7, s.v), (2, .ref H.length 0 0 0), (3, .ref (H ++ [ABlk.box [tv]]).length 0 0 0), (16, .int .i64 t.length)])
    (fun s H' => Old ((H ++ [ABlk.box [tv]]) ++ [ABlk.box [kv]]) H' ∧ s.i ≤ t.length ∧ Owns ((H ++ [ABlk.box [tv]]) ++ [ABlk.box [kv]]) H' s.v 1 ((List.range s.i).map nV)) (fun s => t.length - s.i) ⟨0, .lst (some true) 0 []⟩ rfl
    ⟨Old.refl _, Nat.zero_le _, Owns.nil _ _ _⟩ (fun ⟨i, v⟩ H1 ⟨hO, hi, hown⟩ => ?_)
  simp only at hi hown
  dsimp only
  refine sCond (fun hlt => ?_) (fun hlt => ?_)
  · simp only [decide_eq_true_eq, Int.ofNat_lt] at hlt
    refine sBslice (vs' := [nV i]) rfl rfl ?_
    refine sAppend (H0 := (H ++ [ABlk.box [tv]]) ++ [ABlk.box [kv]]) (hown.push _) (hO.push _) view_new (by omega) ?_ (by simp) (fun v' H' ho' hO' hblk hfr => ?_)
    · simp only [List.length_map, List.length_range, List.length_cons, List.length_nil]; omega
    refine sW64n (r := i + 1) rfl (by omega) ?_
    refine sNext (SC.mk (i + 1) v') rfl ⟨hO', by simp only; omega, ?_⟩ (by simp only; omega)
    simp only [List.range_succ, List.map_append]
    exact ho'
  simp only [decide_eq_false_iff_not, Int.ofNat_lt] at hlt
  have ei : i = t.length := by omega
  subst ei
  have ek : sortL t ks = srtL (rowLt t ks) t.length := rfl
  by_cases h0 : t.length = 0
  · have e0 : sortL t ks = [] := by rw [ek, h0]; rfl
    rw [e0]
    have hv0 : view H1 1 v = some [] := by have := hown.view; rw [h0] at this; exact this
    refine sCall0 (hE.nil v _ H1 hv0) ?_
    have ev : v = .lst (some true) 0 [] := by
      rcases hown with ⟨h, _⟩ | ⟨b, _, _, _, h⟩
      · exact h
      · rw [h0] at h; exact absurd rfl h
    subst ev
    exact sRetV rfl rfl rfl rfl (hO1.trans hO)
  · rcases hown with ⟨_, h⟩ | ⟨b, hve, hb1, hb2, _⟩
    · exact absurd (by have := congrArg List.length h; simpa using this) h0
    have hblen : b < H1.length := (List.getElem?_eq_some_iff.1 hb2).1
    simp only [List.length_map, List.length_range] at hve
    have eh : H1 = hpR H1 b t.length fun i => i := by
      unfold hpR
      rw [← range_rI]
      apply List.ext_getElem?
      intro c
      by_cases ec : b = c
      · subst ec; rw [List.getElem?_set_self hblen, hb2]
      · rw [List.getElem?_set_ne ec]
    have htb : tv.blk ≠ some b := fun e => by have := view_blk hv e; omega
    have hkb : kv.blk ≠ some b := fun e => by have := view_blk hk e; omega
    have hcmp : CmpOK C H1 b t.length f_sort_Sort_c1 [.ref H.length 0 0 0, .ref (H ++ [ABlk.box [tv]]).length 0 0 0] (rowC t ks) := fun f x y hx hy =>
      hClos x y t ks tv kv (hpR H1 b t.length f) H.length (H ++ [ABlk.box [tv]]).length (set_other (by omega) (old_get hO hbt)) (set_other (by omega) (old_get hO hbk)) ((ht'.old (hO1.trans hO)).set htb) (view_set (view_old (hO1.trans hO) hk) hkb) hx hy hkin (by omega)
    obtain ⟨f, hp, hs, hC⟩ := hE.srt H1 b t.length (some true) f_sort_Sort_c1 [.ref H.length 0 0 0, .ref (H ++ [ABlk.box [tv]]).length 0 0 0] (rowC t ks) (rowLt_ok t ks) hblen (by omega) hcmp
    rw [← eh] at hC
    subst hve
    refine sCall hC (fun h => by cases h) ?_
    have eL : rI t.length f = (sortL t ks).map nV := by rw [rI_map, srt_is (rowLt_ok t ks) hp hs]; rfl
    have hO2 : Old H (hpR H1 b t.length f) := (hO1.trans hO).set (by have := hb1; simp at this; omega) _
    have hown2 : Owns H (hpR H1 b t.length f) (.sl (some true) b 1 0 t.length) 1 ((sortL t ks).map nV) := by
      refine .inr ⟨b, ?_, by have := hb1; simp at this; omega, by rw [← eL]; exact hpR_get hblen, ?_⟩
      · rw [← eL, rI_len]
      · rw [← eL]
        intro h
        have := congrArg List.length h
        rw [rI_len] at this
        simp at this
        exact h0 (by simpa using this)
    obtain ⟨H', hf, hO', _⟩ := hown2.frz hO2
    refine sRetF (v0 := .tup [.sl (some true) b 1 0 t.length, .nili]) rfl rfl (frz_pair hf) ?_ hO'
    simp [AV.bel, AV.belL, lstF_bel]
end

theorem insL_last {lt : Nat → Nat → Bool} (h : ∀ x y, lt x y = false) (x : Nat) : ∀ l, insL lt x l = l ++ [x]
  | [] => rfl
  | y :: l => by
    unfold insL
    rw [if_neg (by rw [h]; simp), insL_last h x l]; rfl
theorem sortL_nil (t : List Row) : sortL t [] = List.range t.length := by
  have h : ∀ x y, rowLt t [] x y = false := fun x y => rfl
  have : ∀ n, srtL (rowLt t []) n = List.range n := fun n => by
    induction n with
    | zero => rfl
    | succ n ih => rw [srtL, insL_last h, ih, List.range_succ]
  exact this _

/-- What is known of a sorted list. -/
structure SortedOK (t : List Row) (ks : List Key) (l : List Nat) : Prop where
  len : l.length = t.length
  lt : ∀ (i : Nat) (x : Nat), l[i]? = some x → x < t.length
  once : ∀ (i : Nat) (x : Nat), l[i]? = some x → x ∉ l.take i
  bef : ∀ (i : Nat) (x y : Nat), l[i]? = some x → l[i + 1]? = some y → Bef (rowLt t ks) x y
theorem sortL_ok (t : List Row) (ks : List Key) : SortedOK t ks (sortL t ks) := by
  have hp : (sortL t ks).Perm (List.range t.length) := srtL_perm (rowLt t ks) t.length
  have hs : (sortL t ks).Pairwise (Bef (rowLt t ks)) := srtL_sorted (rowLt_ok t ks) t.length
  refine ⟨srtL_len _ _, fun i x h => ?_, fun i x h hm => ?_, fun i x y h1 h2 => ?_⟩
  · exact List.mem_range.1 (hp.mem_iff.1 (List.mem_of_getElem? h))
  · obtain ⟨j, hj⟩ := List.getElem?_of_mem hm
    have hji : j < i := by
      have := (List.getElem?_eq_some_iff.1 hj).1
      rw [List.length_take] at this; omega
    rw [List.getElem?_take, if_pos hji] at hj
    obtain ⟨a1, a2⟩ := List.getElem?_eq_some_iff.1 h
    obtain ⟨b1, b2⟩ := List.getElem?_eq_some_iff.1 hj
    have := List.pairwise_iff_getElem.1 hs j i b1 a1 hji
    refine Bef.ne (rowLt_ok t ks) this ?_
    rw [b2, a2]
  · obtain ⟨a1, a2⟩ := List.getElem?_eq_some_iff.1 h1
    obtain ⟨b1, b2⟩ := List.getElem?_eq_some_iff.1 h2
    have := List.pairwise_iff_getElem.1 hs i (i + 1) a1 b1 (by omega)
    rw [a2, b2] at this
    exact this
end Go.AM
