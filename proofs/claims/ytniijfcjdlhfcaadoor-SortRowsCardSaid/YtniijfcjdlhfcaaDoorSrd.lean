/- The contract of sort.Distinct. Own work. -/
import Derived.Test.YtniijfcjdlhfcaaDoorSrt
set_option linter.all false
namespace Go.AM

def keysOf (cols : List Int) : List Key := cols.map fun c => ⟨c, false⟩
def same (t : List Row) (ks : List Key) (k i : Nat) : Bool := cmpK (t.getD k []) (t.getD i []) ks == 0
def ids (t : List Row) (ks : List Key) : Nat → List Nat
  | 0 => []
  | i + 1 => if ((ids t ks i).any fun k => same t ks k i) = true then ids t ks i else ids t ks i ++ [i]
def natV (k : Nat) : AV := .int .i64 k
def distV (t : List Row) (cols : List Int) : AV :=
  if colErr t cols ≠ 0 then .tup [.lst (some true) 0 [], errN (colErr t cols)] else .tup [lstF 1 ((ids t (keysOf cols) t.length).map natV), .nili]

theorem ids_lt (t : List Row) (ks : List Key) : ∀ i, ∀ k ∈ ids t ks i, k < i
  | 0, k, h => by simp [ids] at h
  | i + 1, k, h => by
    unfold ids at h
    split at h
    · have := ids_lt t ks i k h; omega
    · rcases List.mem_append.1 h with h | h
      · have := ids_lt t ks i k h; omega
      · simp at h; omega
theorem ids_len (t : List Row) (ks : List Key) : ∀ i, (ids t ks i).length ≤ i
  | 0 => Nat.le_refl _
  | i + 1 => by
    have := ids_len t ks i
    unfold ids
    split
    · omega
    · simp; omega

/-- What a table and columns without fault are like. -/
theorem tab_ok {t : List Row} {cols : List Int} (h : colErr t cols = 0) : t.length ≤ 60 ∧ cols.length ≤ 12 ∧ (∀ (i : Nat) (r : Row), t[i]? = some r → r.length = wideT t ∧ r.length ≤ 12) ∧ (∀ (i : Nat) (r : Row), t[i]? = some r → ∀ c ∈ cols, 0 ≤ c ∧ c < (r.length : Int)) := by
  unfold colErr at h
  split at h
  · omega
  rename_i h1
  have h1 : tabErr t = 0 := by omega
  split at h
  · omega
  rename_i h2
  split at h
  · omega
  rename_i h3
  unfold tabErr at h1
  split at h1
  · omega
  rename_i h4
  split at h1
  · omega
  rename_i h5
  split at h1
  · omega
  rename_i h6
  have w : ∀ (i : Nat) (r : Row), t[i]? = some r → r.length = wideT t ∧ r.length ≤ 12 := by
    intro i r hr
    have hm := List.mem_of_getElem? hr
    simp only [List.any_eq_true, decide_eq_true_eq, not_exists, not_and, bne_iff_ne, ne_eq, Classical.not_not] at h5 h6
    refine ⟨?_, by have := h5 r hm; omega⟩
    rw [h6 r hm]
    cases t with
    | nil => simp at hm
    | cons a t => rfl
  refine ⟨by omega, by omega, w, fun i r hr c hc => ?_⟩
  simp only [List.any_eq_true, Bool.not_eq_true', not_exists, not_and, Bool.not_eq_false] at h3
  have := h3 c hc
  simp only [colOK, Bool.and_eq_true, decide_eq_true_eq] at this
  rw [(w i r hr).1]
  omega

section
variable {C : CSpec} {GT : Nat → Option AV}

theorem RowOf.one {x : AV} {r : Row} (h : RowOf x r) : x.cells = [x] ∧ x.one = true := by obtain ⟨q, k, rfl, _⟩ := h; exact ⟨rfl, rfl⟩

theorem closure_ev (hK : ∀ xa xb kv (a b : Row) ks H, RowOf xa a → RowOf xb b → view H 2 kv = some (ks.map keyV) → (∀ k ∈ ks, KeyIn a k) → (∀ k ∈ ks, KeyIn b k) → ks.length ≤ 1000000000000 → C f_sort_Compare [xa, xb, kv] H (intV (cmpK a b ks)) H)
    (k : Nat) (t : List Row) (a r : Row) (ks : List Key) (tv rx kv : AV) (H : Heap) (bt br bk : Nat) (hbt : H[bt]? = some (.box [tv])) (hbr : H[br]? = some (.box [rx])) (hbk : H[bk]? = some (.box [kv]))
    (ht : TabOf H tv t) (hr : RowOf rx r) (hkv : view H 2 kv = some (ks.map keyV)) (hka : t[k]? = some a) (hia : ∀ k ∈ ks, KeyIn a k) (hib : ∀ k ∈ ks, KeyIn r k) (hl : ks.length ≤ 1000000000000) :
    EFun C GT a_sort_Distinct_c1 [intV k, .ref bt 0 0 0, .ref br 0 0 0, .ref bk 0 0 0] H (.bool (cmpK a r ks == 0)) H := by
  obtain ⟨rows, hv, _, hrow⟩ := ht
  obtain ⟨x, hx, hxa⟩ := hrow k a hka
  refine sLoadBox tv hbt rfl ?_
  refine sIdxV k x hv rfl hx (fun p hp => ?_)
  refine sLoadP x hp (by rw [hxa.cells]; rfl) ?_
  refine sLoadBox rx hbr rfl ?_
  refine sLoadBox kv hbk rfl ?_
  refine sCall0 (hK x rx kv a r ks H hxa hr hkv hia hib hl) ?_
  exact sRetV rfl rfl rfl rfl (Old.refl _)

structure SD where
  i : Nat
  v : AV

theorem distinct_ev (hCols : ∀ tv cv t cols H, TabOf H tv t → view H 1 cv = some (cols.map intV) → C f_sort_Columns [tv, cv] H (errN (colErr t cols)) H)
    (hCont : ∀ v (xs : List Int) p f first caps H, view H 1 v = some (xs.map intV) → xs.length ≤ 1000000000000 → (∀ x ∈ xs, C f (first ++ [intV x] ++ caps) H (.bool (p x)) H) → C f_slices_ContainsFunc___int_int_ [v, .fn f first caps] H (.bool (xs.any p)) H)
    (hClos : ∀ (k : Nat) (t : List Row) (a r : Row) (ks : List Key) (tv rx kv : AV) (H : Heap) (bt br bk : Nat), H[bt]? = some (.box [tv]) → H[br]? = some (.box [rx]) → H[bk]? = some (.box [kv]) → TabOf H tv t → RowOf rx r → view H 2 kv = some (ks.map keyV) →
      t[k]? = some a → (∀ k ∈ ks, KeyIn a k) → (∀ k ∈ ks, KeyIn r k) → ks.length ≤ 1000000000000 → C f_sort_Distinct_c1 [intV k, .ref bt 0 0 0, .ref br 0 0 0, .ref bk 0 0 0] H (.bool (cmpK a r ks == 0)) H)
    (tv cv : AV) (t : List Row) (cols : List Int) (H : Heap) (ht : TabOf H tv t) (hc : view H 1 cv = some (cols.map intV)) : EFun C GT a_sort_Distinct [tv, cv] H (distV t cols) H := by
  have ht' := ht
  obtain ⟨rows, hv, hl, hr⟩ := ht
  refine sBox1 (view_one hv) ?_
  have hO1 : Old H (H ++ [ABlk.box [tv]]) := (Old.refl H).push _
  refine sLoadBox tv push_last rfl ?_
  have hcol := hCols tv cv t cols _ (ht'.old hO1) (view_old hO1 hc)
  cases he : colErr t cols with
  | succ n =>
    rw [he] at hcol
    have e : distV t cols = .tup [.lst (some true) 0 [], errV (n + 1 : Nat)] := by unfold distV; rw [if_pos (by omega), he]; rfl
    rw [e]
    refine sCall0 hcol ?_
    refine sOpt rfl ?_
    refine sCondT ?_
    exact sRetV rfl rfl rfl rfl hO1
  | zero =>
  rw [he] at hcol
  obtain ⟨h60, h12, hwide, hin⟩ := tab_ok he
  refine sCall0 hcol ?_
  refine sOpt rfl ?_
  refine sCondF ?_
  refine sLenN cols.length hc (by simp) ?_
  have hbt1 : H.length < (H ++ [ABlk.box [tv]]).length := by simp
  refine sLoop (fun s : SD => [(21, .int .i64 s.i), (7, .ref (H ++ [ABlk.box [tv]]).length 0 0 0), (19, cv), (2, .ref H.length 0 0 0), (20, .int .i64 cols.length)])
    (fun s H' => Old H H' ∧ s.i ≤ cols.length ∧ H'[H.length]? = some (.box [tv]) ∧ H'[(H ++ [ABlk.box [tv]]).length]? = some (.box [s.v]) ∧ Owns H H' s.v 2 ((keysOf (cols.take s.i)).map keyV)) (fun s => cols.length - s.i) ⟨0, .lst (some true) 0 []⟩ rfl
    ⟨hO1.push _, Nat.zero_le _, push_old push_last, push_last, Owns.nil _ _ _⟩ (fun ⟨i, v⟩ H1 ⟨hO, hi, hbt, hbv, hown⟩ => ?_)
  simp only at hi hbv hown
  dsimp only
  refine sCond (fun hlt => ?_) (fun hlt => ?_)
  · simp only [decide_eq_true_eq, Int.ofNat_lt] at hlt
    have hci : cols[i]? = some cols[i] := List.getElem?_eq_getElem hlt
    refine sIdxV i (intV cols[i]) (view_old hO hc) rfl (by rw [List.getElem?_map, hci]; rfl) (fun p hp => ?_)
    refine sLoadP (intV cols[i]) hp rfl ?_
    refine sLoadBox v hbv rfl ?_
    refine sOpt rfl ?_
    refine sBslice (vs' := [keyV ⟨cols[i], false⟩]) rfl rfl ?_
    refine sAppend (H0 := H) (hown.push _) (hO.push _) view_new (by omega) ?_ (by simp) (fun v' H' ho' hO' hblk hfr => ?_)
    · simp only [keysOf, List.length_map, List.length_take, List.length_cons, List.length_nil]; omega
    have hne := (hown.push (.row 2 [keyV ⟨cols[i], false⟩])).ne_box (push_old hbv)
    have hbv' := hfr _ _ hne (push_old hbv)
    have hbt' := hfr _ _ ((hown.push (.row 2 [keyV ⟨cols[i], false⟩])).ne_box (push_old hbt)) (push_old hbt)
    refine sStoreBox1 hbv' (view_one ho'.view) ?_
    refine sW64n (r := i + 1) rfl (by omega) ?_
    refine sNext (SD.mk (i + 1) v') rfl ⟨hO'.set (by omega) _, by simp only; omega, set_other (by omega) hbt', set_at hbv', ?_⟩ (by simp only; omega)
    have e : (keysOf (cols.take (i + 1))).map keyV = (keysOf (cols.take i)).map keyV ++ [keyV ⟨cols[i], false⟩] := by
      rw [List.take_succ_eq_append_getElem hlt]; simp only [keysOf, List.map_append, List.map_cons, List.map_nil]
    simp only [e]
    exact ho'.set (ho'.ne_box hbv') _
  simp only [decide_eq_false_iff_not, Int.ofNat_lt] at hlt
  have ei : i = cols.length := by omega
  subst ei
  rw [List.take_length] at hown
  have hkl : (keysOf cols).length ≤ 1000000000000 := by simp only [keysOf, List.length_map]; omega
  have hkin : ∀ (j : Nat) (r : Row), t[j]? = some r → ∀ k ∈ keysOf cols, KeyIn r k := fun j r hj k hk => by
    obtain ⟨c, hc', rfl⟩ := List.mem_map.1 hk
    exact hin j r hj c hc'
  generalize hks : keysOf cols = ks at *
  refine sLoadBox tv hbt rfl ?_
  refine sLenN t.length hv hl ?_
  refine sLoop (fun s : SD => [(33, .int .i64 s.i), (10, s.v), (2, .ref H.length 0 0 0), (7, .ref (H ++ [ABlk.box [tv]]).length 0 0 0), (31, tv), (32, .int .i64 t.length)])
    (fun s H' => Old H1 H' ∧ s.i ≤ t.length ∧ Owns H1 H' s.v 1 ((ids t ks s.i).map natV)) (fun s => t.length - s.i) ⟨0, .lst (some true) 0 []⟩ rfl
    ⟨Old.refl _, Nat.zero_le _, Owns.nil _ _ _⟩ (fun ⟨i, out⟩ H2 ⟨hO2, hi2, hout⟩ => ?_)
  simp only at hi2 hout
  dsimp only
  refine sCond (fun hlt => ?_) (fun hlt => ?_)
  · simp only [decide_eq_true_eq, Int.ofNat_lt] at hlt
    have hti : t[i]? = some t[i] := List.getElem?_eq_getElem hlt
    obtain ⟨x, hx, hxr⟩ := hr i _ hti
    refine sIdxV i x (view_old (hO.trans hO2) hv) rfl hx (fun p hp => ?_)
    refine sLoadP x hp (by rw [hxr.cells]; rfl) ?_
    refine sStoreBox1 push_last hxr.one ?_
    have hO3 : Old H1 ((H2 ++ [ABlk.box [.lst (some true) 0 []]]).set H2.length (.box [x])) := hO2.pushSet _ _
    have hout3 : Owns H1 ((H2 ++ [ABlk.box [.lst (some true) 0 []]]).set H2.length (.box [x])) out 1 ((ids t ks i).map natV) := hout.pushSet _ _
    have hbr : ((H2 ++ [ABlk.box [.lst (some true) 0 []]]).set H2.length (.box [x]))[H2.length]? = some (.box [x]) := set_at push_last
    have hmap : (ids t ks i).map natV = ((ids t ks i).map fun k : Nat => (k : Int)).map intV := by rw [List.map_map]; rfl
    have hcall := hCont out ((ids t ks i).map fun k : Nat => (k : Int)) (fun z => same t ks z.toNat i) f_sort_Distinct_c1 [] [.ref H.length 0 0 0, .ref H2.length 0 0 0, .ref (H ++ [ABlk.box [tv]]).length 0 0 0] ((H2 ++ [ABlk.box [.lst (some true) 0 []]]).set H2.length (.box [x]))
      (by rw [← hmap]; exact hout3.view) (by have := ids_len t ks i; simp only [List.length_map]; omega) (fun z hz => by
        obtain ⟨k, hk, rfl⟩ := List.mem_map.1 hz
        have hki : k < t.length := by have := ids_lt t ks i k hk; omega
        have hka : t[k]? = some t[k] := List.getElem?_eq_getElem hki
        have := hClos k t t[k] t[i] ks tv x v ((H2 ++ [ABlk.box [.lst (some true) 0 []]]).set H2.length (.box [x])) H.length H2.length (H ++ [ABlk.box [tv]]).length (old_get hO3 hbt) hbr (old_get hO3 hbv) (ht'.old (hO.trans hO3)) hxr (view_old hO3 hown.view) hka (hkin _ _ hka) (hkin _ _ hti) hkl
        have e : same t ks ((k : Int).toNat) i = (cmpK t[k] t[i] ks == 0) := by
          simp only [same, Int.toNat_natCast, List.getD_eq_getElem?_getD, hka, hti, Option.getD_some]
        rw [e]; exact this)
    refine sCall0 hcall ?_
    have hany : (((ids t ks i).map fun k : Nat => (k : Int)).any fun z => same t ks z.toNat i) = (ids t ks i).any fun k => same t ks k i := by
      rw [List.any_map]; rfl
    refine sCond (fun hb => ?_) (fun hb => ?_)
    · rw [hany] at hb
      have eids : ids t ks (i + 1) = ids t ks i ++ [i] := by
        have : ((ids t ks i).any fun k => same t ks k i) = false := by simpa using hb
        show (if _ then _ else _) = _
        rw [if_neg (by rw [this]; simp)]
      refine sBslice (vs' := [natV i]) rfl rfl ?_
      refine sAppend (H0 := H1) (hout3.push _) (hO3.push _) view_new (by omega) ?_ (by simp) (fun v' H' ho' hO' hblk hfr => ?_)
      · have := ids_len t ks i; simp only [List.length_map, List.length_cons, List.length_nil]; omega
      refine sW64n (r := i + 1) rfl (by omega) ?_
      refine sNext (SD.mk (i + 1) v') rfl ⟨hO', by simp only; omega, ?_⟩ (by simp only; omega)
      simp only [eids, List.map_append]
      exact ho'
    · rw [hany] at hb
      have eids : ids t ks (i + 1) = ids t ks i := by
        have : ((ids t ks i).any fun k => same t ks k i) = true := by simpa using hb
        show (if _ then _ else _) = _
        rw [if_pos this]
      refine sW64n (r := i + 1) rfl (by omega) ?_
      refine sNext (SD.mk (i + 1) out) rfl ⟨hO3, by simp only; omega, ?_⟩ (by simp only; omega)
      simp only [eids]
      exact hout3
  simp only [decide_eq_false_iff_not, Int.ofNat_lt] at hlt
  have ei : i = t.length := by omega
  subst ei
  obtain ⟨H', hf, hO', _⟩ := (hout.weaken (H0 := H) hO.1).frz (hO.trans hO2)
  have e : distV t cols = .tup [lstF 1 ((ids t ks t.length).map natV), .nili] := by unfold distV; rw [if_neg (by omega), hks]
  rw [e]
  refine sRetF (v0 := .tup [out, .nili]) rfl rfl (by simp only [frzV, frzL, hf]) ?_ hO'
  simp [AV.bel, AV.belL, lstF_bel]
end
end Go.AM
