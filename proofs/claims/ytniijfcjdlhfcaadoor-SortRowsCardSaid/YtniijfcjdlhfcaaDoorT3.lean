/- The reference's tables: contracts of sccref3's Table, Column, Columns, Alike, Distinct, of sccref1.Is and sccsame.Ints. Own work. -/
import Derived.Test.YtniijfcjdlhfcaaDoorSo2
set_option linter.all false
namespace Go.AM

section
variable {C : CSpec} {GT : Nat → Option AV}

theorem is3_ev (v : Val) (H : Heap) : EFun C GT a_sccref1_Is [valV v] H (.bool (valOK v)) H := by
  have hO : Old H (H ++ [ABlk.box [.int .i64 v.kind, .int .i64 v.num, .str v.text]]) := (Old.refl H).push _
  refine sBox rfl ?_
  refine sLoadBox (intV v.kind) push_last rfl ?_
  refine sCond (fun h0 => ?_) (fun h0 => ?_)
  · refine sLoadBox (intV v.num) push_last rfl ?_
    refine sCond (fun h1 => ?_) (fun h1 => ?_)
    · refine sLoadBox (.str v.text) push_last rfl ?_
      refine sCondT ?_
      have e : valOK v = (v.text == []) := by unfold valOK; rw [if_pos h0, h1, Bool.true_and]
      rw [e]; exact sRetV rfl rfl rfl rfl hO
    · refine sCondF ?_
      have e : valOK v = false := by unfold valOK; rw [if_pos h0, h1, Bool.false_and]
      rw [e]; exact sRetV rfl rfl rfl rfl hO
  have h0' : ¬ (v.kind == 0) = true := by rw [h0]; simp
  refine sCond (fun h2 => ?_) (fun h2 => ?_)
  · refine sLoadBox (.str v.text) push_last rfl ?_
    have e : valOK v = (v.text == []) := by unfold valOK; rw [if_neg h0', if_pos h2]
    rw [e]; exact sRetV rfl rfl rfl rfl hO
  have h2' : ¬ (v.kind == 1) = true := by rw [h2]; simp
  refine sCond (fun h3 => ?_) (fun h3 => ?_)
  · refine sLoadBox (intV v.num) push_last rfl ?_
    refine sCond (fun h1 => ?_) (fun h1 => ?_)
    · refine sLoadBox (.str v.text) push_last rfl ?_
      refine sCondT ?_
      have e : valOK v = decide ((v.text.length : Int) ≤ 200) := by unfold valOK; rw [if_neg h0', if_neg h2', if_pos h3, h1, Bool.true_and]
      rw [e]; exact sRetV rfl rfl rfl rfl hO
    · refine sCondF ?_
      have e : valOK v = false := by unfold valOK; rw [if_neg h0', if_neg h2', if_pos h3, h1, Bool.false_and]
      rw [e]; exact sRetV rfl rfl rfl rfl hO
  have h3' : ¬ (v.kind == 2) = true := by rw [h3]; simp
  refine sCond (fun h4 => ?_) (fun h4 => ?_)
  · refine sLoadBox (.str v.text) push_last rfl ?_
    refine sCond (fun h1 => ?_) (fun h1 => ?_)
    · refine sLoadBox (intV v.num) push_last rfl ?_
      refine sCond (fun h5 => ?_) (fun h5 => ?_)
      · refine sCondT ?_
        refine sCondT ?_
        have e : valOK v = true := by unfold valOK; rw [if_neg h0', if_neg h2', if_neg h3', if_pos h4, h1, h5]; rfl
        rw [e]; exact sRetV rfl rfl rfl rfl hO
      · refine sLoadBox (intV v.num) push_last rfl ?_
        refine sCondF ?_
        refine sCondT ?_
        have e : valOK v = (v.num == 1) := by unfold valOK; rw [if_neg h0', if_neg h2', if_neg h3', if_pos h4, h1, h5, Bool.false_or, Bool.and_true]
        rw [e]; exact sRetV rfl rfl rfl rfl hO
    · refine sCondF ?_
      have e : valOK v = false := by unfold valOK; rw [if_neg h0', if_neg h2', if_neg h3', if_pos h4, h1, Bool.and_false]
      rw [e]; exact sRetV rfl rfl rfl rfl hO
  have h4' : ¬ (v.kind == 3) = true := by rw [h4]; simp
  refine sCond (fun h5 => ?_) (fun h5 => ?_)
  · refine sLoadBox (.str v.text) push_last rfl ?_
    refine sCond (fun h1 => ?_) (fun h1 => ?_)
    · refine sLoadBox (intV v.num) push_last rfl ?_
      refine sCondT ?_
      refine sCond (fun h6 => ?_) (fun h6 => ?_)
      · refine sLoadBox (intV v.num) push_last rfl ?_
        refine sCondT ?_
        have e : valOK v = decide (v.num ≤ 6) := by unfold valOK; rw [if_neg h0', if_neg h2', if_neg h3', if_neg h4', if_pos h5, h1, h6, Bool.true_and, Bool.and_true]
        rw [e]; exact sRetV rfl rfl rfl rfl hO
      · refine sCondF ?_
        have e : valOK v = false := by unfold valOK; rw [if_neg h0', if_neg h2', if_neg h3', if_neg h4', if_pos h5, h6]; rfl
        rw [e]; exact sRetV rfl rfl rfl rfl hO
    · refine sCondF ?_
      refine sCondF ?_
      refine sCondF ?_
      have e : valOK v = false := by unfold valOK; rw [if_neg h0', if_neg h2', if_neg h3', if_neg h4', if_pos h5, h1, Bool.and_false]
      rw [e]; exact sRetV rfl rfl rfl rfl hO
  have h5' : ¬ (v.kind == 4) = true := by rw [h5]; simp
  have e : valOK v = false := by unfold valOK; rw [if_neg h0', if_neg h2', if_neg h3', if_neg h4', if_neg h5']
  rw [e]; exact sRetV rfl rfl rfl rfl hO

theorem table3_ev (hC : ∀ v H, C f_sccref1_Is [valV v] H (.bool (valOK v)) H) (tv : AV) (t : List Row) (H : Heap) (ht : TabOf H tv t) : EFun C GT a_sccref3_Table [tv] H (natV (tabErr t)) H := by
  obtain ⟨rows, hv, hl, hr⟩ := ht
  refine sLenN t.length hv hl ?_
  refine sCond (fun h => ?_) (fun h => ?_)
  · have e : tabErr t = 4 := by simp only [decide_eq_true_eq] at h; unfold tabErr; rw [if_pos (by omega)]
    rw [e]; exact sRetV rfl rfl rfl rfl (Old.refl _)
  simp only [decide_eq_false_iff_not] at h
  have h60 : ¬ 60 < t.length := by omega
  refine sLoop (σ := Nat) (fun i => [(3, .int .i64 i), (0, tv)]) (fun i H1 => H1 = H ∧ i ≤ t.length ∧ ∀ k r, k < i → t[k]? = some r → r.length ≤ 12) (fun i => t.length - i) 0 rfl ⟨rfl, Nat.zero_le _, fun k r h => absurd h (Nat.not_lt_zero _)⟩ (fun i H1 ⟨e, hi, h12⟩ => ?_)
  subst e
  refine sLenN t.length hv hl ?_
  refine sCond (fun hlt => ?_) (fun hlt => ?_)
  · simp only [decide_eq_true_eq, Int.ofNat_lt] at hlt
    have hti : t[i]? = some t[i] := List.getElem?_eq_getElem hlt
    obtain ⟨x, hx, hxr⟩ := hr i _ hti
    refine sIdxV i x hv rfl hx (fun p hp => ?_)
    refine sLoadP x hp (by rw [hxr.cells]; rfl) ?_
    refine sLenO t[i].length hxr (by simp) ?_
    refine sCond (fun hw => ?_) (fun hw => ?_)
    · have e : tabErr t = 4 := by
        simp only [decide_eq_true_eq] at hw
        unfold tabErr; rw [if_neg h60, if_pos (any_at hti (by simp only [decide_eq_true_eq]; omega))]
      rw [e]; exact sRetV rfl rfl rfl rfl (Old.refl _)
    · simp only [decide_eq_false_iff_not] at hw
      refine sW64n (r := i + 1) rfl (by omega) ?_
      refine sNext (i + 1) rfl ⟨rfl, by omega, fun k r hk hkr => ?_⟩ (by omega)
      by_cases e : k = i
      · subst e; rw [hti] at hkr; cases hkr; omega
      · exact h12 k r (by omega) hkr
  simp only [decide_eq_false_iff_not, Int.ofNat_lt] at hlt
  have e : i = t.length := by omega
  subst e
  have n12 : (t.any fun r => decide (12 < r.length)) = false := any_no fun k r hk hkr => by have := h12 k r hk hkr; simp only [decide_eq_false_iff_not]; omega
  clear hi hlt
  refine sLoop (σ := Nat) (fun i => [(4, .int .i64 i), (0, tv)]) (fun i H1' => H1' = H1 ∧ i ≤ t.length ∧ ∀ k r, k < i → t[k]? = some r → r.length = (t.headD []).length) (fun i => t.length - i) 0 rfl ⟨rfl, Nat.zero_le _, fun k r h => absurd h (Nat.not_lt_zero _)⟩ (fun i H1' ⟨e, hi, hw⟩ => ?_)
  subst e
  refine sLenN t.length hv hl ?_
  refine sCond (fun hlt => ?_) (fun hlt => ?_)
  · simp only [decide_eq_true_eq, Int.ofNat_lt] at hlt
    have hti : t[i]? = some t[i] := List.getElem?_eq_getElem hlt
    obtain ⟨x, hx, hxr⟩ := hr i _ hti
    have ht0 : t[0]? = some (t.headD []) := by cases t with
      | nil => simp at hlt
      | cons r t => rfl
    obtain ⟨x0, hx0, hxr0⟩ := hr 0 _ ht0
    refine sIdxV i x hv rfl hx (fun p hp => ?_)
    refine sLoadP x hp (by rw [hxr.cells]; rfl) ?_
    refine sLenO t[i].length hxr (by simp) ?_
    refine sIdxV 0 x0 hv rfl hx0 (fun p0 hp0 => ?_)
    refine sLoadP x0 hp0 (by rw [hxr0.cells]; rfl) ?_
    refine sLenO (t.headD []).length hxr0 (by simp) ?_
    refine sCond (fun hne => ?_) (fun hne => ?_)
    · have e : tabErr t = 3 := by
        unfold tabErr; rw [if_neg h60, if_neg (by rw [n12]; simp), if_pos (any_at hti ?_)]
        simp only [bne_iff_ne, ne_eq] at hne ⊢
        omega
      rw [e]; exact sRetV rfl rfl rfl rfl (Old.refl _)
    · simp only [bne_eq_false_iff_eq] at hne
      refine sW64n (r := i + 1) rfl (by omega) ?_
      refine sNext (i + 1) rfl ⟨rfl, by omega, fun k r hk hkr => ?_⟩ (by omega)
      by_cases e : k = i
      · subst e; rw [hti] at hkr; cases hkr; omega
      · exact hw k r (by omega) hkr
  simp only [decide_eq_false_iff_not, Int.ofNat_lt] at hlt
  have e : i = t.length := by omega
  subst e
  have nw : (t.any fun r => r.length != (t.headD []).length) = false := any_no fun k r hk hkr => by rw [hw k r hk hkr]; simp
  clear hi hlt
  refine sLoop (σ := Nat) (fun i => [(5, .int .i64 i), (0, tv)]) (fun i H2 => H2 = H1' ∧ i ≤ t.length ∧ ∀ k r, k < i → t[k]? = some r → ∀ v ∈ r, valOK v = true) (fun i => t.length - i) 0 rfl ⟨rfl, Nat.zero_le _, fun k r h => absurd h (Nat.not_lt_zero _)⟩ (fun i H2 ⟨e, hi, hok⟩ => ?_)
  subst e
  refine sLenN t.length hv hl ?_
  refine sCond (fun hlt => ?_) (fun hlt => ?_)
  · simp only [decide_eq_true_eq, Int.ofNat_lt] at hlt
    have hti : t[i]? = some t[i] := List.getElem?_eq_getElem hlt
    obtain ⟨x, hx, hxr⟩ := hr i _ hti
    have hrl := h12 i _ hlt hti
    refine sLoop (σ := Nat) (fun j => [(6, .int .i64 j), (5, .int .i64 i), (0, tv)]) (fun j H3 => H3 = H2 ∧ j ≤ t[i].length ∧ ∀ k v, k < j → t[i][k]? = some v → valOK v = true) (fun j => t[i].length - j) 0 rfl ⟨rfl, Nat.zero_le _, fun k r h => absurd h (Nat.not_lt_zero _)⟩ (fun j H3 ⟨e3, hj, hokj⟩ => ?_)
    subst e3
    refine sIdxV i x hv rfl hx (fun p hp => ?_)
    refine sLoadP x hp (by rw [hxr.cells]; rfl) ?_
    refine sLenO t[i].length hxr (by simp) ?_
    refine sCond (fun hjl => ?_) (fun hjl => ?_)
    · simp only [decide_eq_true_eq, Int.ofNat_lt] at hjl
      have hvj : t[i][j]? = some t[i][j] := List.getElem?_eq_getElem hjl
      refine sIdxV i x hv rfl hx (fun p hp => ?_)
      refine sLoadP x hp (by rw [hxr.cells]; rfl) ?_
      refine sIdxO j (valV t[i][j]) hxr rfl (hxr.get [] hvj).2 ?_
      refine sLoadL (valV t[i][j]) rfl ?_
      refine sCall0 (hC t[i][j] _) ?_
      refine sCond (fun hb => ?_) (fun hb => ?_)
      · have e : tabErr t = 1 := by
          unfold tabErr; rw [if_neg h60, if_neg (by rw [n12]; simp), if_neg (by rw [nw]; simp), if_pos (any_at hti (any_at hvj hb))]
        rw [e]; exact sRetV rfl rfl rfl rfl (Old.refl _)
      · refine sW64n (r := j + 1) rfl (by omega) ?_
        refine sNext (j + 1) rfl ⟨rfl, by omega, fun k v hk hkv => ?_⟩ (by omega)
        by_cases e : k = j
        · subst e; rw [hvj] at hkv; cases hkv; simpa using hb
        · exact hokj k v (by omega) hkv
    · simp only [decide_eq_false_iff_not, Int.ofNat_lt] at hjl
      refine sW64n (r := i + 1) rfl (by omega) ?_
      refine sNext (i + 1) rfl ⟨rfl, by omega, fun k r hk hkr => ?_⟩ (by omega)
      by_cases e : k = i
      · subst e; rw [hti] at hkr; cases hkr
        intro v hv
        obtain ⟨m, hm⟩ := List.getElem?_of_mem hv
        exact hokj m v (by have := (List.getElem?_eq_some_iff.1 hm).1; omega) hm
      · exact hok k r (by omega) hkr
  simp only [decide_eq_false_iff_not, Int.ofNat_lt] at hlt
  have e : tabErr t = 0 := by
    unfold tabErr; rw [if_neg h60, if_neg (by rw [n12]; simp), if_neg (by rw [nw]; simp), if_neg ?_]
    rw [any_no fun k r hk hkr => ?_]
    · simp
    · exact any_no fun m v hm hmv => by rw [hok k r (by omega) hkr v (List.mem_of_getElem? hmv)]; rfl
  rw [e]; exact sRetV rfl rfl rfl rfl (Old.refl _)

theorem column3_ev (tv : AV) (t : List Row) (c : Int) (H : Heap) (ht : TabOf H tv t) : EFun C GT a_sccref3_Column [tv, intV c] H (.bool (colOK t c)) H := column_ev tv t c H ht

theorem columns3_ev (hK : ∀ tv t H, TabOf H tv t → C f_sccref3_Table [tv] H (natV (tabErr t)) H) (hL : ∀ tv t c H, TabOf H tv t → C f_sccref3_Column [tv, intV c] H (.bool (colOK t c)) H)
    (tv cv : AV) (t : List Row) (cols : List Int) (H : Heap) (ht : TabOf H tv t) (hc : view H 1 cv = some (cols.map intV)) : EFun C GT a_sccref3_Columns [tv, cv] H (natV (colErr t cols)) H := by
  have hk := hK tv t H ht
  refine sCall0 hk ?_
  refine sCond (fun he => ?_) (fun he => ?_)
  · have he' : tabErr t ≠ 0 := by simp only [bne_iff_ne, ne_eq] at he; omega
    have e : colErr t cols = tabErr t := by unfold colErr; rw [if_pos he']
    rw [e]; exact sRetV rfl rfl rfl rfl (Old.refl _)
  have he' : tabErr t = 0 := by simp only [bne_eq_false_iff_eq] at he; omega
  refine sLenN cols.length hc (by simp) ?_
  refine sCond (fun h => ?_) (fun h => ?_)
  · simp only [decide_eq_true_eq] at h
    have e : colErr t cols = 4 := by unfold colErr; rw [if_neg (by omega), if_pos (by omega)]
    rw [e]; exact sRetV rfl rfl rfl rfl (Old.refl _)
  simp only [decide_eq_false_iff_not] at h
  refine sLoop (σ := Nat) (fun i => [(6, .int .i64 i), (1, cv), (0, tv)]) (fun i H1 => H1 = H ∧ i ≤ cols.length ∧ ∀ k c, k < i → cols[k]? = some c → colOK t c = true) (fun i => cols.length - i) 0 rfl ⟨rfl, Nat.zero_le _, fun k r h => absurd h (Nat.not_lt_zero _)⟩ (fun i H1 ⟨e, hi, hok⟩ => ?_)
  subst e
  refine sLenN cols.length hc (by simp) ?_
  refine sCond (fun hlt => ?_) (fun hlt => ?_)
  · simp only [decide_eq_true_eq, Int.ofNat_lt] at hlt
    have hci : cols[i]? = some cols[i] := List.getElem?_eq_getElem hlt
    refine sIdxV i (intV cols[i]) hc rfl (by rw [List.getElem?_map, hci]; rfl) (fun p hp => ?_)
    refine sLoadP (intV cols[i]) hp rfl ?_
    refine sCall0 (hL tv t cols[i] _ ht) ?_
    refine sCond (fun hb => ?_) (fun hb => ?_)
    · have e : colErr t cols = 1 := by
        unfold colErr; rw [if_neg (by omega), if_neg (by omega), if_pos (any_at hci hb)]
      rw [e]; exact sRetV rfl rfl rfl rfl (Old.refl _)
    · refine sW64n (r := i + 1) rfl (by omega) ?_
      refine sNext (i + 1) rfl ⟨rfl, by omega, fun k c hk hkc => ?_⟩ (by omega)
      by_cases e : k = i
      · subst e; rw [hci] at hkc; cases hkc; simpa using hb
      · exact hok k c (by omega) hkc
  · simp only [decide_eq_false_iff_not, Int.ofNat_lt] at hlt
    have e : colErr t cols = 0 := by
      unfold colErr; rw [if_neg (by omega), if_neg (by omega), if_neg ?_]
      rw [any_no fun k c hk hkc => by rw [hok k c (by omega) hkc]; rfl]; simp
    rw [e]; exact sRetV rfl rfl rfl rfl (Old.refl _)

theorem cells_val (a b : Val) : cellsEq [.int .i64, .int .i64, .str] (valV a).cells (valV b).cells = some (decide (a = b)) := by
  have h : cellsEq [.int .i64, .int .i64, .str] (valV a).cells (valV b).cells = some ((a.kind == b.kind) && ((a.num == b.num) && ((a.text == b.text) && true))) := rfl
  rw [h]
  congr 1
  rw [Bool.eq_iff_iff]
  simp only [Bool.and_eq_true, beq_iff_eq, decide_eq_true_eq, and_true]
  constructor
  · rintro ⟨h1, h2, h3⟩; cases a; cases b; simp_all
  · intro h; subst h; exact ⟨rfl, rfl, rfl⟩

def alikeR (a b : Row) (cols : List Int) : Bool := cols.all fun c => decide (a.getD c.toNat default = b.getD c.toNat default)

theorem alike3_ev (xa xb cv : AV) (a b : Row) (cols : List Int) (H : Heap) (ha : RowOf xa a) (hb : RowOf xb b) (hc : view H 1 cv = some (cols.map intV)) (hia : ∀ c ∈ cols, 0 ≤ c ∧ c < (a.length : Int)) (hib : ∀ c ∈ cols, 0 ≤ c ∧ c < (b.length : Int)) (hl : cols.length ≤ 1000000) :
    EFun C GT a_sccref3_Alike [xa, xb, cv] H (.bool (alikeR a b cols)) H := by
  refine sLoop (σ := Nat) (fun i => [(7, .int .i64 i), (2, cv), (1, xb), (0, xa)]) (fun i H1 => H1 = H ∧ i ≤ cols.length ∧ ∀ k c, k < i → cols[k]? = some c → a.getD c.toNat default = b.getD c.toNat default) (fun i => cols.length - i) 0 rfl ⟨rfl, Nat.zero_le _, fun k r h => absurd h (Nat.not_lt_zero _)⟩ (fun i H1 ⟨e, hi, hok⟩ => ?_)
  subst e
  refine sLenN cols.length hc (by simp) ?_
  refine sCond (fun hlt => ?_) (fun hlt => ?_)
  · simp only [decide_eq_true_eq, Int.ofNat_lt] at hlt
    have hci : cols[i]? = some cols[i] := List.getElem?_eq_getElem hlt
    have hcm : (cols.map intV)[i]? = some (intV cols[i]) := by rw [List.getElem?_map, hci]; rfl
    obtain ⟨a0, a1⟩ := hia cols[i] (List.mem_of_getElem? hci)
    obtain ⟨b0, b1⟩ := hib cols[i] (List.mem_of_getElem? hci)
    generalize hcc : cols[i] = c at *
    have hav : a[c.toNat]? = some (a.getD c.toNat default) := by rw [List.getD_eq_getElem?_getD, List.getElem?_eq_getElem (by omega)]; rfl
    have hbv : b[c.toNat]? = some (b.getD c.toNat default) := by rw [List.getD_eq_getElem?_getD, List.getElem?_eq_getElem (by omega)]; rfl
    refine sIdxV i (intV c) hc rfl hcm (fun p hp => ?_)
    refine sLoadP (intV c) hp rfl ?_
    refine sIdxO c.toNat (valV (a.getD c.toNat default)) ha (Int.toNat_of_nonneg a0).symm (ha.get [] hav).2 ?_
    refine sLoadL (valV (a.getD c.toNat default)) rfl ?_
    refine sIdxV i (intV c) hc rfl hcm (fun p2 hp2 => ?_)
    refine sLoadP (intV c) hp2 rfl ?_
    refine sIdxO c.toNat (valV (b.getD c.toNat default)) hb (Int.toNat_of_nonneg a0).symm (hb.get [] hbv).2 ?_
    refine sLoadL (valV (b.getD c.toNat default)) rfl ?_
    refine sOpt (cells_val _ _) ?_
    by_cases he : a.getD c.toNat default = b.getD c.toNat default
    · rw [decide_eq_true he]
      refine sCondF ?_
      refine sW64n (r := i + 1) rfl (by omega) ?_
      refine sNext (i + 1) rfl ⟨rfl, by omega, fun k c' hk hkc => ?_⟩ (by omega)
      by_cases e : k = i
      · subst e; rw [hci] at hkc; cases hkc; exact he
      · exact hok k c' (by omega) hkc
    · rw [decide_eq_false he]
      refine sCondT ?_
      have e : alikeR a b cols = false := by
        unfold alikeR; rw [List.all_eq_false]; exact ⟨c, List.mem_of_getElem? hci, by simpa using he⟩
      rw [e]; exact sRetV rfl rfl rfl rfl (Old.refl _)
  · simp only [decide_eq_false_iff_not, Int.ofNat_lt] at hlt
    have e : alikeR a b cols = true := by
      unfold alikeR; rw [List.all_eq_true]; intro c hcm
      obtain ⟨k, hk⟩ := List.getElem?_of_mem hcm
      have := (List.getElem?_eq_some_iff.1 hk).1
      exact decide_eq_true (hok k c (by omega) hk)
    rw [e]; exact sRetV rfl rfl rfl rfl (Old.refl _)

theorem ints_ev (va vb : AV) (xs ys : List Int) (H : Heap) (ha : LstOf va 1 (xs.map intV)) (hb : LstOf vb 1 (ys.map intV)) (hl : xs.length ≤ 9223372036854775807) : EFun C GT a_sccsame_Ints [va, vb] H (.bool (decide (xs = ys))) H := by
  refine sLenO xs.length ha (by simp) ?_
  refine sLenO ys.length hb (by simp) ?_
  refine sCond (fun h => ?_) (fun h => ?_)
  · have e : ¬ xs = ys := by intro e; subst e; simp at h
    rw [decide_eq_false e]; exact sRetV rfl rfl rfl rfl (Old.refl _)
  have hlen : xs.length = ys.length := by simp only [bne_eq_false_iff_eq] at h; omega
  refine sLoop (σ := Nat) (fun i => [(5, .int .i64 i), (1, vb), (0, va)]) (fun i H1 => H1 = H ∧ i ≤ xs.length ∧ ∀ k, k < i → xs[k]? = ys[k]?) (fun i => xs.length - i) 0 rfl ⟨rfl, Nat.zero_le _, fun k h => absurd h (Nat.not_lt_zero _)⟩ (fun i H1 ⟨e, hi, hok⟩ => ?_)
  subst e
  refine sLenO xs.length ha (by simp) ?_
  refine sCond (fun hlt => ?_) (fun hlt => ?_)
  · simp only [decide_eq_true_eq, Int.ofNat_lt] at hlt
    have hx : xs[i]? = some xs[i] := List.getElem?_eq_getElem hlt
    have hlt' : i < ys.length := by omega
    have hy : ys[i]? = some ys[i] := List.getElem?_eq_getElem hlt'
    refine sIdxO i (intV xs[i]) ha rfl (by rw [List.getElem?_map, hx]; rfl) ?_
    refine sLoadL (intV xs[i]) rfl ?_
    refine sIdxO i (intV ys[i]) hb rfl (by rw [List.getElem?_map, hy]; rfl) ?_
    refine sLoadL (intV ys[i]) rfl ?_
    refine sCond (fun hne => ?_) (fun hne => ?_)
    · have e : ¬ xs = ys := by
        intro e
        simp only [bne_iff_ne, ne_eq] at hne
        apply hne
        have : some xs[i] = some ys[i] := by rw [← hx, ← hy, e]
        exact Option.some.inj this
      rw [decide_eq_false e]; exact sRetV rfl rfl rfl rfl (Old.refl _)
    · simp only [bne_eq_false_iff_eq] at hne
      refine sW64n (r := i + 1) rfl (by omega) ?_
      refine sNext (i + 1) rfl ⟨rfl, by omega, fun k hk => ?_⟩ (by omega)
      by_cases e : k = i
      · subst e; rw [hx, hy, hne]
      · exact hok k (by omega)
  · simp only [decide_eq_false_iff_not, Int.ofNat_lt] at hlt
    have e : xs = ys := by
      apply List.ext_getElem?
      intro k
      by_cases hk : k < xs.length
      · exact hok k (by omega)
      · rw [List.getElem?_eq_none (by omega), List.getElem?_eq_none (by omega)]
    rw [decide_eq_true e]; exact sRetV rfl rfl rfl rfl (Old.refl _)
end
end Go.AM
