/- The contracts of package sort's Check, Column, Columns, Compare and Distinct, and of slices' functions under them. Own work. -/
import Derived.Test.YtaijlknbeapnhaaDoorVal
set_option linter.all false
namespace Go.AM

/-! ### Tables -/

abbrev Row := List Val
def RowOf (x : AV) (r : Row) : Prop := LstOf x 3 (r.map valV)
def TabOf (H : Heap) (tv : AV) (t : List Row) : Prop := ∃ rows, view H 1 tv = some rows ∧ rows.length = t.length ∧ ∀ (i : Nat) (r : Row), t[i]? = some r → ∃ x, rows[i]? = some x ∧ RowOf x r
theorem TabOf.old {H H' : Heap} {tv : AV} {t : List Row} (h : TabOf H tv t) (hO : Old H H') : TabOf H' tv t := by
  obtain ⟨rows, h1, h2, h3⟩ := h
  exact ⟨rows, view_old hO h1, h2, h3⟩
theorem RowOf.len {x : AV} {r : Row} (h : RowOf x r) (H : Heap) : view H 3 x = some (r.map valV) ∧ (r.map valV).length = r.length := ⟨h.view H, by simp⟩
theorem RowOf.get {x : AV} {r : Row} (h : RowOf x r) (H : Heap) {i : Nat} {v : Val} (hi : r[i]? = some v) : view H 3 x = some (r.map valV) ∧ (r.map valV)[i]? = some (valV v) := ⟨h.view H, by rw [List.getElem?_map, hi]; rfl⟩

/-! ### What is computed -/

def errN : Nat → AV
  | 0 => .nili
  | n + 1 => errV (n + 1 : Nat)
def tabErr (t : List Row) : Nat :=
  if 60 < t.length then 4 else if (t.any fun r => decide (12 < r.length)) = true then 4
  else if (t.any fun r => r.length != (t.headD []).length) = true then 3 else if (t.any fun r => r.any fun v => !valOK v) = true then 1 else 0
def wideT (t : List Row) : Nat := match t with
  | [] => 12
  | r :: _ => r.length
def colOK (t : List Row) (c : Int) : Bool := decide (c ≥ 0) && decide (c < (wideT t : Int))
def colErr (t : List Row) (cols : List Int) : Nat :=
  if tabErr t ≠ 0 then tabErr t else if 12 < cols.length then 4 else if (cols.any fun c => !colOK t c) = true then 1 else 0

section
variable {C : CSpec} {GT : Nat → Option AV}

theorem any_at {α : Type} {p : α → Bool} {l : List α} {i : Nat} {x : α} (h : l[i]? = some x) (hp : p x = true) : l.any p = true := List.any_eq_true.2 ⟨x, List.mem_of_getElem? h, hp⟩
theorem any_no {α : Type} {p : α → Bool} {l : List α} (h : ∀ k x, k < l.length → l[k]? = some x → p x = false) : l.any p = false := by
  rw [List.any_eq_false]
  intro x hx
  obtain ⟨k, hk⟩ := List.getElem?_of_mem hx
  rw [h k x (List.getElem?_eq_some_iff.1 hk).1 hk]; simp

theorem chk_ev (hC : ∀ v H, C f_value_Check [valV v] H (chkV v) H) (tv : AV) (t : List Row) (H : Heap) (ht : TabOf H tv t) : EFun C GT a_sort_Check [tv] H (errN (tabErr t)) H := by
  obtain ⟨rows, hv, hl, hr⟩ := ht
  refine sLenN t.length hv hl ?_
  refine sCond (fun h => ?_) (fun h => ?_)
  · have e : tabErr t = 4 := by simp only [decide_eq_true_eq] at h; unfold tabErr; rw [if_pos (by omega)]
    rw [e]; exact sRetV rfl rfl rfl rfl (Old.refl _)
  simp only [decide_eq_false_iff_not] at h
  have h60 : ¬ 60 < t.length := by omega
  refine sLenN t.length hv hl ?_
  refine sLoop (σ := Nat) (fun i => [(18, .int .i64 i), (16, tv), (0, tv), (17, .int .i64 t.length)]) (fun i H1 => H1 = H ∧ i ≤ t.length ∧ ∀ k r, k < i → t[k]? = some r → r.length ≤ 12) (fun i => t.length - i) 0 rfl ⟨rfl, Nat.zero_le _, fun k r h => absurd h (Nat.not_lt_zero _)⟩ (fun i H1 ⟨e, hi, h12⟩ => ?_)
  subst e
  refine sCond (fun hlt => ?_) (fun hlt => ?_)
  · simp only [decide_eq_true_eq, Int.ofNat_lt] at hlt
    have hti : t[i]? = some t[i] := List.getElem?_eq_getElem hlt
    obtain ⟨x, hx, hxr⟩ := hr i _ hti
    refine sIdxV i x hv rfl hx (fun p hp => ?_)
    refine sLoadP x hp (by rw [hxr.cells]; rfl) ?_
    refine sLenN t[i].length (hxr.len []).1 (hxr.len []).2 ?_
    refine sCond (fun hw => ?_) (fun hw => ?_)
    · have e : tabErr t = 4 := by
        simp only [decide_eq_true_eq] at hw
        unfold tabErr; rw [if_neg h60, if_pos (any_at hti (by simp only [decide_eq_true_eq]; omega))]
      rw [e]; exact sRetV rfl rfl rfl rfl (Old.refl _)
    · simp only [decide_eq_false_iff_not] at hw
      refine sW64n (r := i + 1) rfl (by omega) ?_
      refine sNext (i + 1) rfl ⟨rfl, by omega, fun k r hk hkr => ?_⟩ (by omega)
      by_cases e : k = i
      · subst e; rw [hti] at hkr; cases hkr; omega
      · exact h12 k r (by omega) hkr
  simp only [decide_eq_false_iff_not, Int.ofNat_lt] at hlt
  have e : i = t.length := by omega
  subst e
  have n12 : (t.any fun r => decide (12 < r.length)) = false := any_no fun k r hk hkr => by have := h12 k r hk hkr; simp only [decide_eq_false_iff_not]; omega
  clear hi hlt
  refine sLenN t.length hv hl ?_
  refine sLoop (σ := Nat) (fun i => [(29, .int .i64 i), (0, tv), (27, tv), (28, .int .i64 t.length)]) (fun i H1' => H1' = H1 ∧ i ≤ t.length ∧ ∀ k r, k < i → t[k]? = some r → r.length = (t.headD []).length) (fun i => t.length - i) 0 rfl ⟨rfl, Nat.zero_le _, fun k r h => absurd h (Nat.not_lt_zero _)⟩ (fun i H1' ⟨e, hi, hw⟩ => ?_)
  subst e
  refine sCond (fun hlt => ?_) (fun hlt => ?_)
  · simp only [decide_eq_true_eq, Int.ofNat_lt] at hlt
    have hti : t[i]? = some t[i] := List.getElem?_eq_getElem hlt
    obtain ⟨x, hx, hxr⟩ := hr i _ hti
    have ht0 : t[0]? = some (t.headD []) := by cases t with
      | nil => simp at hlt
      | cons r t => rfl
    obtain ⟨x0, hx0, hxr0⟩ := hr 0 _ ht0
    refine sIdxV i x hv rfl hx (fun p hp => ?_)
    refine sLoadP x hp (by rw [hxr.cells]; rfl) ?_
    refine sLenN t[i].length (hxr.len []).1 (hxr.len []).2 ?_
    refine sIdxV 0 x0 hv rfl hx0 (fun p0 hp0 => ?_)
    refine sLoadP x0 hp0 (by rw [hxr0.cells]; rfl) ?_
    refine sLenN (t.headD []).length (hxr0.len []).1 (hxr0.len []).2 ?_
    refine sCond (fun hne => ?_) (fun hne => ?_)
    · have e : tabErr t = 3 := by
        unfold tabErr; rw [if_neg h60, if_neg (by rw [n12]; simp), if_pos (any_at hti ?_)]
        simp only [bne_iff_ne, ne_eq] at hne ⊢
        omega
      rw [e]; exact sRetV rfl rfl rfl rfl (Old.refl _)
    · simp only [bne_eq_false_iff_eq] at hne
      refine sW64n (r := i + 1) rfl (by omega) ?_
      refine sNext (i + 1) rfl ⟨rfl, by omega, fun k r hk hkr => ?_⟩ (by omega)
      by_cases e : k = i
      · subst e; rw [hti] at hkr; cases hkr; omega
      · exact hw k r (by omega) hkr
  simp only [decide_eq_false_iff_not, Int.ofNat_lt] at hlt
  have e : i = t.length := by omega
  subst e
  have nw : (t.any fun r => r.length != (t.headD []).length) = false := any_no fun k r hk hkr => by rw [hw k r hk hkr]; simp
  clear hi hlt
  refine sLenN t.length hv hl ?_
  refine sLoop (σ := Nat) (fun i => [(44, .int .i64 i), (42, tv), (43, .int .i64 t.length)]) (fun i H2 => Old H1' H2 ∧ i ≤ t.length ∧ ∀ k r, k < i → t[k]? = some r → ∀ v ∈ r, valOK v = true) (fun i => t.length - i) 0 rfl ⟨Old.refl _, Nat.zero_le _, fun k r h => absurd h (Nat.not_lt_zero _)⟩ (fun i H2 ⟨hO, hi, hok⟩ => ?_)
  refine sCond (fun hlt => ?_) (fun hlt => ?_)
  · simp only [decide_eq_true_eq, Int.ofNat_lt] at hlt
    have hti : t[i]? = some t[i] := List.getElem?_eq_getElem hlt
    obtain ⟨x, hx, hxr⟩ := hr i _ hti
    have hrl := h12 i _ hlt hti
    refine sIdxV i x (view_old hO hv) rfl hx (fun p hp => ?_)
    refine sLoadP x hp (by rw [hxr.cells]; rfl) ?_
    refine sLenN t[i].length (hxr.len []).1 (hxr.len []).2 ?_
    refine sLoop (σ := Nat) (fun j => [(50, .int .i64 j), (48, x), (42, tv), (43, .int .i64 t.length), (44, .int .i64 i), (49, .int .i64 t[i].length)]) (fun j H3 => Old H1' H3 ∧ j ≤ t[i].length ∧ ∀ k v, k < j → t[i][k]? = some v → valOK v = true) (fun j => t[i].length - j) 0 rfl ⟨hO, Nat.zero_le _, fun k r h => absurd h (Nat.not_lt_zero _)⟩ (fun j H3 ⟨hO3, hj, hokj⟩ => ?_)
    refine sCond (fun hjl => ?_) (fun hjl => ?_)
    · simp only [decide_eq_true_eq, Int.ofNat_lt] at hjl
      have hvj : t[i][j]? = some t[i][j] := List.getElem?_eq_getElem hjl
      refine sIdxV j (valV t[i][j]) (hxr.get H3 hvj).1 rfl (hxr.get [] hvj).2 (fun q hq => ?_)
      refine sLoadP (valV t[i][j]) hq rfl ?_
      refine sStoreBox push_last rfl rfl (by simp) ?_
      refine sLoadBox (valV t[i][j]) (set_at push_last) rfl ?_
      have hO4 := (hO3.push [ABlk.box [.int .i64 0, .int .i64 0, .str []]]).set (hO3.1) (.box (splice [.int .i64 0, .int .i64 0, .str []] (0 + 0) (valV t[i][j]).cells))
      cases hval : valOK t[i][j] with
      | false =>
        have e : tabErr t = 1 := by
          unfold tabErr; rw [if_neg h60, if_neg (by rw [n12]; simp), if_neg (by rw [nw]; simp), if_pos (any_at hti (any_at hvj (by rw [hval]; rfl)))]
        rw [e]
        refine sCall0 (v := errV 1) (by have := hC t[i][j] ((H3 ++ [ABlk.box [.int .i64 0, .int .i64 0, .str []]]).set H3.length (.box (splice [.int .i64 0, .int .i64 0, .str []] (0 + 0) (valV t[i][j]).cells))); simp only [chkV, hval, Bool.false_eq_true, if_false] at this; exact this) ?_
        refine sOpt rfl ?_
        refine sCondT ?_
        exact sRetV rfl rfl rfl rfl hO4
      | true =>
        refine sCall0 (v := .nili) (by have := hC t[i][j] ((H3 ++ [ABlk.box [.int .i64 0, .int .i64 0, .str []]]).set H3.length (.box (splice [.int .i64 0, .int .i64 0, .str []] (0 + 0) (valV t[i][j]).cells))); simp only [chkV, hval, if_true] at this; exact this) ?_
        refine sOpt rfl ?_
        refine sCondF ?_
        refine sW64n (r := j + 1) rfl (by omega) ?_
        refine sNext (j + 1) rfl ⟨hO4, by omega, fun k v hk hkv => ?_⟩ (by omega)
        by_cases e : k = j
        · subst e; rw [hvj] at hkv; cases hkv; exact hval
        · exact hokj k v (by omega) hkv
    · simp only [decide_eq_false_iff_not, Int.ofNat_lt] at hjl
      refine sW64n (r := i + 1) rfl (by omega) ?_
      refine sNext (i + 1) rfl ⟨hO3, by omega, fun k r hk hkr => ?_⟩ (by omega)
      by_cases e : k = i
      · subst e; rw [hti] at hkr; cases hkr
        intro v hv
        obtain ⟨m, hm⟩ := List.getElem?_of_mem hv
        exact hokj m v (by have := (List.getElem?_eq_some_iff.1 hm).1; omega) hm
      · exact hok k r (by omega) hkr
  simp only [decide_eq_false_iff_not, Int.ofNat_lt] at hlt
  have e : tabErr t = 0 := by
    unfold tabErr; rw [if_neg h60, if_neg (by rw [n12]; simp), if_neg (by rw [nw]; simp), if_neg ?_]
    rw [any_no fun k r hk hkr => ?_]
    · simp
    · exact any_no fun m v hm hmv => by rw [hok k r (by omega) hkr v (List.mem_of_getElem? hmv)]; rfl
  rw [e]; exact sRetV rfl rfl rfl rfl hO
theorem wide_get {t : List Row} {r : Row} (h : t[0]? = some r) : wideT t = r.length := by
  cases t with
  | nil => simp at h
  | cons a t => simp at h; subst h; rfl

theorem column_ev (tv : AV) (t : List Row) (c : Int) (H : Heap) (ht : TabOf H tv t) : EFun C GT a_sort_Column [tv, intV c] H (.bool (colOK t c)) H := by
  obtain ⟨rows, hv, hl, hr⟩ := ht
  have key : ∀ w : Nat, w = wideT t → (.bool (colOK t c) : AV) = .bool (decide (c ≥ 0) && decide (c < (w : Int))) := fun w hw => by rw [hw]; rfl
  refine sLenN t.length hv hl ?_
  refine sCond (fun h => ?_) (fun h => ?_)
  · simp only [decide_eq_true_eq] at h
    have hlt : 0 < t.length := by omega
    have h0 : t[0]? = some t[0] := List.getElem?_eq_getElem hlt
    obtain ⟨x, hx, hxr⟩ := hr 0 _ h0
    refine sIdxV 0 x hv rfl hx (fun p hp => ?_)
    refine sLoadP x hp (by rw [hxr.cells]; rfl) ?_
    refine sLenN t[0].length (hxr.len []).1 (hxr.len []).2 ?_
    have hk := key t[0].length (wide_get h0).symm
    refine sCond (fun hc => ?_) (fun hc => ?_)
    · refine sCondT ?_
      rw [hk, hc, Bool.true_and]; exact sRetV rfl rfl rfl rfl (Old.refl _)
    · refine sCondF ?_
      rw [hk, hc, Bool.false_and]; exact sRetV rfl rfl rfl rfl (Old.refl _)
  · simp only [decide_eq_false_iff_not] at h
    have hk := key 12 (by cases t with
      | nil => rfl
      | cons a t => simp at h)
    refine sCond (fun hc => ?_) (fun hc => ?_)
    · refine sCondT ?_
      rw [hk, hc, Bool.true_and]; exact sRetV rfl rfl rfl rfl (Old.refl _)
    · refine sCondF ?_
      rw [hk, hc, Bool.false_and]; exact sRetV rfl rfl rfl rfl (Old.refl _)

theorem columns_ev (hK : ∀ tv t H, TabOf H tv t → C f_sort_Check [tv] H (errN (tabErr t)) H) (hL : ∀ tv t c H, TabOf H tv t → C f_sort_Column [tv, intV c] H (.bool (colOK t c)) H)
    (tv cv : AV) (t : List Row) (cols : List Int) (H : Heap) (ht : TabOf H tv t) (hc : view H 1 cv = some (cols.map intV)) : EFun C GT a_sort_Columns [tv, cv] H (errN (colErr t cols)) H := by
  have hk := hK tv t H ht
  cases he : tabErr t with
  | succ n =>
    rw [he] at hk
    have e : colErr t cols = n + 1 := by unfold colErr; rw [if_pos (by omega), he]
    rw [e]
    refine sCall0 hk ?_
    refine sOpt rfl ?_
    refine sCondT ?_
    exact sRetV rfl rfl rfl rfl (Old.refl _)
  | zero =>
    rw [he] at hk
    refine sCall0 hk ?_
    refine sOpt rfl ?_
    refine sCondF ?_
    refine sLenN cols.length hc (by simp) ?_
    refine sCond (fun h => ?_) (fun h => ?_)
    · simp only [decide_eq_true_eq] at h
      have e : colErr t cols = 4 := by unfold colErr; rw [if_neg (by omega), if_pos (by omega)]
      rw [e]; exact sRetV rfl rfl rfl rfl (Old.refl _)
    simp only [decide_eq_false_iff_not] at h
    refine sLenN cols.length hc (by simp) ?_
    refine sLoop (σ := Nat) (fun i => [(19, .int .i64 i), (0, tv), (17, cv), (18, .int .i64 cols.length)]) (fun i H1 => H1 = H ∧ i ≤ cols.length ∧ ∀ k c, k < i → cols[k]? = some c → colOK t c = true) (fun i => cols.length - i) 0 rfl ⟨rfl, Nat.zero_le _, fun k r h => absurd h (Nat.not_lt_zero _)⟩ (fun i H1 ⟨e, hi, hok⟩ => ?_)
    subst e
    refine sCond (fun hlt => ?_) (fun hlt => ?_)
    · simp only [decide_eq_true_eq, Int.ofNat_lt] at hlt
      have hci : cols[i]? = some cols[i] := List.getElem?_eq_getElem hlt
      refine sIdxV i (intV cols[i]) hc rfl (by rw [List.getElem?_map, hci]; rfl) (fun p hp => ?_)
      refine sLoadP (intV cols[i]) hp rfl ?_
      refine sCall0 (hL tv t cols[i] _ ht) ?_
      refine sCond (fun hb => ?_) (fun hb => ?_)
      · have e : colErr t cols = 1 := by
          unfold colErr; rw [if_neg (by omega), if_neg (by omega), if_pos (any_at hci hb)]
        rw [e]; exact sRetV rfl rfl rfl rfl (Old.refl _)
      · refine sW64n (r := i + 1) rfl (by omega) ?_
        refine sNext (i + 1) rfl ⟨rfl, by omega, fun k c hk hkc => ?_⟩ (by omega)
        by_cases e : k = i
        · subst e; rw [hci] at hkc; cases hkc; simpa using hb
        · exact hok k c (by omega) hkc
    · simp only [decide_eq_false_iff_not, Int.ofNat_lt] at hlt
      have e : colErr t cols = 0 := by
        unfold colErr; rw [if_neg (by omega), if_neg (by omega), if_neg ?_]
        rw [any_no fun k c hk hkc => by rw [hok k c (by omega) hkc]; rfl]; simp
      rw [e]; exact sRetV rfl rfl rfl rfl (Old.refl _)

/-! ### Rows against one another -/

structure Key where
  col : Int
  down : Bool
  deriving DecidableEq, Inhabited
def keyV (k : Key) : AV := .agg [intV k.col, .bool k.down]
def keyC (a b : Row) (k : Key) : Int := if k.down = true then - cmpV (a.getD k.col.toNat default) (b.getD k.col.toNat default) else cmpV (a.getD k.col.toNat default) (b.getD k.col.toNat default)
def cmpK (a b : Row) : List Key → Int
  | [] => 0
  | k :: ks => if (keyC a b k != 0) = true then keyC a b k else cmpK a b ks
def KeyIn (a : Row) (k : Key) : Prop := 0 ≤ k.col ∧ k.col < (a.length : Int)

theorem cmpI_range (a b : Int) : -1 ≤ cmpI a b ∧ cmpI a b ≤ 1 := by unfold cmpI; split <;> (try split) <;> omega
theorem cmpS_range (a b : List UInt8) : -1 ≤ cmpS a b ∧ cmpS a b ≤ 1 := by unfold cmpS; split <;> (try split) <;> omega
theorem cmpV_range (a b : Val) : -1 ≤ cmpV a b ∧ cmpV a b ≤ 1 := by
  have h1 := cmpI_range a.kind b.kind
  have h2 := cmpI_range a.num b.num
  have h3 := cmpS_range a.text b.text
  simp only [cmpV, orI]
  split
  · exact h1
  · split
    · exact h2
    · split
      · exact h3
      · omega

theorem compare_ev (hV : ∀ a b H, C f_value_Compare [valV a, valV b] H (intV (cmpV a b)) H) (xa xb kv : AV) (a b : Row) (ks : List Key) (H : Heap) (ha : RowOf xa a) (hb : RowOf xb b) (hk : view H 2 kv = some (ks.map keyV))
    (hia : ∀ k ∈ ks, KeyIn a k) (hib : ∀ k ∈ ks, KeyIn b k) (hl : ks.length ≤ 1000000000000) : EFun C GT a_sort_Compare [xa, xb, kv] H (intV (cmpK a b ks)) H := by
  refine sLenN ks.length hk (by simp) ?_
  refine sLoop (σ := Nat) (fun i => [(12, .int .i64 i), (1, xb), (0, xa), (10, kv), (11, .int .i64 ks.length)]) (fun i H1 => Old H H1 ∧ i ≤ ks.length ∧ cmpK a b (ks.drop i) = cmpK a b ks) (fun i => ks.length - i) 0 rfl ⟨Old.refl _, Nat.zero_le _, rfl⟩ (fun i H1 ⟨hO, hi, hcmp⟩ => ?_)
  refine sCond (fun hlt => ?_) (fun hlt => ?_)
  · simp only [decide_eq_true_eq, Int.ofNat_lt] at hlt
    have hki : ks[i]? = some ks[i] := List.getElem?_eq_getElem hlt
    rw [drop_of_get hki] at hcmp
    obtain ⟨a0, a1⟩ := hia ks[i] (List.mem_of_getElem? hki)
    obtain ⟨b0, b1⟩ := hib ks[i] (List.mem_of_getElem? hki)
    generalize hkk : ks[i] = kk at *
    have hav : a[kk.col.toNat]? = some (a.getD kk.col.toNat default) := by rw [List.getD_eq_getElem?_getD, List.getElem?_eq_getElem (by omega)]; rfl
    have hbv : b[kk.col.toNat]? = some (b.getD kk.col.toNat default) := by rw [List.getD_eq_getElem?_getD, List.getElem?_eq_getElem (by omega)]; rfl
    have hkc : keyC a b kk = if kk.down = true then - cmpV (a.getD kk.col.toNat default) (b.getD kk.col.toNat default) else cmpV (a.getD kk.col.toNat default) (b.getD kk.col.toNat default) := rfl
    generalize a.getD kk.col.toNat default = va at hav hkc
    generalize b.getD kk.col.toNat default = vb at hbv hkc
    refine sIdxV i (keyV kk) (view_old hO hk) rfl (by rw [List.getElem?_map, hki]; rfl) (fun p hp => ?_)
    refine sLoadP (keyV kk) hp rfl ?_
    refine sStoreBox push_last rfl rfl (by simp) ?_
    have hO2 := (hO.push [ABlk.box [.int .i64 0, .bool false]]).set (hO.1) (.box (splice [.int .i64 0, .bool false] (0 + 0) (keyV kk).cells))
    refine sLoadBox (intV kk.col) (set_at push_last) rfl ?_
    refine sIdxO kk.col.toNat (valV va) ha (Int.toNat_of_nonneg a0).symm (ha.get [] hav).2 ?_
    refine sLoadL (valV va) rfl ?_
    refine sLoadBox (intV kk.col) (set_at push_last) rfl ?_
    refine sIdxO kk.col.toNat (valV vb) hb (Int.toNat_of_nonneg a0).symm (hb.get [] hbv).2 ?_
    refine sLoadL (valV vb) rfl ?_
    refine sCall0 (hV va vb _) ?_
    refine sLoadBox (.bool kk.down) (set_at push_last) rfl ?_
    have hrg := cmpV_range va vb
    have fin : ∀ c : Int, c = keyC a b kk → -1 ≤ c ∧ c ≤ 1 → True := fun _ _ _ => trivial
    refine sCond (fun hd => ?_) (fun hd => ?_)
    · have hc : keyC a b kk = - cmpV va vb := by rw [hkc, if_pos hd]
      have hneg : aUn .neg (intV (cmpV va vb)) = some (intV (- cmpV va vb)) := by
        simp only [aUn, intV]
        rw [IntWalk.i64_in _ (by omega), Int.zero_sub]
      refine sOpt hneg ?_
      refine sCond (fun hne => ?_) (fun hne => ?_)
      · have e : cmpK a b ks = - cmpV va vb := by rw [← hcmp]; simp only [cmpK, hc, hne, if_true]
        rw [e]; exact sRetV rfl rfl rfl rfl hO2
      · refine sW64n (r := i + 1) rfl (by omega) ?_
        refine sNext (i + 1) rfl ⟨hO2, by omega, ?_⟩ (by omega)
        rw [← hcmp]; simp only [cmpK, hc, hne, Bool.false_eq_true, if_false]
    · have hc : keyC a b kk = cmpV va vb := by rw [hkc, if_neg (by rw [hd]; simp)]
      refine sCond (fun hne => ?_) (fun hne => ?_)
      · have e : cmpK a b ks = cmpV va vb := by rw [← hcmp]; simp only [cmpK, hc, hne, if_true]
        rw [e]; exact sRetV rfl rfl rfl rfl hO2
      · refine sW64n (r := i + 1) rfl (by omega) ?_
        refine sNext (i + 1) rfl ⟨hO2, by omega, ?_⟩ (by omega)
        rw [← hcmp]; simp only [cmpK, hc, hne, Bool.false_eq_true, if_false]
  · simp only [decide_eq_false_iff_not, Int.ofNat_lt] at hlt
    have e : cmpK a b ks = 0 := by rw [← hcmp, List.drop_eq_nil_iff.2 (by omega)]; rfl
    rw [e]; exact sRetV rfl rfl rfl rfl hO

/-! ### slices -/

end
end Go.AM
