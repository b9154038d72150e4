/- The reference's Sort; the law SortRows. Own work. -/
import Derived.Test.YtniijfcjdlhfcaaDoorT3
import Derived.Test.YtniijfcjdlhfcaaDoorSst
set_option linter.all false
namespace Go.AM

/-! ### How the reference holds values against each other -/

def lessR (a b : Val) : Bool := if a.kind = b.kind then (if a.kind = 2 then Op.bytesLess a.text b.text else decide (a.num < b.num)) else decide (a.kind < b.kind)
def cmpR (a b : Val) : Int := if lessR a b = true then -1 else if lessR b a = true then 1 else 0

theorem valOK_parts {v : Val} (h : valOK v = true) : (v.kind = 2 → v.num = 0) ∧ (v.kind ≠ 2 → v.text = []) := by
  unfold valOK at h
  simp only [beq_iff_eq] at h
  split at h
  · rename_i e; simp only [Bool.and_eq_true, beq_iff_eq] at h; exact ⟨fun x => by omega, fun _ => h.2⟩
  · split at h
    · rename_i e; simp only [beq_iff_eq] at h; exact ⟨fun x => by omega, fun _ => h⟩
    · split at h
      · rename_i e; simp only [Bool.and_eq_true, beq_iff_eq] at h; exact ⟨fun _ => h.1, fun x => absurd e x⟩
      · split at h
        · rename_i e; simp only [Bool.and_eq_true, beq_iff_eq] at h; exact ⟨fun x => by omega, fun _ => h.2⟩
        · split at h
          · rename_i e; simp only [Bool.and_eq_true, beq_iff_eq] at h; exact ⟨fun x => by omega, fun _ => h.2⟩
          · cases h
theorem cmpI_val (a b : Int) : cmpI a b = if a < b then -1 else if a = b then 0 else 1 := by
  unfold cmpI
  repeat' split
  all_goals omega
theorem cmpR_eq {a b : Val} (ha : valOK a = true) (hb : valOK b = true) : cmpR a b = cmpV a b := by
  obtain ⟨a1, a2⟩ := valOK_parts ha
  obtain ⟨b1, b2⟩ := valOK_parts hb
  unfold cmpR cmpV lessR
  simp only [orI, cmpI_val, cmpS_val]
  by_cases hk : a.kind = b.kind
  · simp only [hk, if_true, Int.lt_irrefl, if_false]
    by_cases h2 : b.kind = 2
    · rw [a1 (by omega), b1 h2]
      simp only [h2, if_true]
      cases h : Op.bytesLess a.text b.text with
      | true => simp
      | false =>
        by_cases e : a.text = b.text
        · simp [e, bytesLess_self]
        · simp [e, bytesLess_total _ _ e h]
    · rw [a2 (by omega), b2 h2]
      simp only [h2, if_false]
      by_cases h3 : a.num < b.num
      · simp [h3]
      · by_cases h4 : a.num = b.num
        · simp [h4, Op.bytesLess]
        · have : b.num < a.num := by omega
          simp [h3, h4, this]
  · simp only [hk, if_false, Ne.symm hk]
    by_cases h3 : a.kind < b.kind
    · simp [h3]
    · have : b.kind < a.kind := by omega
      simp [h3, this]

/-! ### Insertion, from behind -/

theorem insL_split {lt : Nat → Nat → Bool} (x : Nat) : ∀ (l : List Nat) (k : Nat), k ≤ l.length → (∀ p y, p < k → l[p]? = some y → lt x y = false) → (∀ y, l[k]? = some y → lt x y = true) → insL lt x l = l.take k ++ x :: l.drop k
  | [], k, hk, _, _ => by
    have : k = 0 := by simpa using hk
    subst this; rfl
  | y :: l, 0, _, _, h => by
    have := h y rfl
    simp only [insL, this, if_true, List.take_zero, List.nil_append, List.drop_zero]
  | y :: l, k + 1, hk, h, h' => by
    have h0 := h 0 y (by omega) rfl
    simp only [insL, h0, Bool.false_eq_true, if_false, List.take_succ_cons, List.cons_append, List.drop_succ_cons]
    rw [insL_split x l k (by simpa using hk) (fun p z hp hz => h (p + 1) z (by omega) (by simpa using hz)) (fun z hz => h' z (by simpa using hz))]

/-- A slice of a function's own; it may be empty. -/
def OwnsE (H0 H : Heap) (v : AV) (k : Nat) (xs : List AV) : Prop :=
  (v = .lst (some true) 0 [] ∧ xs = []) ∨ ∃ b, v = .sl (some true) b k 0 xs.length ∧ H0.length ≤ b ∧ H[b]? = some (.row k xs)
theorem OwnsE.nil (H0 H : Heap) (k : Nat) : OwnsE H0 H (.lst (some true) 0 []) k [] := .inl ⟨rfl, rfl⟩
theorem OwnsE.toOwns {H0 H : Heap} {v : AV} {k : Nat} {xs : List AV} (h : OwnsE H0 H v k xs) (hx : xs ≠ []) : Owns H0 H v k xs := by
  rcases h with ⟨_, h⟩ | ⟨b, h1, h2, h3⟩
  · exact absurd h hx
  · exact .inr ⟨b, h1, h2, h3, hx⟩
theorem OwnsE.keep {H0 H H' : Heap} {v : AV} {k : Nat} {xs : List AV} (h : OwnsE H0 H v k xs) (hk : ∀ b x, v.blk = some b → H[b]? = some x → H'[b]? = some x) : OwnsE H0 H' v k xs := by
  rcases h with h | ⟨b, rfl, h1, h2⟩
  · exact .inl h
  · exact .inr ⟨b, rfl, h1, hk b _ rfl h2⟩
theorem OwnsE.push {H0 H : Heap} {v : AV} {k : Nat} {xs : List AV} (h : OwnsE H0 H v k xs) (x : ABlk) : OwnsE H0 (H ++ [x]) v k xs := h.keep fun _ _ _ hx => push_old hx
theorem sAppendE {H0 H : Heap} {v y : AV} {k bytes : Nat} {xs ys : List AV} {K : AV → Heap → Prop} (ho : OwnsE H0 H v k xs) (hH : Old H0 H) (hy : view H k y = some ys) (hm : (xs.length + ys.length) * bytes ≤ 140737488355328) (hl : xs.length + ys.length ≤ 9223372036854775807)
    (q : ∀ v' H', OwnsE H0 H' v' k (xs ++ ys) → Old H0 H' → v'.blk = some H.length → (∀ c x, v.blk ≠ some c → H[c]? = some x → H'[c]? = some x) → K v' H') : actP (.append k bytes) [v, y] H K := by
  rcases ho with ⟨rfl, rfl⟩ | ⟨b, rfl, h1, h2⟩
  · simp only [List.length_nil, Nat.zero_add] at hl hm
    refine sAct (v := .sl (some true) H.length k 0 ys.length) (H' := H ++ [.row k ys]) ?_ ?_
    · simp only [astep, hy]
      rw [if_pos ⟨by omega, by omega⟩]
    · exact q _ _ (.inr ⟨_, rfl, hH.1, push_last⟩) (hH.push _) rfl fun _ _ _ hx => push_old hx
  · refine sAct (v := .sl (some true) H.length k 0 (xs.length + ys.length)) (H' := H.set b .dead ++ [.row k (xs ++ ys)]) ?_ ?_
    · simp only [astep, hy, h2]
      rw [if_pos ⟨trivial, trivial, by omega, by omega, by omega⟩]
      simp
    · refine q _ _ (.inr ⟨_, by rw [List.length_append], hH.1, ?_⟩) ((hH.set h1 _).push _) rfl fun c x hc hx => ?_
      · have : (H.set b .dead).length = H.length := List.length_set
        rw [← this]; exact push_last
      · exact push_old (set_other (fun e => hc (by rw [e]; rfl)) hx)

/-- A beginning, an end of a slice of one's own. -/
theorem own_take {H0 H : Heap} {v : AV} {xs : List AV} (h : Owns H0 H v 1 xs) {k : Nat} (hk : k ≤ xs.length) : ∃ v', aSlice (some 1) v none (some (.int .i64 (k : Int))) = some v' ∧ v'.blk = v.blk ∧ ∀ H', (∀ b x, v.blk = some b → H[b]? = some x → H'[b]? = some x) → view H' 1 v' = some (xs.take k) := by
  rcases h with ⟨rfl, rfl⟩ | ⟨b, rfl, h1, h2, h3⟩
  · have : k = 0 := by simpa using hk
    subst this
    exact ⟨_, rfl, rfl, fun H' _ => rfl⟩
  · refine ⟨.sl (cutQ (some true) 0 k) b 1 0 k, ?_, rfl, fun H' hH' => ?_⟩
    · have e : aBounds xs.length none (some (.int .i64 (k : Int))) = some (0, k) := by
        simp only [aBounds, aHi, aLo]
        rw [if_pos ⟨by omega, by omega⟩]
        simp
      simp only [aSlice, if_true, e, Option.map_some, Nat.zero_add, Nat.sub_zero]
    · have := hH' b _ rfl h2
      simp only [view, if_true, this]
      rw [if_pos ⟨trivial, by omega⟩]
      simp
theorem own_drop {H0 H : Heap} {v : AV} {xs : List AV} (h : Owns H0 H v 1 xs) {k : Nat} (hk : k ≤ xs.length) : ∃ v', aSlice (some 1) v (some (.int .i64 (k : Int))) none = some v' ∧ v'.blk = v.blk ∧ ∀ H', (∀ b x, v.blk = some b → H[b]? = some x → H'[b]? = some x) → view H' 1 v' = some (xs.drop k) := by
  rcases h with ⟨rfl, rfl⟩ | ⟨b, rfl, h1, h2, h3⟩
  · have : k = 0 := by simpa using hk
    subst this
    exact ⟨_, rfl, rfl, fun H' _ => rfl⟩
  · refine ⟨.sl (cutQ (some true) k xs.length) b 1 k (xs.length - k), ?_, rfl, fun H' hH' => ?_⟩
    · have e : aBounds xs.length (some (.int .i64 (k : Int))) none = some (k, xs.length) := by
        simp only [aBounds, aHi, aLo]
        rw [if_pos ⟨by omega, by omega⟩]
        simp
      simp only [aSlice, if_true, e, Option.map_some, Nat.zero_add]
    · have := hH' b _ rfl h2
      simp only [view, if_true, this]
      rw [if_pos ⟨trivial, by omega⟩]
      rw [List.take_of_length_le (by rw [List.length_drop]; omega)]


theorem neg_opt3 (z : Int) (h : -1 ≤ z ∧ z ≤ 1) : aUn .neg (intV z) = some (intV (-z)) := by
  simp only [aUn, intV]
  rw [IntWalk.i64_in _ (by omega), Int.zero_sub]

section
variable {C : CSpec} {GT : Nat → Option AV}

theorem less3_ev (a b : Val) (H : Heap) : EFun C GT a_sccref1_less [valV a, valV b] H (.bool (lessR a b)) H := by
  refine sBox rfl ?_
  refine sBox rfl ?_
  have hO : Old H ((H ++ [ABlk.box (valV a).cells]) ++ [ABlk.box (valV b).cells]) := ((Old.refl H).push _).push _
  have ha : ((H ++ [ABlk.box (valV a).cells]) ++ [ABlk.box (valV b).cells])[H.length]? = some (.box (valV a).cells) := push_old push_last
  have hb : ((H ++ [ABlk.box (valV a).cells]) ++ [ABlk.box (valV b).cells])[(H ++ [ABlk.box (valV a).cells]).length]? = some (.box (valV b).cells) := push_last
  refine sLoadBox (intV a.kind) ha rfl ?_
  refine sLoadBox (intV b.kind) hb rfl ?_
  refine sCond (fun h => ?_) (fun h => ?_)
  · have h : a.kind ≠ b.kind := by simpa using h
    refine sLoadBox (intV a.kind) ha rfl ?_
    refine sLoadBox (intV b.kind) hb rfl ?_
    have e : lessR a b = decide (a.kind < b.kind) := by unfold lessR; rw [if_neg h]
    rw [e]
    exact sRetV rfl rfl rfl rfl hO
  · have h : a.kind = b.kind := by simpa using h
    refine sLoadBox (intV a.kind) ha rfl ?_
    refine sCond (fun h2 => ?_) (fun h2 => ?_)
    · have h2 : a.kind = 2 := by simpa using h2
      refine sLoadBox (.str a.text) ha rfl ?_
      refine sLoadBox (.str b.text) hb rfl ?_
      have e : lessR a b = Op.bytesLess a.text b.text := by unfold lessR; rw [if_pos h, if_pos h2]
      rw [e]
      exact sRetV rfl rfl rfl rfl hO
    · have h2 : a.kind ≠ 2 := by simpa using h2
      refine sLoadBox (intV a.num) ha rfl ?_
      refine sLoadBox (intV b.num) hb rfl ?_
      have e : lessR a b = decide (a.num < b.num) := by unfold lessR; rw [if_pos h, if_neg h2]
      rw [e]
      exact sRetV rfl rfl rfl rfl hO

theorem compare3_ev (hL : ∀ a b H, C f_sccref1_less [valV a, valV b] H (.bool (lessR a b)) H) (a b : Val) (H : Heap) : EFun C GT a_sccref1_Compare [valV a, valV b] H (intV (cmpR a b)) H := by
  refine sBox rfl ?_
  refine sBox rfl ?_
  have hO : Old H ((H ++ [ABlk.box (valV a).cells]) ++ [ABlk.box (valV b).cells]) := ((Old.refl H).push _).push _
  have ha : ((H ++ [ABlk.box (valV a).cells]) ++ [ABlk.box (valV b).cells])[H.length]? = some (.box (valV a).cells) := push_old push_last
  have hb : ((H ++ [ABlk.box (valV a).cells]) ++ [ABlk.box (valV b).cells])[(H ++ [ABlk.box (valV a).cells]).length]? = some (.box (valV b).cells) := push_last
  refine sLoadBox (valV a) ha rfl ?_
  refine sLoadBox (valV b) hb rfl ?_
  refine sCall0 (hL a b _) ?_
  refine sLoadBox (valV b) hb rfl ?_
  refine sLoadBox (valV a) ha rfl ?_
  refine sCall0 (hL b a _) ?_
  refine sCond (fun h => ?_) (fun h => ?_)
  · have e : cmpR a b = -1 := by unfold cmpR; rw [if_pos h]
    rw [e]
    exact sRetV rfl rfl rfl rfl hO
  · refine sCond (fun h2 => ?_) (fun h2 => ?_)
    · have e : cmpR a b = 1 := by unfold cmpR; rw [if_neg (by rw [h]; simp), if_pos h2]
      rw [e]
      exact sRetV rfl rfl rfl rfl hO
    · have e : cmpR a b = 0 := by unfold cmpR; rw [if_neg (by rw [h]; simp), if_neg (by rw [h2]; simp)]
      rw [e]
      exact sRetV rfl rfl rfl rfl hO

theorem ahead3_ev (hV : ∀ a b H, C f_sccref1_Compare [valV a, valV b] H (intV (cmpR a b)) H) (xa xb kv : AV) (a b : Row) (ks : List Key) (H : Heap) (ha : RowOf xa a) (hb : RowOf xb b) (hk : LstOf kv 2 (ks.map keyV))
    (hia : ∀ k ∈ ks, KeyIn a k) (hib : ∀ k ∈ ks, KeyIn b k) (hva : ∀ v ∈ a, valOK v = true) (hvb : ∀ v ∈ b, valOK v = true) (hl : ks.length ≤ 1000000000000) : EFun C GT a_sccref3_Ahead [xa, xb, kv] H (.bool (decide (cmpK a b ks < 0))) H := by
  refine sLoop (σ := Nat) (fun i => [(7, nV i), (2, kv), (1, xb), (0, xa)]) (fun i H1 => H1 = H ∧ i ≤ ks.length ∧ cmpK a b (ks.drop i) = cmpK a b ks) (fun i => ks.length - i) 0 rfl ⟨rfl, Nat.zero_le _, rfl⟩ (fun i H1 ⟨e1, hi, hcmp⟩ => ?_)
  subst e1
  refine sLenO ks.length hk (by simp) ?_
  refine sCond (fun hlt => ?_) (fun hlt => ?_)
  · simp only [decide_eq_true_eq, Int.ofNat_lt] at hlt
    have hke : ks[i]? = some ks[i] := List.getElem?_eq_getElem hlt
    have hkm : (ks.map keyV)[i]? = some (keyV ks[i]) := by rw [List.getElem?_map, hke]; rfl
    have hmem : ks[i] ∈ ks := List.mem_of_getElem? hke
    obtain ⟨c0, ca⟩ := hia _ hmem
    obtain ⟨_, cb⟩ := hib _ hmem
    have hxa : a[ks[i].col.toNat]? = some (a.getD ks[i].col.toNat default) := by
      rw [List.getD_eq_getElem?_getD, List.getElem?_eq_getElem (by omega)]; rfl
    have hxb : b[ks[i].col.toNat]? = some (b.getD ks[i].col.toNat default) := by
      rw [List.getD_eq_getElem?_getD, List.getElem?_eq_getElem (by omega)]; rfl
    have hdrop : ks.drop i = ks[i] :: ks.drop (i + 1) := List.drop_eq_getElem_cons hlt
    rw [hdrop, cmpK] at hcmp
    have ecv := cmpR_eq (hva _ (List.mem_of_getElem? hxa)) (hvb _ (List.mem_of_getElem? hxb))
    have hrng := cmpV_range (a.getD ks[i].col.toNat default) (b.getD ks[i].col.toNat default)
    refine sIdxO i (keyV ks[i]) hk rfl hkm ?_
    refine sLoadL (intV ks[i].col) rfl ?_
    refine sIdxO ks[i].col.toNat (valV (a.getD ks[i].col.toNat default)) ha (Int.toNat_of_nonneg c0).symm (ha.get [] hxa).2 ?_
    refine sLoadL (valV (a.getD ks[i].col.toNat default)) rfl ?_
    refine sIdxO i (keyV ks[i]) hk rfl hkm ?_
    refine sLoadL (intV ks[i].col) rfl ?_
    refine sIdxO ks[i].col.toNat (valV (b.getD ks[i].col.toNat default)) hb (Int.toNat_of_nonneg c0).symm (hb.get [] hxb).2 ?_
    refine sLoadL (valV (b.getD ks[i].col.toNat default)) rfl ?_
    have hcall := hV (a.getD ks[i].col.toNat default) (b.getD ks[i].col.toNat default) H1
    rw [ecv] at hcall
    refine sCall0 hcall ?_
    refine sIdxO i (keyV ks[i]) hk rfl hkm ?_
    refine sLoadL (.bool ks[i].down) rfl ?_
    refine sCond (fun hdn => ?_) (fun hdn => ?_)
    · have ek : keyC a b ks[i] = - cmpV (a.getD ks[i].col.toNat default) (b.getD ks[i].col.toNat default) := by unfold keyC; rw [if_pos hdn]
      refine sOpt (neg_opt3 _ hrng) ?_
      refine sCond (fun hne => ?_) (fun hne => ?_)
      · have e : cmpK a b ks = - cmpV (a.getD ks[i].col.toNat default) (b.getD ks[i].col.toNat default) := by
          rw [← hcmp, ek, if_pos hne]
        rw [e]
        exact sRetV rfl rfl rfl rfl (Old.refl _)
      · refine sW64n (r := i + 1) rfl (by omega) ?_
        refine sNext (i + 1) rfl ⟨rfl, by omega, ?_⟩ (by show _ < _; omega)
        rw [← hcmp, ek, if_neg (by rw [hne]; simp)]
    · have ek : keyC a b ks[i] = cmpV (a.getD ks[i].col.toNat default) (b.getD ks[i].col.toNat default) := by unfold keyC; rw [if_neg (by rw [hdn]; simp)]
      refine sCond (fun hne => ?_) (fun hne => ?_)
      · have e : cmpK a b ks = cmpV (a.getD ks[i].col.toNat default) (b.getD ks[i].col.toNat default) := by
          rw [← hcmp, ek, if_pos hne]
        rw [e]
        exact sRetV rfl rfl rfl rfl (Old.refl _)
      · refine sW64n (r := i + 1) rfl (by omega) ?_
        refine sNext (i + 1) rfl ⟨rfl, by omega, ?_⟩ (by show _ < _; omega)
        rw [← hcmp, ek, if_neg (by rw [hne]; simp)]
  · simp only [decide_eq_false_iff_not, Int.ofNat_lt] at hlt
    have ei : i = ks.length := by omega
    subst ei
    rw [List.drop_length] at hcmp
    have e : decide (cmpK a b ks < 0) = false := by rw [← hcmp]; rfl
    rw [e]
    exact sRetV rfl rfl rfl rfl (Old.refl _)

theorem cols3_ev (kv : AV) (ks : List Key) (H : Heap) (hk : LstOf kv 2 (ks.map keyV)) (hl : ks.length ≤ 8796093022208) : EFun C GT a_sccref3_Cols [kv] H (lstF 1 ((colsOf ks).map intV)) H := by
  refine sLoop (fun s : SC => [(4, .int .i64 s.i), (0, kv), (3, s.v)]) (fun s H' => Old H H' ∧ s.i ≤ ks.length ∧ Owns H H' s.v 1 ((colsOf (ks.take s.i)).map intV)) (fun s => ks.length - s.i) ⟨0, .lst (some true) 0 []⟩ rfl
    ⟨Old.refl _, Nat.zero_le _, Owns.nil _ _ _⟩ (fun ⟨i, v⟩ H1 ⟨hO, hi, hown⟩ => ?_)
  simp only at hi hown
  dsimp only
  refine sLenO ks.length hk (by simp) ?_
  refine sCond (fun hlt => ?_) (fun hlt => ?_)
  · simp only [decide_eq_true_eq, Int.ofNat_lt] at hlt
    have hki : ks[i]? = some ks[i] := List.getElem?_eq_getElem hlt
    refine sIdxO i (keyV ks[i]) hk rfl (by rw [List.getElem?_map, hki]; rfl) ?_
    refine sLoadL (intV ks[i].col) rfl ?_
    refine sBslice (vs' := [intV ks[i].col]) rfl rfl ?_
    refine sAppendW (H0 := H) (hown.push _) (hO.push _) view_new ?_ ?_ (by simp) (fun v' H' ho' hO' hblk hfr => ?_)
    · simp only [colsOf, List.length_map, List.length_take, List.length_cons, List.length_nil]; omega
    · simp only [colsOf, List.length_map, List.length_take, List.length_cons, List.length_nil]; omega
    refine sW64n (r := i + 1) rfl (by omega) ?_
    refine sNext (SC.mk (i + 1) v') rfl ⟨hO', by simp only; omega, ?_⟩ (by simp only; omega)
    have e : (colsOf (ks.take (i + 1))).map intV = (colsOf (ks.take i)).map intV ++ [intV ks[i].col] := by
      rw [List.take_succ_eq_append_getElem hlt]; simp only [colsOf, List.map_append, List.map_cons, List.map_nil]
    simp only [e]
    exact ho'
  · simp only [decide_eq_false_iff_not, Int.ofNat_lt] at hlt
    have ei : i = ks.length := by omega
    subst ei
    rw [List.take_length] at hown
    obtain ⟨H', hf, hO', _⟩ := hown.frz hO
    exact sRetF (v0 := v) rfl rfl hf (lstF_bel _ _ _) hO'

theorem rowLt_is {t : List Row} {ks : List Key} {x y : Nat} (hx : x < t.length) (hy : y < t.length) : rowLt t ks x y = decide (cmpK t[x] t[y] ks < 0) := by
  have hxe : t[x]? = some t[x] := List.getElem?_eq_getElem hx
  have hye : t[y]? = some t[y] := List.getElem?_eq_getElem hy
  show decide (rowC t ks x y < 0) = _
  unfold rowC
  simp [List.getD_eq_getElem?_getD, hxe, hye]

theorem tab_vals {t : List Row} (h : tabErr t = 0) : ∀ (i : Nat) (r : Row), t[i]? = some r → ∀ v ∈ r, valOK v = true := by
  intro i r hr v hv
  unfold tabErr at h
  split at h
  · omega
  split at h
  · omega
  split at h
  · omega
  split at h
  · omega
  rename_i h1
  simp only [List.any_eq_true, Bool.not_eq_true', not_exists, not_and, Bool.not_eq_false] at h1
  exact h1 r (List.mem_of_getElem? hr) v hv

theorem nil_blk (b : Nat) : AV.blk (.lst (some true) 0 []) ≠ some b := by simp [AV.blk]

structure SV where
  i : Nat
  v : AV

theorem sort3_ev (hA : ∀ xa xb kv (a b : Row) ks H, RowOf xa a → RowOf xb b → LstOf kv 2 (ks.map keyV) → (∀ k ∈ ks, KeyIn a k) → (∀ k ∈ ks, KeyIn b k) → (∀ v ∈ a, valOK v = true) → (∀ v ∈ b, valOK v = true) → ks.length ≤ 1000000000000 → C f_sccref3_Ahead [xa, xb, kv] H (.bool (decide (cmpK a b ks < 0))) H)
    (tv kv : AV) (t : List Row) (ks : List Key) (H : Heap) (ht : TabOf H tv t) (hk : LstOf kv 2 (ks.map keyV)) (he : colErr t (colsOf ks) = 0) : EFun C GT a_sccref3_Sort [tv, kv] H (lstF 1 ((sortL t ks).map nV)) H := by
  obtain ⟨h60, h12, hwide, hin⟩ := tab_ok he
  have hk12 : ks.length ≤ 12 := by unfold colsOf at h12; rw [List.length_map] at h12; exact h12
  have hkin : ∀ (j : Nat) (r : Row), t[j]? = some r → ∀ k ∈ ks, KeyIn r k := fun j r hj k hk => hin j r hj k.col (List.mem_map.2 ⟨k, hk, rfl⟩)
  have ht0 : tabErr t = 0 := by
    unfold colErr at he
    split at he
    · omega
    · omega
  have hvals := tab_vals ht0
  obtain ⟨rows, hv, hl, hr⟩ := ht
  have hord := rowLt_ok t ks
  refine sLoop (fun s : SV => [(6, nV s.i), (5, s.v), (1, kv), (0, tv)]) (fun s H' => Old H H' ∧ s.i ≤ t.length ∧ Owns H H' s.v 1 ((srtL (rowLt t ks) s.i).map nV)) (fun s => t.length - s.i) ⟨0, .lst (some true) 0 []⟩ rfl
    ⟨Old.refl _, Nat.zero_le _, Owns.nil _ _ _⟩ (fun ⟨i, ov⟩ H1 ⟨hO, hi, hown⟩ => ?_)
  simp only at hi hown
  dsimp only
  refine sLenN t.length (view_old hO hv) hl ?_
  refine sCond (fun hlt => ?_) (fun hlt => ?_)
  · simp only [decide_eq_true_eq, Int.ofNat_lt] at hlt
    have hsl := srtL_len (rowLt t ks) i
    have hsp := srtL_perm (rowLt t ks) i
    have hss := srtL_sorted hord i
    have hlt' : ∀ (p y : Nat), (srtL (rowLt t ks) i)[p]? = some y → y < i := fun p y hy => List.mem_range.1 (hsp.mem_iff.1 (List.mem_of_getElem? hy))
    have hnext : srtL (rowLt t ks) (i + 1) = insL (rowLt t ks) i (srtL (rowLt t ks) i) := rfl
    generalize srtL (rowLt t ks) i = L at hown hsl hss hlt' hnext
    have hti : t[i]? = some t[i] := List.getElem?_eq_getElem hlt
    obtain ⟨xi, hxi, hri⟩ := hr i _ hti
    refine sLenN i hown.view (by rw [List.length_map, hsl]) ?_
    refine sLoop (σ := Nat) (fun k => [(7, nV k), (1, kv), (0, tv), (6, nV i), (5, ov)]) (fun k H' => H' = H1 ∧ k ≤ i ∧ ∀ y, L[k]? = some y → rowLt t ks i y = true) (fun k => k) i rfl ⟨rfl, Nat.le_refl _, fun y hy => by
      have := (List.getElem?_eq_some_iff.1 hy).1; omega⟩ (fun k H2 ⟨e2, hki, hfirst⟩ => ?_)
    subst e2
    -- out of the inner loop
    have out : ∀ P : Prop, (0 < k → ∀ y, L[k - 1]? = some y → rowLt t ks i y = false) → (insL (rowLt t ks) i L = L.take k ++ i :: L.drop k → P) → P := fun P h hP => by
      refine hP (insL_split i L k (by omega) (fun p y hp hy => ?_) hfirst)
      obtain ⟨z, hz⟩ : ∃ z, L[k - 1]? = some z := ⟨L[k - 1]'(by omega), List.getElem?_eq_getElem (by omega)⟩
      have h1 := h (by omega) z hz
      by_cases ep : p = k - 1
      · subst ep; rw [hz] at hy; cases hy; exact h1
      · obtain ⟨p1, p2⟩ := List.getElem?_eq_some_iff.1 hy
        obtain ⟨q1, q2⟩ := List.getElem?_eq_some_iff.1 hz
        have hb := List.pairwise_iff_getElem.1 hss p (k - 1) p1 q1 (by omega)
        rw [p2, q2] at hb
        have hle : rowLt t ks z y = false := by
          rcases hb with hb | hb
          · exact hord.asym _ _ hb
          · exact hb.1
        exact hord.le y z i hle h1
    refine sCond (fun hgt => ?_) (fun hgt => ?_)
    · simp only [decide_eq_true_eq, gt_iff_lt] at hgt
      obtain ⟨y, hy⟩ : ∃ y, L[k - 1]? = some y := ⟨L[k - 1]'(by omega), List.getElem?_eq_getElem (by omega)⟩
      have hyi := hlt' (k - 1) y hy
      have hym : (L.map nV)[k - 1]? = some (nV y) := by rw [List.getElem?_map, hy]; rfl
      have hyt : y < t.length := by omega
      have hye : t[y]? = some t[y] := List.getElem?_eq_getElem hyt
      obtain ⟨xy, hxy, hry⟩ := hr y _ hye
      refine sIdxV i xi (view_old hO hv) rfl hxi (fun p hp => ?_)
      refine sLoadP xi hp (by rw [hri.cells]; rfl) ?_
      refine sW64n (r := k - 1) (by omega) (by omega) ?_
      refine sIdxV (k - 1) (nV y) hown.view rfl hym (fun p2 hp2 => ?_)
      refine sLoadP (nV y) hp2 rfl ?_
      refine sIdxV y xy (view_old hO hv) rfl hxy (fun p3 hp3 => ?_)
      refine sLoadP xy hp3 (by rw [hry.cells]; rfl) ?_
      refine sCall0 (hA xi xy kv t[i] t[y] ks _ hri hry hk (hkin _ _ hti) (hkin _ _ hye) (hvals _ _ hti) (hvals _ _ hye) (by omega)) ?_
      rw [← rowLt_is hlt hyt]
      refine sCondT ?_
      refine sCond (fun hc => ?_) (fun hc => ?_)
      · refine sW64n (r := k - 1) (by omega) (by omega) ?_
        refine sNext (k - 1) rfl ⟨rfl, by omega, fun z hz => ?_⟩ (by show _ < _; omega)
        rw [hy] at hz; cases hz; exact hc
      · refine out _ (fun _ z hz => by rw [hy] at hz; cases hz; exact hc) (fun hins => ?_)
        obtain ⟨s1, a1, b1, w1⟩ := own_take hown (k := k) (by rw [List.length_map]; omega)
        obtain ⟨s2, a2, b2, w2⟩ := own_drop hown (k := k) (by rw [List.length_map]; omega)
        refine sOpt a1 ?_
        refine sAppendE (H0 := H) (OwnsE.nil _ _ _) hO (w1 _ fun _ _ _ h => h) ?_ ?_ (fun v1 H3 ho3 hO3 hb3 hf3 => ?_)
        · simp only [List.length_nil, List.length_take, List.length_map]; omega
        · simp only [List.length_nil, List.length_take, List.length_map]; omega
        rw [List.nil_append] at ho3
        have hown3 : Owns H H3 ov 1 (L.map nV) := hown.keep fun b x hb hx => hf3 b x (nil_blk b) hx
        have hlt3 : ∀ b, ov.blk = some b → b < H2.length := fun b hb => (hown.lt hb).2
        refine sBslice (vs' := [nV i]) rfl rfl ?_
        refine sAppendE (H0 := H) (ho3.push _) (hO3.push _) view_new ?_ ?_ (fun v2 H4 ho4 hO4 hb4 hf4 => ?_)
        · simp only [List.length_take, List.length_map, List.length_cons, List.length_nil]; omega
        · simp only [List.length_take, List.length_map, List.length_cons, List.length_nil]; omega
        have hne3 : ∀ b, ov.blk = some b → v1.blk ≠ some b := fun b hb e => by
          rw [hb3] at e; simp only [Option.some.injEq] at e; have := hlt3 b hb; omega
        refine sOpt a2 ?_
        refine sAppendE (H0 := H) ho4 hO4 (w2 _ fun b x hb hx => hf4 b x (hne3 b hb) (push_old (hf3 b x (nil_blk b) hx))) ?_ ?_ (fun v3 H5 ho5 hO5 hb5 hf5 => ?_)
        · simp only [List.length_append, List.length_drop, List.length_take, List.length_map, List.length_cons, List.length_nil]; omega
        · simp only [List.length_append, List.length_drop, List.length_take, List.length_map, List.length_cons, List.length_nil]; omega
        refine sW64n (r := i + 1) rfl (by omega) ?_
        refine sNext (SV.mk (i + 1) v3) rfl ⟨hO5, by simp only; omega, ?_⟩ (by simp only; omega)
        have e5 : (L.map nV).take k ++ [nV i] ++ (L.map nV).drop k = (srtL (rowLt t ks) (i + 1)).map nV := by
          rw [hnext, hins]; simp only [List.map_append, List.map_take, List.map_drop, List.map_cons, List.append_assoc, List.singleton_append]
        simp only [← e5]
        exact ho5.toOwns (by simp)
    · simp only [decide_eq_false_iff_not, gt_iff_lt] at hgt
      refine out _ (fun h => absurd h (by omega)) (fun hins => ?_)
      refine sCondF ?_
      refine sCondF ?_
      obtain ⟨s1, a1, b1, w1⟩ := own_take hown (k := k) (by rw [List.length_map]; omega)
      obtain ⟨s2, a2, b2, w2⟩ := own_drop hown (k := k) (by rw [List.length_map]; omega)
      refine sOpt a1 ?_
      refine sAppendE (H0 := H) (OwnsE.nil _ _ _) hO (w1 _ fun _ _ _ h => h) ?_ ?_ (fun v1 H3 ho3 hO3 hb3 hf3 => ?_)
      · simp only [List.length_nil, List.length_take, List.length_map]; omega
      · simp only [List.length_nil, List.length_take, List.length_map]; omega
      rw [List.nil_append] at ho3
      have hown3 : Owns H H3 ov 1 (L.map nV) := hown.keep fun b x hb hx => hf3 b x (nil_blk b) hx
      have hlt3 : ∀ b, ov.blk = some b → b < H2.length := fun b hb => (hown.lt hb).2
      refine sBslice (vs' := [nV i]) rfl rfl ?_
      refine sAppendE (H0 := H) (ho3.push _) (hO3.push _) view_new ?_ ?_ (fun v2 H4 ho4 hO4 hb4 hf4 => ?_)
      · simp only [List.length_take, List.length_map, List.length_cons, List.length_nil]; omega
      · simp only [List.length_take, List.length_map, List.length_cons, List.length_nil]; omega
      have hne3 : ∀ b, ov.blk = some b → v1.blk ≠ some b := fun b hb e => by
        rw [hb3] at e; simp only [Option.some.injEq] at e; have := hlt3 b hb; omega
      refine sOpt a2 ?_
      refine sAppendE (H0 := H) ho4 hO4 (w2 _ fun b x hb hx => hf4 b x (hne3 b hb) (push_old (hf3 b x (nil_blk b) hx))) ?_ ?_ (fun v3 H5 ho5 hO5 hb5 hf5 => ?_)
      · simp only [List.length_append, List.length_drop, List.length_take, List.length_map, List.length_cons, List.length_nil]; omega
      · simp only [List.length_append, List.length_drop, List.length_take, List.length_map, List.length_cons, List.length_nil]; omega
      refine sW64n (r := i + 1) rfl (by omega) ?_
      refine sNext (SV.mk (i + 1) v3) rfl ⟨hO5, by simp only; omega, ?_⟩ (by simp only; omega)
      have e5 : (L.map nV).take k ++ [nV i] ++ (L.map nV).drop k = (srtL (rowLt t ks) (i + 1)).map nV := by
        rw [hnext, hins]; simp only [List.map_append, List.map_take, List.map_drop, List.map_cons, List.append_assoc, List.singleton_append]
      simp only [← e5]
      exact ho5.toOwns (by simp)
  · simp only [decide_eq_false_iff_not, Int.ofNat_lt] at hlt
    have ei : i = t.length := by omega
    subst ei
    obtain ⟨H', hf, hO', _⟩ := hown.frz hO
    exact sRetF (v0 := ov) rfl rfl hf (lstF_bel _ _ _) hO'


theorem errN_is (n : Nat) : ErrIs (errN n) n := by
  cases n with
  | zero => exact .inl ⟨rfl, rfl⟩
  | succ n => exact .inr rfl

theorem sort_rows_ev (hT : ∀ tv t H, TabOf H tv t → C f_sccref3_Table [tv] H (natV (tabErr t)) H) (hCk : ∀ tv t H, TabOf H tv t → C f_sort_Check [tv] H (errN (tabErr t)) H)
    (hE : ∀ x n e H, ErrIs x n → C f_sccsame_Error [x, .int .i64 e] H (.bool (n == e)) H)
    (hCo : ∀ kv ks H, LstOf kv 2 (ks.map keyV) → ks.length ≤ 8796093022208 → C f_sccref3_Cols [kv] H (lstF 1 ((colsOf ks).map intV)) H)
    (hCs : ∀ tv cv t cols H, TabOf H tv t → view H 1 cv = some (cols.map intV) → C f_sccref3_Columns [tv, cv] H (natV (colErr t cols)) H)
    (hS3 : ∀ tv kv t ks H, TabOf H tv t → LstOf kv 2 (ks.map keyV) → colErr t (colsOf ks) = 0 → C f_sccref3_Sort [tv, kv] H (lstF 1 ((sortL t ks).map nV)) H)
    (hI : ∀ va vb (xs ys : List Int) H, LstOf va 1 (xs.map intV) → LstOf vb 1 (ys.map intV) → xs.length ≤ 9223372036854775807 → C f_sccsame_Ints [va, vb] H (.bool (decide (xs = ys))) H)
    (hS : ∀ tv kv t ks H, TabOf H tv t → view H 2 kv = some (ks.map keyV) → ks.length ≤ 8796093022208 → C f_sort_Sort [tv, kv] H (sortV t ks) H)
    (hQ : ∀ tv kv lv t ks (l : List Int) H, TabOf H tv t → view H 2 kv = some (ks.map keyV) → ks.length ≤ 8796093022208 → view H 1 lv = some (l.map intV) → l.length ≤ 9223372036854775807 → C f_sort_Sorted [tv, kv, lv] H (sortedV t ks l) H)
    (tv kv lv : AV) (t : List Row) (ks : List Key) (l : List Int) (H : Heap) (ht : TabOf H tv t) (hk : LstOf kv 2 (ks.map keyV)) (hkl : ks.length ≤ 8796093022208) (hl : LstOf lv 1 (l.map intV)) (hll : l.length ≤ 9223372036854775807) :
    EFun C GT a_scclaw3_SortRows [tv, kv, lv] H (.bool true) H := by
  have e1 : C f_sccsame_Error [errN (tabErr t), natV (tabErr t)] H (.bool true) H := by have := hE _ _ (tabErr t) H (errN_is (tabErr t)); rwa [beq_self_eq_true] at this
  have e2 : C f_sccsame_Error [errN (colErr t (colsOf ks)), natV (colErr t (colsOf ks))] H (.bool true) H := by have := hE _ _ (colErr t (colsOf ks)) H (errN_is (colErr t (colsOf ks))); rwa [beq_self_eq_true] at this
  have hs := hS tv kv t ks H ht (hk.view H) hkl
  have hq := hQ tv kv lv t ks l H ht (hk.view H) hkl (hl.view H) hll
  have hcs := hCs tv (lstF 1 ((colsOf ks).map intV)) t (colsOf ks) H ht ((lstF_of 1 _).view H)
  refine sCall0 (hT tv t H ht) ?_
  refine sCall0 (hCk tv t H ht) ?_
  refine sCall0 e1 ?_
  refine sCall0 (hCo kv ks H hk hkl) ?_
  refine sCall0 hcs ?_
  cases he : colErr t (colsOf ks) with
  | succ n =>
    have e : sortV t ks = .tup [.lst (some true) 0 [], errN (n + 1)] := by unfold sortV; rw [if_pos (by omega), he]
    have e' : sortedV t ks l = .tup [.bool false, errN (n + 1)] := by unfold sortedV; rw [if_pos (by omega), he]
    rw [e] at hs
    rw [e'] at hq
    rw [he] at e2
    have h4 := hI (.lst (some true) 0 []) (.lst (some true) 0 []) [] [] H ⟨_, _, rfl, .inr rfl⟩ ⟨_, _, rfl, .inr rfl⟩ (by simp)
    rw [decide_eq_true rfl] at h4
    refine sCond (fun h => absurd h (by simp; omega)) (fun _ => ?_)
    refine sCall0 hs ?_
    refine sOpt rfl ?_
    refine sOpt rfl ?_
    refine sCall0 e2 ?_
    refine sCall0 h4 ?_
    refine sCall0 hq ?_
    refine sOpt rfl ?_
    refine sOpt rfl ?_
    refine sCall0 e2 ?_
    repeat (first | refine sCondT ?_ | refine sOpt rfl ?_)
    exact sRetV rfl rfl rfl rfl (Old.refl _)
  | zero =>
    have e : sortV t ks = .tup [lstF 1 ((sortL t ks).map nV), errN 0] := by unfold sortV; rw [if_neg (by omega)]; rfl
    have e' : sortedV t ks l = .tup [.bool (decide (l = natsI (sortL t ks))), errN 0] := by
      unfold sortedV; rw [if_neg (by omega)]
      have : eqI l (natsI (sortL t ks)) = decide (l = natsI (sortL t ks)) := by unfold eqI; rw [Bool.eq_iff_iff]; simp
      rw [this]; rfl
    rw [e] at hs
    rw [e'] at hq
    rw [he] at e2
    have hlo : LstOf (lstF 1 ((sortL t ks).map nV)) 1 ((natsI (sortL t ks)).map intV) := by rw [natsI_map]; exact lstF_of _ _
    have h3 := hI lv _ l (natsI (sortL t ks)) H hl hlo hll
    have h4 := hI _ _ (natsI (sortL t ks)) (natsI (sortL t ks)) H hlo hlo (by
      have := (tab_ok he).1
      unfold natsI; rw [List.length_map]
      show (sortL t ks).length ≤ _
      unfold sortL; rw [srtL_len]; omega)
    rw [decide_eq_true rfl] at h4
    refine sCondT ?_
    refine sCall0 (hS3 tv kv t ks H ht hk he) ?_
    refine sCall0 h3 ?_
    refine sCall0 hs ?_
    refine sOpt rfl ?_
    refine sOpt rfl ?_
    refine sCall0 e2 ?_
    refine sCall0 h4 ?_
    refine sCall0 hq ?_
    refine sOpt rfl ?_
    refine sOpt rfl ?_
    refine sCall0 e2 ?_
    refine sCondT ?_
    refine sCondT ?_
    refine sCondT ?_
    refine sCondT ?_
    refine sCondT ?_
    refine sCondT ?_
    refine sCondT ?_
    refine sCondT ?_
    exact sRetE (v0 := .bool (negB false (decide (l = natsI (sortL t ks)) == decide (l = natsI (sortL t ks))))) (by simp [negB]) rfl rfl rfl rfl (Old.refl _)

end
end Go.AM
