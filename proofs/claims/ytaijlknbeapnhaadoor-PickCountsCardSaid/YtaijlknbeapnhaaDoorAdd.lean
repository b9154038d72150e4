/- The walk of value.Two at Add for numbers and what is bad; of eval.Sum and pick.sum. Own work. -/
import Derived.Test.YtaijlknbeapnhaaDoorTwo
set_option linter.all false
namespace Go.AM

def nmV (n : Int) : Val := ⟨1, n, []⟩
def badV (n : Int) : Val := ⟨4, n, []⟩
def w64 (n : Int) : Int := IntKind.wrap .i64 n
def plusV (a b : Int) : Val := if (decide (w64 (a + b) ≥ a) == decide (b ≥ 0)) = true then nmV (w64 (a + b)) else badV 5
def addV (a b : Val) : Val := if a.kind = 4 then a else if b.kind = 4 then b else plusV a.num b.num
/-- A number, or what is bad. -/
def NumK (v : Val) : Prop := v.kind = 1 ∨ v.kind = 4

section
variable {C : CSpec} {GT : Nat → Option AV}

theorem wrong_ev (n : Int) (H : Heap) : EFun C GT a_value_Wrong [intV n] H (valV (badV n)) H := by
  refine sOpt (v := [AV.int IntKind.i64 4, intV n, AV.str []]) rfl ?_
  refine sStoreE (v := AV.agg [AV.int IntKind.i64 4, intV n, AV.str []]) (AV.cells (AV.agg [AV.int IntKind.i64 4, intV n, AV.str []])) push_last rfl rfl rfl rfl ?_
  exact sRetCell (o := 0) rfl rfl (ptr_box (set_at push_last)) rfl rfl rfl (((Old.refl _).push _).set (by first | assumption | exact Nat.le_refl _ | simp | omega) _)
theorem vnum_ev (n : Int) (H : Heap) : EFun C GT a_value_Num [intV n] H (valV (nmV n)) H := by
  refine sOpt (v := [AV.int IntKind.i64 1, intV n, AV.str []]) rfl ?_
  refine sStoreE (v := AV.agg [AV.int IntKind.i64 1, intV n, AV.str []]) (AV.cells (AV.agg [AV.int IntKind.i64 1, intV n, AV.str []])) push_last rfl rfl rfl rfl ?_
  exact sRetCell (o := 0) rfl rfl (ptr_box (set_at push_last)) rfl rfl rfl (((Old.refl _).push _).set (by first | assumption | exact Nat.le_refl _ | simp | omega) _)

theorem number_nk_ev (v : Val) (hk : NumK v) (H : Heap) : EFun C GT a_value_Number [valV v] H (valV v) H := by
  refine efun_of ?_
  refine sBox (x := valV v) rfl ?_
  refine sLoadBox (AV.int IntKind.i64 v.kind) (push_old push_last) rfl ?_
  by_cases h1 : (v.kind == 1) = true
  · refine sCond (fun _ => ?_) (fun h => absurd h1 (by rw [h]; simp))
    refine sCondT ?_
    refine sLoadBox (valV v) (push_old push_last) rfl ?_
    refine sStoreE (v := valV v) (AV.cells (valV v)) push_last rfl rfl rfl rfl ?_
    exact sRetCell (o := 0) rfl rfl (ptr_box (set_at push_last)) rfl rfl rfl ((((Old.refl _).push _).push _).set (by first | assumption | exact Nat.le_refl _ | simp | omega) _)
  · refine sCond (fun h => absurd h h1) (fun _ => ?_)
    have h4 : (v.kind == 4) = true := by rcases hk with h | h <;> simp_all
    refine sCond (fun _ => ?_) (fun h => absurd h4 (by rw [h]; simp))
    refine sLoadBox (valV v) (push_old push_last) rfl ?_
    refine sStoreE (v := valV v) (AV.cells (valV v)) push_last rfl rfl rfl rfl ?_
    exact sRetCell (o := 0) rfl rfl (ptr_box (set_at push_last)) rfl rfl rfl ((((Old.refl _).push _).push _).set (by first | assumption | exact Nat.le_refl _ | simp | omega) _)

theorem reckon_add_ev (hN : ∀ n H, C f_value_Num [intV n] H (valV (nmV n)) H) (hW : ∀ n H, C f_value_Wrong [intV n] H (valV (badV n)) H) (a b : Int) (H : Heap) : EFun C GT a_value_reckon [intV 8, intV a, intV b] H (valV (plusV a b)) H := by
  have e1 : (decide (w64 (a + b) ≥ a) == decide (b ≥ 0)) = true → plusV a b = nmV (w64 (a + b)) := fun h => if_pos h
  have e2 : (decide (w64 (a + b) ≥ a) == decide (b ≥ 0)) = false → plusV a b = badV 5 := fun h => if_neg (by rw [h]; simp)
  refine efun_of ?_
  refine sCondT ?_
  refine sVal (r := w64 (a + b)) rfl ?_
  refine sCond (fun h => ?_) (fun h => ?_)
  · rw [e1 h]
    refine sCall0 (hN _ _) ?_
    refine sStoreE (v := valV (nmV (w64 (a + b)))) (AV.cells (valV (nmV (w64 (a + b))))) push_last rfl rfl rfl rfl ?_
    exact sRetCell (o := 0) rfl rfl (ptr_box (set_at push_last)) rfl rfl rfl (((Old.refl _).push _).set (by first | assumption | exact Nat.le_refl _ | simp | omega) _)
  · rw [e2 h]
    refine sCall0 (hW _ _) ?_
    refine sStoreE (v := valV (badV 5)) (AV.cells (valV (badV 5))) push_last rfl rfl rfl rfl ?_
    exact sRetCell (o := 0) rfl rfl (ptr_box (set_at push_last)) rfl rfl rfl (((Old.refl _).push _).set (by first | assumption | exact Nat.le_refl _ | simp | omega) _)

theorem two_add_ev (hB : ∀ v H, C f_value_IsBad [valV v] H (.bool (v.kind == 4)) H) (hN : ∀ v, NumK v → ∀ H, C f_value_Number [valV v] H (valV v) H)
    (hR : ∀ a b H, C f_value_reckon [intV 8, intV a, intV b] H (valV (plusV a b)) H) (a b : Val) (ka : NumK a) (kb : NumK b) (H : Heap) : EFun C GT a_value_Two [intV 8, valV a, valV b] H (valV (addV a b)) H := by
  have e1 : (a.kind == 4) = true → addV a b = a := fun h => if_pos (eq_of_beq h)
  have e2 : (a.kind == 4) = false → (b.kind == 4) = true → addV a b = b := fun h h' => (if_neg (ne_of_beq_false h)).trans (if_pos (eq_of_beq h'))
  have e3 : (a.kind == 4) = false → (b.kind == 4) = false → addV a b = plusV a.num b.num := fun h h' => (if_neg (ne_of_beq_false h)).trans (if_neg (ne_of_beq_false h'))
  refine efun_of ?_
  refine sBox (x := valV a) rfl ?_
  refine sBox (x := valV b) rfl ?_
  refine sCondF ?_
  refine sCondF ?_
  refine sCondF ?_
  refine sCondT ?_
  refine sLoadBox (valV a) (push_old (push_old push_last)) rfl ?_
  refine sCall0 (hN a ka _) ?_
  refine sLoadBox (valV b) (push_old push_last) rfl ?_
  refine sCall0 (hN b kb _) ?_
  refine sStoreE (v := valV a) (AV.cells (valV a)) (push_old (push_old push_last)) rfl rfl rfl rfl ?_
  refine sStoreE (v := valV b) (AV.cells (valV b)) (set_other (by first | assumption | simp | omega) (push_old push_last)) rfl rfl rfl rfl ?_
  refine sLoadBox (valV a) (set_other (by first | assumption | simp | omega) (set_at (push_old (push_old push_last)))) rfl ?_
  refine sCall0 (hB _ _) ?_
  refine sCond (fun h => ?_) (fun h => ?_)
  · rw [e1 h]
    refine sLoadBox (valV a) (set_other (by first | assumption | simp | omega) (set_at (push_old (push_old push_last)))) rfl ?_
    refine sStoreE (v := valV a) (AV.cells (valV a)) (set_other (by first | assumption | simp | omega) (set_other (by first | assumption | simp | omega) push_last)) rfl rfl rfl rfl ?_
    exact sRetCell (o := 0) rfl rfl (ptr_box (set_at (set_other (by first | assumption | simp | omega) (set_other (by first | assumption | simp | omega) push_last)))) rfl rfl rfl (((((((Old.refl _).push _).push _).push _).set (by first | assumption | exact Nat.le_refl _ | simp | omega) _).set (by first | assumption | exact Nat.le_refl _ | simp | omega) _).set (by first | assumption | exact Nat.le_refl _ | simp | omega) _)
  refine sLoadBox (valV b) (set_at (set_other (by first | assumption | simp | omega) (push_old push_last))) rfl ?_
  refine sCall0 (hB _ _) ?_
  refine sCond (fun h' => ?_) (fun h' => ?_)
  · rw [e2 h h']
    refine sLoadBox (valV b) (set_at (set_other (by first | assumption | simp | omega) (push_old push_last))) rfl ?_
    refine sStoreE (v := valV b) (AV.cells (valV b)) (set_other (by first | assumption | simp | omega) (set_other (by first | assumption | simp | omega) push_last)) rfl rfl rfl rfl ?_
    exact sRetCell (o := 0) rfl rfl (ptr_box (set_at (set_other (by first | assumption | simp | omega) (set_other (by first | assumption | simp | omega) push_last)))) rfl rfl rfl (((((((Old.refl _).push _).push _).push _).set (by first | assumption | exact Nat.le_refl _ | simp | omega) _).set (by first | assumption | exact Nat.le_refl _ | simp | omega) _).set (by first | assumption | exact Nat.le_refl _ | simp | omega) _)
  rw [e3 h h']
  refine sCondT ?_
  refine sLoadBox (AV.int IntKind.i64 a.num) (set_other (by first | assumption | simp | omega) (set_at (push_old (push_old push_last)))) rfl ?_
  refine sLoadBox (AV.int IntKind.i64 b.num) (set_at (set_other (by first | assumption | simp | omega) (push_old push_last))) rfl ?_
  refine sCall0 (hR _ _ _) ?_
  refine sStoreE (v := valV (plusV a.num b.num)) (AV.cells (valV (plusV a.num b.num))) (set_other (by first | assumption | simp | omega) (set_other (by first | assumption | simp | omega) push_last)) rfl rfl rfl rfl ?_
  exact sRetCell (o := 0) rfl rfl (ptr_box (set_at (set_other (by first | assumption | simp | omega) (set_other (by first | assumption | simp | omega) push_last)))) rfl rfl rfl (((((((Old.refl _).push _).push _).push _).set (by first | assumption | exact Nat.le_refl _ | simp | omega) _).set (by first | assumption | exact Nat.le_refl _ | simp | omega) _).set (by first | assumption | exact Nat.le_refl _ | simp | omega) _)

/-! ### Sums -/

theorem plusV_nk (a b : Int) : NumK (plusV a b) := by unfold plusV; split; exact .inl rfl; exact .inr rfl
theorem addV_nk {a b : Val} (ha : NumK a) (hb : NumK b) : NumK (addV a b) := by
  unfold addV; split; exact ha; split; exact hb; exact plusV_nk _ _
def sumN (ns : List Int) : Val := ns.foldl (fun s n => addV s (nmV n)) (nmV 0)
theorem sumN_snoc (ns : List Int) (n : Int) : sumN (ns ++ [n]) = addV (sumN ns) (nmV n) := by unfold sumN; rw [List.foldl_append]; rfl
theorem sumN_nk (ns : List Int) : NumK (sumN ns) := by
  unfold sumN
  suffices H : ∀ (ns : List Int) (s : Val), NumK s → NumK (ns.foldl (fun s n => addV s (nmV n)) s) from H ns _ (.inl rfl)
  intro ns
  induction ns with
  | nil => intro s h; exact h
  | cons n ns ih => intro s h; exact ih _ (addV_nk h (.inl rfl))
def sumL (l : List Val) : Val := match l.find? (fun v => v.kind == 4) with
  | some v => v
  | none => sumN ((l.filter fun v => v.kind == 1).map (·.num))

structure SSm where
  i : Nat

theorem esum_ev (hN : ∀ n H, C f_value_Num [intV n] H (valV (nmV n)) H) (hT : ∀ a b, NumK a → NumK b → ∀ H, C f_value_Two [intV 8, valV a, valV b] H (valV (addV a b)) H)
    (nv : AV) (ns : List Int) (H : Heap) (hn : view H 1 nv = some (ns.map intV)) (hl : ns.length ≤ 1000000000000) : EFun C GT a_eval_Sum [nv] H (valV (sumN ns)) H := by
  refine efun_of ?_
  refine sCall0 (hN _ _) ?_
  refine sStoreE (v := valV (nmV 0)) (AV.cells (valV (nmV 0))) push_last rfl rfl rfl rfl ?_
  refine sLenN ns.length hn (by simp) ?_
  have hne : H.length ≠ (H ++ [ABlk.box [.int .i64 0, .int .i64 0, .str []]]).length := by simp
  have hle : H.length ≤ (H ++ [ABlk.box [.int .i64 0, .int .i64 0, .str []]]).length := by simp
  refine sLoop (fun i : Nat => [(9, .int .i64 i), (3, .ref (H ++ [ABlk.box [.int .i64 0, .int .i64 0, .str []]]).length 0 0 0), (7, nv), (2, .ref H.length 0 0 0), (8, .int .i64 ns.length)])
    (fun i H' => Old H H' ∧ i ≤ ns.length ∧ H'[H.length]? = some (.box [.int .i64 0, .int .i64 0, .str []]) ∧ H'[(H ++ [ABlk.box [.int .i64 0, .int .i64 0, .str []]]).length]? = some (.box (valV (sumN (ns.take i))).cells)) (fun i => ns.length - i) 0 rfl
    ⟨(((Old.refl H).push _).push _).set hle _, Nat.zero_le _, set_other hne.symm (push_old push_last), set_at push_last⟩ (fun i H1 ⟨hO, hi, h2, h3⟩ => ?_)
  dsimp only
  refine sCond (fun hlt => ?_) (fun hlt => ?_)
  · have hlt : i < ns.length := by have := of_decide_eq_true hlt; omega
    have hni : ns[i]? = some ns[i] := List.getElem?_eq_getElem hlt
    have e : sumN (ns.take (i + 1)) = addV (sumN (ns.take i)) (nmV ns[i]) := by rw [List.take_succ_eq_append_getElem hlt, sumN_snoc]
    refine sIdxV i (intV ns[i]) (view_old hO hn) rfl (by rw [List.getElem?_map, hni]; rfl) (fun p hp => ?_)
    refine sLoadP (intV ns[i]) hp rfl ?_
    refine sLoadBox (valV (sumN (ns.take i))) h3 rfl ?_
    refine sCall0 (hN ns[i] _) ?_
    refine sCall0 (hT _ _ (sumN_nk _) (.inl rfl) _) ?_
    refine sStoreBox h3 rfl rfl (Nat.le_of_ble_eq_true rfl) ?_
    refine sW64n (r := i + 1) rfl (by omega) ?_
    exact sNext (i + 1) rfl ⟨hO.set hle _, by omega, set_other hne.symm h2, by rw [e]; exact set_at h3⟩ (by omega)
  · have hge : i = ns.length := by have := of_decide_eq_false hlt; omega
    subst hge
    rw [List.take_length] at h3
    refine sLoadBox (valV (sumN ns)) h3 rfl ?_
    refine sStoreE (v := valV (sumN ns)) (AV.cells (valV (sumN ns))) h2 rfl rfl rfl rfl ?_
    exact sRetCell (o := 0) rfl rfl (ptr_box (set_at h2)) rfl rfl rfl (hO.set (by first | assumption | exact Nat.le_refl _ | simp | omega) _)

structure SPs where
  i : Nat
  v : AV

theorem sum_ev (hS : ∀ nv ns H, view H 1 nv = some (ns.map intV) → ns.length ≤ 1000000000000 → C f_eval_Sum [nv] H (valV (sumN ns)) H) (lv : AV) (l : List Val) (H : Heap) (hv : view H 3 lv = some (l.map valV)) (hl : l.length ≤ 1000) :
    EFun C GT a_pick_sum [lv] H (valV (sumL l)) H := by
  refine efun_of ?_
  refine sLenN l.length hv (by simp) ?_
  refine sLoop (fun s : SPs => [(2, .ref H.length 0 0 0), (8, .int .i64 s.i), (3, s.v), (6, lv), (7, .int .i64 l.length)])
    (fun s H' => Old (H ++ [ABlk.box [.int .i64 0, .int .i64 0, .str []]]) H' ∧ s.i ≤ l.length ∧ Owns (H ++ [ABlk.box [.int .i64 0, .int .i64 0, .str []]]) H' s.v 1 ((((l.take s.i).filter fun v => v.kind == 1).map (·.num)).map intV) ∧ ∀ v ∈ l.take s.i, (v.kind == 4) = false) (fun s => l.length - s.i) ⟨0, .lst (some true) 0 []⟩ rfl
    ⟨Old.refl _, Nat.zero_le _, Owns.nil _ _ _, fun v h => by simp at h⟩ (fun ⟨i, v⟩ H1 ⟨hOz, hi, hown, hnb⟩ => ?_)
  simp only at hi hown hnb
  have hO : Old H H1 := ((Old.refl H).push _).trans hOz
  have h2 : H1[H.length]? = some (.box [.int .i64 0, .int .i64 0, .str []]) := old_get hOz push_last
  have hlen : H.length < H1.length := by have := hOz.1; simp at this; omega
  dsimp only
  refine sCond (fun hlt => ?_) (fun hlt => ?_)
  · have hlt : i < l.length := by have := of_decide_eq_true hlt; omega
    have hli : l[i]? = some l[i] := List.getElem?_eq_getElem hlt
    obtain ⟨x, hx⟩ : ∃ x, l[i] = x := ⟨_, rfl⟩
    rw [hx] at hli
    have htk : l.take (i + 1) = l.take i ++ [x] := by rw [List.take_succ_eq_append_getElem hlt, hx]
    refine sIdxV i (valV x) (view_old hO hv) rfl (by rw [List.getElem?_map, hli]; rfl) (fun p hp => ?_)
    refine sLoadP (valV x) hp rfl ?_
    have hlt2 : H1.length ≠ H.length := by omega
    refine sStoreE (v := valV x) (AV.cells (valV x)) push_last rfl rfl rfl rfl ?_
    refine sLoadBox (AV.int IntKind.i64 x.kind) (set_at push_last) rfl ?_
    refine sCond (fun hb => ?_) (fun hb => ?_)
    · have e : sumL l = x := by
        unfold sumL
        have : l.find? (fun v => v.kind == 4) = some x := by
          rw [← List.take_append_drop i l, List.find?_append, List.find?_eq_none.2 (fun v hv => by rw [hnb v hv]; simp), drop_of_get hli]
          simp [hb]
        rw [this]
      rw [e]
      refine sLoadBox (valV x) (set_at push_last) rfl ?_
      refine sStoreE (v := valV x) (AV.cells (valV x)) (set_other (by first | assumption | simp | omega) (push_old h2)) rfl rfl rfl rfl ?_
      exact sRetCell (o := 0) rfl rfl (ptr_box (set_at (set_other (by first | assumption | simp | omega) (push_old h2)))) rfl rfl rfl (((hO.push _).set (by first | assumption | exact Nat.le_refl _ | simp | omega) _).set (by first | assumption | exact Nat.le_refl _ | simp | omega) _)
    · have hnb2 : ∀ v ∈ l.take (i + 1), (v.kind == 4) = false := fun v hv => by
        rw [htk] at hv
        rcases List.mem_append.1 hv with hv | hv
        · exact hnb v hv
        · rw [List.mem_singleton.1 hv]; exact hb
      refine sCond (fun hb1 => ?_) (fun hb1 => ?_)
      · have e : (((l.take (i + 1)).filter fun v => v.kind == 1).map (·.num)).map intV = (((l.take i).filter fun v => v.kind == 1).map (·.num)).map intV ++ [intV x.num] := by
          rw [htk]; simp [hb1]
        refine sLoadBox (AV.int IntKind.i64 x.num) (set_at push_last) rfl ?_
        refine sBslice (vs' := [AV.int IntKind.i64 x.num]) rfl rfl ?_
        refine sAppend (H0 := H ++ [ABlk.box [.int .i64 0, .int .i64 0, .str []]]) ((hown.pushSet _ _).push _) ((hOz.pushSet _ _).push _) view_new (by omega) ?_ (by simp) (fun v' H' ho' hO' hblk hfr => ?_)
        · have := List.length_filter_le (fun v : Val => v.kind == 1) (l.take i)
          simp only [List.length_map, List.length_cons, List.length_nil] at this ⊢
          rw [List.length_take] at this; omega
        refine sW64n (r := i + 1) rfl (by omega) ?_
        exact sNext (SPs.mk (i + 1) v') rfl ⟨hO', by simp only; omega, by simp only [e]; exact ho', hnb2⟩ (by simp only; omega)
      · have e : (((l.take (i + 1)).filter fun v => v.kind == 1).map (·.num)).map intV = (((l.take i).filter fun v => v.kind == 1).map (·.num)).map intV := by
          rw [htk]; simp [hb1]
        refine sW64n (r := i + 1) rfl (by omega) ?_
        exact sNext (SPs.mk (i + 1) v) rfl ⟨hOz.pushSet _ _, by simp only; omega, by simp only [e]; exact hown.pushSet _ _, hnb2⟩ (by simp only; omega)
  · have hge : i = l.length := by have := of_decide_eq_false hlt; omega
    subst hge
    rw [List.take_length] at hown hnb
    have e : sumL l = sumN ((l.filter fun v => v.kind == 1).map (·.num)) := by
      unfold sumL
      rw [List.find?_eq_none.2 (fun v hv => by rw [hnb v hv]; simp)]
    have hs := hS v _ H1 hown.view (by rw [List.length_map]; exact Nat.le_trans (List.length_filter_le _ _) (by omega))
    obtain ⟨w, hw⟩ : ∃ w, sumN ((l.filter fun v => v.kind == 1).map (·.num)) = w := ⟨_, rfl⟩
    rw [hw] at hs e
    rw [e]
    refine sCall0 hs ?_
    refine sStoreE (v := valV w) (AV.cells (valV w)) h2 rfl rfl rfl rfl ?_
    exact sRetCell (o := 0) rfl rfl (ptr_box (set_at h2)) rfl rfl rfl (hO.set (by first | assumption | exact Nat.le_refl _ | simp | omega) _)
end
end Go.AM
