/- Several texts of mine in one (Add, Grp, Gr2, Pgl, Bg0, Bg1, Ad3, Bg2, Rg, Pgw). Own work. -/
import Derived.Test.YtaijlknbeapnhaaGreatDoorQE
import Derived.Test.YtaijlknbeapnhaaGreatDoorQD
import Derived.Test.YtaijlknbeapnhaaGreatDoorQC
import Derived.Test.YtaijlknbeapnhaaGreatDoorZc

/- The walk of value.Two at Add for numbers and what is bad; of eval.Sum and pick.sum. Own work. -/
set_option linter.all false
namespace Go.AM

def nmV (n : Int) : Val := ⟨1, n, []⟩
def badV (n : Int) : Val := ⟨4, n, []⟩
def w64 (n : Int) : Int := IntKind.wrap .i64 n
def plusV (a b : Int) : Val := if (decide (w64 (a + b) ≥ a) == decide (b ≥ 0)) = true then nmV (w64 (a + b)) else badV 5
def addV (a b : Val) : Val := if a.kind = 4 then a else if b.kind = 4 then b else plusV a.num b.num
/-- A number, or what is bad. -/
def NumK (v : Val) : Prop := v.kind = 1 ∨ v.kind = 4

section
variable {C : CSpec} {GT : Nat → Option AV}

theorem wrong_ev (n : Int) (H : Heap) : EFun C GT a_value_Wrong [intV n] H (valV (badV n)) H := by
  refine sOpt (v := [AV.int IntKind.i64 4, intV n, AV.str []]) rfl ?_
  refine sStoreE (v := AV.agg [AV.int IntKind.i64 4, intV n, AV.str []]) (AV.cells (AV.agg [AV.int IntKind.i64 4, intV n, AV.str []])) push_last rfl rfl rfl rfl ?_
  exact sRetCell (o := 0) rfl rfl (ptr_box (set_at push_last)) rfl rfl rfl (((Old.refl _).push _).set (by first | assumption | exact Nat.le_refl _ | simp | omega) _)
theorem vnum_ev (n : Int) (H : Heap) : EFun C GT a_value_Num [intV n] H (valV (nmV n)) H := by
  refine sOpt (v := [AV.int IntKind.i64 1, intV n, AV.str []]) rfl ?_
  refine sStoreE (v := AV.agg [AV.int IntKind.i64 1, intV n, AV.str []]) (AV.cells (AV.agg [AV.int IntKind.i64 1, intV n, AV.str []])) push_last rfl rfl rfl rfl ?_
  exact sRetCell (o := 0) rfl rfl (ptr_box (set_at push_last)) rfl rfl rfl (((Old.refl _).push _).set (by first | assumption | exact Nat.le_refl _ | simp | omega) _)

theorem number_nk_ev (v : Val) (hk : NumK v) (H : Heap) : EFun C GT a_value_Number [valV v] H (valV v) H := by
  refine efun_of ?_
  refine sBox (x := valV v) rfl ?_
  refine sLoadBox (AV.int IntKind.i64 v.kind) (push_old push_last) rfl ?_
  by_cases h1 : (v.kind == 1) = true
  · refine sCond (fun _ => ?_) (fun h => absurd h1 (by rw [h]; simp))
    refine sCondT ?_
    refine sLoadBox (valV v) (push_old push_last) rfl ?_
    refine sStoreE (v := valV v) (AV.cells (valV v)) push_last rfl rfl rfl rfl ?_
    exact sRetCell (o := 0) rfl rfl (ptr_box (set_at push_last)) rfl rfl rfl ((((Old.refl _).push _).push _).set (by first | assumption | exact Nat.le_refl _ | simp | omega) _)
  · refine sCond (fun h => absurd h h1) (fun _ => ?_)
    have h4 : (v.kind == 4) = true := by rcases hk with h | h <;> simp_all
    refine sCond (fun _ => ?_) (fun h => absurd h4 (by rw [h]; simp))
    refine sLoadBox (valV v) (push_old push_last) rfl ?_
    refine sStoreE (v := valV v) (AV.cells (valV v)) push_last rfl rfl rfl rfl ?_
    exact sRetCell (o := 0) rfl rfl (ptr_box (set_at push_last)) rfl rfl rfl ((((Old.refl _).push _).push _).set (by first | assumption | exact Nat.le_refl _ | simp | omega) _)

theorem reckon_add_ev (hN : ∀ n H, C f_value_Num [intV n] H (valV (nmV n)) H) (hW : ∀ n H, C f_value_Wrong [intV n] H (valV (badV n)) H) (a b : Int) (H : Heap) : EFun C GT a_value_reckon [intV 8, intV a, intV b] H (valV (plusV a b)) H := by
  have e1 : (decide (w64 (a + b) ≥ a) == decide (b ≥ 0)) = true → plusV a b = nmV (w64 (a + b)) := fun h => if_pos h
  have e2 : (decide (w64 (a + b) ≥ a) == decide (b ≥ 0)) = false → plusV a b = badV 5 := fun h => if_neg (by rw [h]; simp)
  refine efun_of ?_
  refine sCondT ?_
  refine sVal (r := w64 (a + b)) rfl ?_
  refine sCond (fun h => ?_) (fun h => ?_)
  · rw [e1 h]
    refine sCall0 (hN _ _) ?_
    refine sStoreE (v := valV (nmV (w64 (a + b)))) (AV.cells (valV (nmV (w64 (a + b))))) push_last rfl rfl rfl rfl ?_
    exact sRetCell (o := 0) rfl rfl (ptr_box (set_at push_last)) rfl rfl rfl (((Old.refl _).push _).set (by first | assumption | exact Nat.le_refl _ | simp | omega) _)
  · rw [e2 h]
    refine sCall0 (hW _ _) ?_
    refine sStoreE (v := valV (badV 5)) (AV.cells (valV (badV 5))) push_last rfl rfl rfl rfl ?_
    exact sRetCell (o := 0) rfl rfl (ptr_box (set_at push_last)) rfl rfl rfl (((Old.refl _).push _).set (by first | assumption | exact Nat.le_refl _ | simp | omega) _)

theorem two_add_ev (hB : ∀ v H, C f_value_IsBad [valV v] H (.bool (v.kind == 4)) H) (hN : ∀ v, NumK v → ∀ H, C f_value_Number [valV v] H (valV v) H)
    (hR : ∀ a b H, C f_value_reckon [intV 8, intV a, intV b] H (valV (plusV a b)) H) (a b : Val) (ka : NumK a) (kb : NumK b) (H : Heap) : EFun C GT a_value_Two [intV 8, valV a, valV b] H (valV (addV a b)) H := by
  have e1 : (a.kind == 4) = true → addV a b = a := fun h => if_pos (eq_of_beq h)
  have e2 : (a.kind == 4) = false → (b.kind == 4) = true → addV a b = b := fun h h' => (if_neg (ne_of_beq_false h)).trans (if_pos (eq_of_beq h'))
  have e3 : (a.kind == 4) = false → (b.kind == 4) = false → addV a b = plusV a.num b.num := fun h h' => (if_neg (ne_of_beq_false h)).trans (if_neg (ne_of_beq_false h'))
  refine efun_of ?_
  refine sBox (x := valV a) rfl ?_
  refine sBox (x := valV b) rfl ?_
  refine sCondF ?_
  refine sCondF ?_
  refine sCondF ?_
  refine sCondT ?_
  refine sLoadBox (valV a) (push_old (push_old push_last)) rfl ?_
  refine sCall0 (hN a ka _) ?_
  refine sLoadBox (valV b) (push_old push_last) rfl ?_
  refine sCall0 (hN b kb _) ?_
  refine sStoreE (v := valV a) (AV.cells (valV a)) (push_old (push_old push_last)) rfl rfl rfl rfl ?_
  refine sStoreE (v := valV b) (AV.cells (valV b)) (set_other (by first | assumption | simp | omega) (push_old push_last)) rfl rfl rfl rfl ?_
  refine sLoadBox (valV a) (set_other (by first | assumption | simp | omega) (set_at (push_old (push_old push_last)))) rfl ?_
  refine sCall0 (hB _ _) ?_
  refine sCond (fun h => ?_) (fun h => ?_)
  · rw [e1 h]
    refine sLoadBox (valV a) (set_other (by first | assumption | simp | omega) (set_at (push_old (push_old push_last)))) rfl ?_
    refine sStoreE (v := valV a) (AV.cells (valV a)) (set_other (by first | assumption | simp | omega) (set_other (by first | assumption | simp | omega) push_last)) rfl rfl rfl rfl ?_
    exact sRetCell (o := 0) rfl rfl (ptr_box (set_at (set_other (by first | assumption | simp | omega) (set_other (by first | assumption | simp | omega) push_last)))) rfl rfl rfl (((((((Old.refl _).push _).push _).push _).set (by first | assumption | exact Nat.le_refl _ | simp | omega) _).set (by first | assumption | exact Nat.le_refl _ | simp | omega) _).set (by first | assumption | exact Nat.le_refl _ | simp | omega) _)
  refine sLoadBox (valV b) (set_at (set_other (by first | assumption | simp | omega) (push_old push_last))) rfl ?_
  refine sCall0 (hB _ _) ?_
  refine sCond (fun h' => ?_) (fun h' => ?_)
  · rw [e2 h h']
    refine sLoadBox (valV b) (set_at (set_other (by first | assumption | simp | omega) (push_old push_last))) rfl ?_
    refine sStoreE (v := valV b) (AV.cells (valV b)) (set_other (by first | assumption | simp | omega) (set_other (by first | assumption | simp | omega) push_last)) rfl rfl rfl rfl ?_
    exact sRetCell (o := 0) rfl rfl (ptr_box (set_at (set_other (by first | assumption | simp | omega) (set_other (by first | assumption | simp | omega) push_last)))) rfl rfl rfl (((((((Old.refl _).push _).push _).push _).set (by first | assumption | exact Nat.le_refl _ | simp | omega) _).set (by first | assumption | exact Nat.le_refl _ | simp | omega) _).set (by first | assumption | exact Nat.le_refl _ | simp | omega) _)
  rw [e3 h h']
  refine sCondT ?_
  refine sLoadBox (AV.int IntKind.i64 a.num) (set_other (by first | assumption | simp | omega) (set_at (push_old (push_old push_last)))) rfl ?_
  refine sLoadBox (AV.int IntKind.i64 b.num) (set_at (set_other (by first | assumption | simp | omega) (push_old push_last))) rfl ?_
  refine sCall0 (hR _ _ _) ?_
  refine sStoreE (v := valV (plusV a.num b.num)) (AV.cells (valV (plusV a.num b.num))) (set_other (by first | assumption | simp | omega) (set_other (by first | assumption | simp | omega) push_last)) rfl rfl rfl rfl ?_
  exact sRetCell (o := 0) rfl rfl (ptr_box (set_at (set_other (by first | assumption | simp | omega) (set_other (by first | assumption | simp | omega) push_last)))) rfl rfl rfl (((((((Old.refl _).push _).push _).push _).set (by first | assumption | exact Nat.le_refl _ | simp | omega) _).set (by first | assumption | exact Nat.le_refl _ | simp | omega) _).set (by first | assumption | exact Nat.le_refl _ | simp | omega) _)

/-! ### Sums -/

theorem plusV_nk (a b : Int) : NumK (plusV a b) := by unfold plusV; split; exact .inl rfl; exact .inr rfl
theorem addV_nk {a b : Val} (ha : NumK a) (hb : NumK b) : NumK (addV a b) := by
  unfold addV; split; exact ha; split; exact hb; exact plusV_nk _ _
def sumN (ns : List Int) : Val := ns.foldl (fun s n => addV s (nmV n)) (nmV 0)
theorem sumN_snoc (ns : List Int) (n : Int) : sumN (ns ++ [n]) = addV (sumN ns) (nmV n) := by unfold sumN; rw [List.foldl_append]; rfl
theorem sumN_nk (ns : List Int) : NumK (sumN ns) := by
  unfold sumN
  suffices H : ∀ (ns : List Int) (s : Val), NumK s → NumK (ns.foldl (fun s n => addV s (nmV n)) s) from H ns _ (.inl rfl)
  intro ns
  induction ns with
  | nil => intro s h; exact h
  | cons n ns ih => intro s h; exact ih _ (addV_nk h (.inl rfl))
def sumL (l : List Val) : Val := match l.find? (fun v => v.kind == 4) with
  | some v => v
  | none => sumN ((l.filter fun v => v.kind == 1).map (·.num))

structure SSm where
  i : Nat

theorem esum_ev (hN : ∀ n H, C f_value_Num [intV n] H (valV (nmV n)) H) (hT : ∀ a b, NumK a → NumK b → ∀ H, C f_value_Two [intV 8, valV a, valV b] H (valV (addV a b)) H)
    (nv : AV) (ns : List Int) (H : Heap) (hn : view H 1 nv = some (ns.map intV)) (hl : ns.length ≤ 1000000000000) : EFun C GT a_eval_Sum [nv] H (valV (sumN ns)) H := by
  refine efun_of ?_
  refine sCall0 (hN _ _) ?_
  refine sStoreE (v := valV (nmV 0)) (AV.cells (valV (nmV 0))) push_last rfl rfl rfl rfl ?_
  refine sLenN ns.length hn (by simp) ?_
  have hne : H.length ≠ (H ++ [ABlk.box [.int .i64 0, .int .i64 0, .str []]]).length := by simp
  have hle : H.length ≤ (H ++ [ABlk.box [.int .i64 0, .int .i64 0, .str []]]).length := by simp
  refine sLoop (fun i : Nat => [(9, .int .i64 i), (3, .ref (H ++ [ABlk.box [.int .i64 0, .int .i64 0, .str []]]).length 0 0 0), (7, nv), (2, .ref H.length 0 0 0), (8, .int .i64 ns.length)])
    (fun i H' => Old H H' ∧ i ≤ ns.length ∧ H'[H.length]? = some (.box [.int .i64 0, .int .i64 0, .str []]) ∧ H'[(H ++ [ABlk.box [.int .i64 0, .int .i64 0, .str []]]).length]? = some (.box (valV (sumN (ns.take i))).cells)) (fun i => ns.length - i) 0 rfl
    ⟨(((Old.refl H).push _).push _).set hle _, Nat.zero_le _, set_other hne.symm (push_old push_last), set_at push_last⟩ (fun i H1 ⟨hO, hi, h2, h3⟩ => ?_)
  dsimp only
  refine sCond (fun hlt => ?_) (fun hlt => ?_)
  · have hlt : i < ns.length := by have := of_decide_eq_true hlt; omega
    have hni : ns[i]? = some ns[i] := List.getElem?_eq_getElem hlt
    have e : sumN (ns.take (i + 1)) = addV (sumN (ns.take i)) (nmV ns[i]) := by rw [List.take_succ_eq_append_getElem hlt, sumN_snoc]
    refine sIdxV i (intV ns[i]) (view_old hO hn) rfl (by rw [List.getElem?_map, hni]; rfl) (fun p hp => ?_)
    refine sLoadP (intV ns[i]) hp rfl ?_
    refine sLoadBox (valV (sumN (ns.take i))) h3 rfl ?_
    refine sCall0 (hN ns[i] _) ?_
    refine sCall0 (hT _ _ (sumN_nk _) (.inl rfl) _) ?_
    refine sStoreBox h3 rfl rfl (Nat.le_of_ble_eq_true rfl) ?_
    refine sW64n (r := i + 1) rfl (by omega) ?_
    exact sNext (i + 1) rfl ⟨hO.set hle _, by omega, set_other hne.symm h2, by rw [e]; exact set_at h3⟩ (by omega)
  · have hge : i = ns.length := by have := of_decide_eq_false hlt; omega
    subst hge
    rw [List.take_length] at h3
    refine sLoadBox (valV (sumN ns)) h3 rfl ?_
    refine sStoreE (v := valV (sumN ns)) (AV.cells (valV (sumN ns))) h2 rfl rfl rfl rfl ?_
    exact sRetCell (o := 0) rfl rfl (ptr_box (set_at h2)) rfl rfl rfl (hO.set (by first | assumption | exact Nat.le_refl _ | simp | omega) _)

structure SPs where
  i : Nat
  v : AV

theorem sum_ev (hS : ∀ nv ns H, view H 1 nv = some (ns.map intV) → ns.length ≤ 1000000000000 → C f_eval_Sum [nv] H (valV (sumN ns)) H) (lv : AV) (l : List Val) (H : Heap) (hv : view H 3 lv = some (l.map valV)) (hl : l.length ≤ 1000) :
    EFun C GT a_pick_sum [lv] H (valV (sumL l)) H := by
  refine efun_of ?_
  refine sLenN l.length hv (by simp) ?_
  refine sLoop (fun s : SPs => [(2, .ref H.length 0 0 0), (8, .int .i64 s.i), (3, s.v), (6, lv), (7, .int .i64 l.length)])
    (fun s H' => Old (H ++ [ABlk.box [.int .i64 0, .int .i64 0, .str []]]) H' ∧ s.i ≤ l.length ∧ Owns (H ++ [ABlk.box [.int .i64 0, .int .i64 0, .str []]]) H' s.v 1 ((((l.take s.i).filter fun v => v.kind == 1).map (·.num)).map intV) ∧ ∀ v ∈ l.take s.i, (v.kind == 4) = false) (fun s => l.length - s.i) ⟨0, .lst (some true) 0 []⟩ rfl
    ⟨Old.refl _, Nat.zero_le _, Owns.nil _ _ _, fun v h => by simp at h⟩ (fun ⟨i, v⟩ H1 ⟨hOz, hi, hown, hnb⟩ => ?_)
  simp only at hi hown hnb
  have hO : Old H H1 := ((Old.refl H).push _).trans hOz
  have h2 : H1[H.length]? = some (.box [.int .i64 0, .int .i64 0, .str []]) := old_get hOz push_last
  have hlen : H.length < H1.length := by have := hOz.1; simp at this; omega
  dsimp only
  refine sCond (fun hlt => ?_) (fun hlt => ?_)
  · have hlt : i < l.length := by have := of_decide_eq_true hlt; omega
    have hli : l[i]? = some l[i] := List.getElem?_eq_getElem hlt
    obtain ⟨x, hx⟩ : ∃ x, l[i] = x := ⟨_, rfl⟩
    rw [hx] at hli
    have htk : l.take (i + 1) = l.take i ++ [x] := by rw [List.take_succ_eq_append_getElem hlt, hx]
    refine sIdxV i (valV x) (view_old hO hv) rfl (by rw [List.getElem?_map, hli]; rfl) (fun p hp => ?_)
    refine sLoadP (valV x) hp rfl ?_
    have hlt2 : H1.length ≠ H.length := by omega
    refine sStoreE (v := valV x) (AV.cells (valV x)) push_last rfl rfl rfl rfl ?_
    refine sLoadBox (AV.int IntKind.i64 x.kind) (set_at push_last) rfl ?_
    refine sCond (fun hb => ?_) (fun hb => ?_)
    · have e : sumL l = x := by
        unfold sumL
        have : l.find? (fun v => v.kind == 4) = some x := by
          rw [← List.take_append_drop i l, List.find?_append, List.find?_eq_none.2 (fun v hv => by rw [hnb v hv]; simp), drop_of_get hli]
          simp [hb]
        rw [this]
      rw [e]
      refine sLoadBox (valV x) (set_at push_last) rfl ?_
      refine sStoreE (v := valV x) (AV.cells (valV x)) (set_other (by first | assumption | simp | omega) (push_old h2)) rfl rfl rfl rfl ?_
      exact sRetCell (o := 0) rfl rfl (ptr_box (set_at (set_other (by first | assumption | simp | omega) (push_old h2)))) rfl rfl rfl (((hO.push _).set (by first | assumption | exact Nat.le_refl _ | simp | omega) _).set (by first | assumption | exact Nat.le_refl _ | simp | omega) _)
    · have hnb2 : ∀ v ∈ l.take (i + 1), (v.kind == 4) = false := fun v hv => by
        rw [htk] at hv
        rcases List.mem_append.1 hv with hv | hv
        · exact hnb v hv
        · rw [List.mem_singleton.1 hv]; exact hb
      refine sCond (fun hb1 => ?_) (fun hb1 => ?_)
      · have e : (((l.take (i + 1)).filter fun v => v.kind == 1).map (·.num)).map intV = (((l.take i).filter fun v => v.kind == 1).map (·.num)).map intV ++ [intV x.num] := by
          rw [htk]; simp [hb1]
        refine sLoadBox (AV.int IntKind.i64 x.num) (set_at push_last) rfl ?_
        refine sBslice (vs' := [AV.int IntKind.i64 x.num]) rfl rfl ?_
        refine sAppend (H0 := H ++ [ABlk.box [.int .i64 0, .int .i64 0, .str []]]) ((hown.pushSet _ _).push _) ((hOz.pushSet _ _).push _) view_new (by omega) ?_ (by simp) (fun v' H' ho' hO' hblk hfr => ?_)
        · have := List.length_filter_le (fun v : Val => v.kind == 1) (l.take i)
          simp only [List.length_map, List.length_cons, List.length_nil] at this ⊢
          rw [List.length_take] at this; omega
        refine sW64n (r := i + 1) rfl (by omega) ?_
        exact sNext (SPs.mk (i + 1) v') rfl ⟨hO', by simp only; omega, by simp only [e]; exact ho', hnb2⟩ (by simp only; omega)
      · have e : (((l.take (i + 1)).filter fun v => v.kind == 1).map (·.num)).map intV = (((l.take i).filter fun v => v.kind == 1).map (·.num)).map intV := by
          rw [htk]; simp [hb1]
        refine sW64n (r := i + 1) rfl (by omega) ?_
        exact sNext (SPs.mk (i + 1) v) rfl ⟨hOz.pushSet _ _, by simp only; omega, by simp only [e]; exact hown.pushSet _ _, hnb2⟩ (by simp only; omega)
  · have hge : i = l.length := by have := of_decide_eq_false hlt; omega
    subst hge
    rw [List.take_length] at hown hnb
    have e : sumL l = sumN ((l.filter fun v => v.kind == 1).map (·.num)) := by
      unfold sumL
      rw [List.find?_eq_none.2 (fun v hv => by rw [hnb v hv]; simp)]
    have hs := hS v _ H1 hown.view (by rw [List.length_map]; exact Nat.le_trans (List.length_filter_le _ _) (by omega))
    obtain ⟨w, hw⟩ : ∃ w, sumN ((l.filter fun v => v.kind == 1).map (·.num)) = w := ⟨_, rfl⟩
    rw [hw] at hs e
    rw [e]
    refine sCall0 hs ?_
    refine sStoreE (v := valV w) (AV.cells (valV w)) h2 rfl rfl rfl rfl ?_
    exact sRetCell (o := 0) rfl rfl (ptr_box (set_at h2)) rfl rfl rfl (hO.set (by first | assumption | exact Nat.le_refl _ | simp | omega) _)
end
end Go.AM

/- The walk of pick.Group: its loops. Own work. -/
set_option linter.all false
namespace Go.AM

/-! ### What it computes -/

structure Grp where
  key : List Val
  count : Nat
  sum : Val
def grpV (g : Grp) : AV := .agg [lstF 3 (g.key.map valV), natV g.count, intV g.sum.kind, intV g.sum.num, .str g.sum.text]
def cellAt (t : List Row) (c : Int) (i : Nat) : Val := (t.getD i []).getD c.toNat default
def keyVals (t : List Row) (cols : List Int) (i : Nat) : List Val := cols.map fun c => cellAt t c i
def runL (t : List Row) (ks : List Key) (x : Nat) (l : List Nat) : Nat := (l.takeWhile (same t ks x)).length
def grpL (t : List Row) (cols : List Int) (col : Int) : Nat → List Nat → List Grp
  | 0, _ => []
  | _ + 1, [] => []
  | m + 1, x :: l => ⟨keyVals t cols x, runL t (keysOf cols) x l + 1, sumL ((x :: l.take (runL t (keysOf cols) x l)).map (cellAt t col))⟩ :: grpL t cols col m (l.drop (runL t (keysOf cols) x l))

theorem runL_le (t : List Row) (ks : List Key) (x : Nat) (l : List Nat) : runL t ks x l ≤ l.length := by
  unfold runL; exact (List.takeWhile_prefix _).length_le
theorem takeWhile_is {α : Type} (p : α → Bool) : ∀ (l : List α) (n : Nat), n ≤ l.length → (∀ j x, j < n → l[j]? = some x → p x = true) → (n = l.length ∨ ∃ x, l[n]? = some x ∧ p x = false) → (l.takeWhile p).length = n
  | [], n, hn, _, _ => by simp at hn; subst hn; rfl
  | a :: l, 0, _, _, h => by
    rcases h with h | ⟨x, hx, hp⟩
    · simp at h
    · simp at hx; subst hx; simp [List.takeWhile, hp]
  | a :: l, n + 1, hn, h1, h2 => by
    have ha : p a = true := h1 0 a (by omega) rfl
    rw [List.takeWhile_cons_of_pos ha, List.length_cons, takeWhile_is p l n (by simpa using hn) (fun j x hj hx => h1 (j + 1) x (by omega) (by simpa using hx)) (by simpa using h2)]

section
variable {C : CSpec} {GT : Nat → Option AV}

structure SPv where
  i : Nat
  v : AV

/-- The keys. -/
theorem grp_keys (H0 H : Heap) (K : Post) (tv cv : AV) (cols : List Int) (col : Int) (hc : view H 1 cv = some (cols.map intV)) (hl : cols.length ≤ 12)
    (k : ∀ v H', Owns H H' v 2 ((keysOf cols).map keyV) → Old H H' → ∀ fr, restrictF fr [0, 2, 1, 9] = [(0, tv), (2, intV col), (1, cv), (9, v)] → K (.exit 0) fr H') :
    loopP C GT [35, 9, 33, 0, 2, 1, 34] b_pick_Group_0 K [(35, .int .i64 0), (9, .lst (some true) 0 []), (33, cv), (0, tv), (2, intV col), (1, cv), (34, .int .i64 cols.length)] H := by
  refine sLoop (fun s : SPv => [(35, .int .i64 s.i), (9, s.v), (33, cv), (0, tv), (2, intV col), (1, cv), (34, .int .i64 cols.length)]) (fun s H' => Old H H' ∧ s.i ≤ cols.length ∧ Owns H H' s.v 2 ((keysOf (cols.take s.i)).map keyV)) (fun s => cols.length - s.i) ⟨0, .lst (some true) 0 []⟩ rfl
    ⟨Old.refl _, Nat.zero_le _, Owns.nil _ _ _⟩ (fun ⟨i, v⟩ H1 ⟨hO, hi, hown⟩ => ?_)
  simp only at hi hown
  dsimp only
  refine sCond (fun hlt => ?_) (fun hlt => ?_)
  · have hlt : i < cols.length := by have := of_decide_eq_true hlt; omega
    have hci : cols[i]? = some cols[i] := List.getElem?_eq_getElem hlt
    refine sIdxV i (intV cols[i]) (view_old hO hc) rfl (by rw [List.getElem?_map, hci]; rfl) (fun p hp => ?_)
    refine sLoadP (intV cols[i]) hp rfl ?_
    refine sOpt rfl ?_
    refine sBslice (vs' := [keyV ⟨cols[i], false⟩]) rfl rfl ?_
    refine sAppend (H0 := H) (hown.push _) (hO.push _) view_new (by omega) ?_ (by simp) (fun v' H' ho' hO' hblk hfr => ?_)
    · simp only [keysOf, List.length_map, List.length_take, List.length_cons, List.length_nil]; omega
    refine sW64n (r := i + 1) rfl (by omega) ?_
    refine sNext (SPv.mk (i + 1) v') rfl ⟨hO', by simp only; omega, ?_⟩ (by simp only; omega)
    have e : (keysOf (cols.take (i + 1))).map keyV = (keysOf (cols.take i)).map keyV ++ [keyV ⟨cols[i], false⟩] := by
      rw [List.take_succ_eq_append_getElem hlt]; simp only [keysOf, List.map_append, List.map_cons, List.map_nil]
    simp only [e]
    exact ho'
  · have hge : i = cols.length := by have := of_decide_eq_false hlt; omega
    subst hge
    rw [List.take_length] at hown
    exact k v H1 hown hO _ rfl

/-- How many are alike. -/
theorem grp_run (hK : ∀ xa xb kv (a b : Row) ks H, RowOf xa a → RowOf xb b → view H 2 kv = some (ks.map keyV) → (∀ k ∈ ks, KeyIn a k) → (∀ k ∈ ks, KeyIn b k) → ks.length ≤ 1000000000000 → C f_sort_Compare [xa, xb, kv] H (intV (cmpK a b ks)) H)
    (H : Heap) (K : Post) (tv cv kv lv ov : AV) (t : List Row) (ks : List Key) (col : Int) (x : Nat) (l : List Nat) (ht : TabOf H tv t) (hk : view H 2 kv = some (ks.map keyV)) (hlv : LstOf lv 1 ((x :: l).map nV))
    (hin : ∀ (i : Nat) (r : Row), t[i]? = some r → ∀ k ∈ ks, KeyIn r k) (hkl : ks.length ≤ 12) (hlt : ∀ i ∈ x :: l, i < t.length) (hll : l.length ≤ 1000)
    (k : ∀ fr, restrictF fr [12, 0, 2, 1, 9, 15, 14] = [(12, lv), (0, tv), (2, intV col), (1, cv), (9, kv), (15, nV (runL t ks x l + 1)), (14, ov)] → K (.exit 4) fr H) :
    loopP C GT [15, 12, 0, 2, 1, 9, 14] b_pick_Group_1 K [(15, .int .i64 1), (12, lv), (0, tv), (2, intV col), (1, cv), (9, kv), (14, ov)] H := by
  obtain ⟨rows, hrv, hrl, hrg⟩ := ht
  have hxt := hlt x (by simp)
  have htx : t[x]? = some t[x] := List.getElem?_eq_getElem hxt
  obtain ⟨xa, hxa, hxr⟩ := hrg x _ htx
  refine sLoop (σ := Nat) (fun n => [(15, nV (n + 1)), (12, lv), (0, tv), (2, intV col), (1, cv), (9, kv), (14, ov)]) (fun n H' => H' = H ∧ n ≤ l.length ∧ ∀ j y, j < n → l[j]? = some y → same t ks x y = true) (fun n => l.length - n) 0 rfl
    ⟨rfl, Nat.zero_le _, fun j y h => absurd h (Nat.not_lt_zero _)⟩ (fun n H1 ⟨e, hn, hs⟩ => ?_)
  subst e
  refine sLenO (l.length + 1) hlv (by simp) ?_
  refine sCond (fun h => ?_) (fun h => ?_)
  · have h : n < l.length := by have := of_decide_eq_true h; omega
    have hln : l[n]? = some l[n] := List.getElem?_eq_getElem h
    have hyt := hlt l[n] (List.mem_cons_of_mem _ (List.getElem_mem h))
    have hty : t[l[n]]? = some t[l[n]] := List.getElem?_eq_getElem hyt
    obtain ⟨ya, hya, hyr⟩ := hrg _ _ hty
    have hsm : same t ks x l[n] = (cmpK t[x] t[l[n]] ks == 0) := by
      unfold same; simp only [List.getD_eq_getElem?_getD, htx, hty, Option.getD_some]
    refine sIdxO 0 (nV x) hlv rfl rfl ?_
    refine sLoadL (nV x) rfl ?_
    refine sIdxV x xa hrv rfl hxa (fun p hp => ?_)
    refine sLoadP xa hp (by obtain ⟨q, k, rfl, _⟩ := hxr; rfl) ?_
    refine sIdxO (n + 1) (nV l[n]) hlv rfl (by simp [hln]) ?_
    refine sLoadL (nV l[n]) rfl ?_
    refine sIdxV l[n] ya hrv rfl hya (fun p hp => ?_)
    refine sLoadP ya hp (by obtain ⟨q, k, rfl, _⟩ := hyr; rfl) ?_
    refine sCall0 (hK xa ya kv _ _ ks _ hxr hyr hk (hin _ _ htx) (hin _ _ hty) (by omega)) ?_
    refine sCondT ?_
    refine sCond (fun hb => ?_) (fun hb => ?_)
    · refine sW64n (r := n + 1 + 1) rfl (by omega) ?_
      refine sNext (n + 1) rfl ⟨rfl, by omega, fun j y hj hy => ?_⟩ (by omega)
      by_cases e : j = n
      · subst e; rw [hln] at hy; cases hy; rw [hsm]; exact hb
      · exact hs j y (by omega) hy
    · refine k _ ?_
      rw [show runL t ks x l = n from takeWhile_is _ l n hn hs (.inr ⟨_, hln, by rw [hsm]; exact hb⟩)]
      rfl
  · have h : n = l.length := by have := of_decide_eq_false h; omega
    refine sCondF ?_
    refine sCondF ?_
    refine k _ ?_
    rw [show runL t ks x l = n from takeWhile_is _ l n hn hs (.inl h)]
    rfl

/-- The key of a group. -/
theorem grp_key (H : Heap) (K : Post) (b : Nat) (hbl : H.length ≤ b) (tv cv kv lv ov : AV) (t : List Row) (cols : List Int) (col : Int) (x : Nat) (l : List AV) (n : Nat) (G : Heap) (hG : Old H G) (hb : G[b]? = some (.box [.lst (some true) 0 [], natV n, intV 0, intV 0, .str []]))
    (ht : TabOf H tv t) (hc : view H 1 cv = some (cols.map intV)) (hl : cols.length ≤ 12) (hlv : LstOf lv 1 (nV x :: l)) (hxt : x < t.length) (hin : ∀ c ∈ cols, ∃ j : Nat, c = j ∧ j < t[x].length)
    (k : ∀ v H', Owns H H' v 3 ((keyVals t cols x).map valV) → Old H H' → H'[b]? = some (.box [v, natV n, intV 0, intV 0, .str []]) →
      ∀ fr, restrictF fr [2, 0, 1, 9, 15, 12, 16, 14] = [(2, intV col), (0, tv), (1, cv), (9, kv), (15, natV n), (12, lv), (16, .ref b 0 0 0), (14, ov)] → K (.exit 6) fr H') :
    loopP C GT [85, 16, 12, 0, 83, 2, 1, 9, 15, 14, 84] b_pick_Group_2 K [(85, .int .i64 0), (16, .ref b 0 0 0), (12, lv), (0, tv), (83, cv), (2, intV col), (1, cv), (9, kv), (15, natV n), (14, ov), (84, .int .i64 cols.length)] G := by
  obtain ⟨rows, hrv, hrl, hrg⟩ := ht
  have htx : t[x]? = some t[x] := List.getElem?_eq_getElem hxt
  obtain ⟨xa, hxa, hxr⟩ := hrg x _ htx
  refine sLoop (fun s : SPv => [(85, .int .i64 s.i), (16, .ref b 0 0 0), (12, lv), (0, tv), (83, cv), (2, intV col), (1, cv), (9, kv), (15, natV n), (14, ov), (84, .int .i64 cols.length)])
    (fun s H' => Old H H' ∧ s.i ≤ cols.length ∧ Owns H H' s.v 3 ((keyVals t (cols.take s.i) x).map valV) ∧ H'[b]? = some (.box [s.v, natV n, intV 0, intV 0, .str []])) (fun s => cols.length - s.i) ⟨0, .lst (some true) 0 []⟩ rfl
    ⟨hG, Nat.zero_le _, Owns.nil _ _ _, hb⟩ (fun ⟨i, v⟩ H1 ⟨hO, hi, hown, hb1⟩ => ?_)
  simp only at hi hown hb1
  dsimp only
  refine sCond (fun hlt => ?_) (fun hlt => ?_)
  · have hlt : i < cols.length := by have := of_decide_eq_true hlt; omega
    have hci : cols[i]? = some cols[i] := List.getElem?_eq_getElem hlt
    obtain ⟨j, hj, hjl⟩ := hin cols[i] (List.getElem_mem hlt)
    have hxj : t[x][j]? = some t[x][j] := List.getElem?_eq_getElem hjl
    have hcell : cellAt t cols[i] x = t[x][j] := by
      unfold cellAt; rw [List.getD_eq_getElem?_getD (l := t), htx, hj]; simp [hjl]
    have e : (keyVals t (cols.take (i + 1)) x).map valV = (keyVals t (cols.take i) x).map valV ++ [valV t[x][j]] := by
      rw [List.take_succ_eq_append_getElem hlt]; simp only [keyVals, List.map_append, List.map_cons, List.map_nil, hcell]
    refine sIdxV i (intV cols[i]) (view_old hO hc) rfl (by rw [List.getElem?_map, hci]; rfl) (fun p hp => ?_)
    refine sLoadP (intV cols[i]) hp rfl ?_
    refine sIdxO 0 (nV x) hlv rfl rfl ?_
    refine sLoadL (nV x) rfl ?_
    refine sIdxV x xa (view_old hO hrv) rfl hxa (fun p hp => ?_)
    refine sLoadP xa hp (by obtain ⟨q, k, rfl, _⟩ := hxr; rfl) ?_
    refine sIdxO j (valV t[x][j]) hxr hj (by rw [List.getElem?_map, hxj]; rfl) ?_
    refine sLoadL (valV t[x][j]) rfl ?_
    have fin : ∀ v' H', Owns H H' v' 3 ((keyVals t (cols.take i) x).map valV ++ [valV t[x][j]]) → Old H H' → H'[b]? = some (.box [v, natV n, intV 0, intV 0, .str []]) →
        Old H (H'.set b (.box [v', natV n, intV 0, intV 0, .str []])) ∧ i + 1 ≤ cols.length ∧ Owns H (H'.set b (.box [v', natV n, intV 0, intV 0, .str []])) v' 3 ((keyVals t (cols.take (i + 1)) x).map valV) ∧ (H'.set b (.box [v', natV n, intV 0, intV 0, .str []]))[b]? = some (.box [v', natV n, intV 0, intV 0, .str []]) := by
      intro v' H' h1 h2 h3
      refine ⟨h2.set hbl _, by omega, ?_, set_at h3⟩
      rw [e]
      exact h1.set (h1.ne_box h3) _
    have hll : ((keyVals t (cols.take i) x).map valV).length + [valV t[x][j]].length ≤ 137438953472 := by
      simp only [keyVals, List.length_map, List.length_take, List.length_cons, List.length_nil]; omega
    have hv1 : v.cells = [v] ∧ v.one = true := by rcases hown with ⟨rfl, _⟩ | ⟨b', rfl, _⟩ <;> exact ⟨rfl, rfl⟩
    have hst : ∀ (v' : AV) (H' : Heap), Owns H H' v' 3 ((keyVals t (cols.take i) x).map valV ++ [valV t[x][j]]) → H'[b]? = some (.box [v, natV n, intV 0, intV 0, .str []]) → ∀ K : AV → Heap → Prop, K .undef (H'.set b (.box [v', natV n, intV 0, intV 0, .str []])) → actP (.store 1) [.ref b 0 0 0, v'] H' K := by
      intro v' H' ho h3 K q
      have hv1 : v'.cells = [v'] ∧ v'.one = true := by rcases ho with ⟨rfl, _⟩ | ⟨b', rfl, _⟩ <;> exact ⟨rfl, rfl⟩
      refine sStoreBox h3 (by rw [hv1.1]; rfl) (by rw [hv1.1]; simp [hv1.2]) (by simp) ?_
      rw [hv1.1]; exact q
    refine sAlt ?_ ?_
    · refine sLoadBox v hb1 rfl ?_
      refine sBslice (vs' := [valV t[x][j]]) rfl rfl ?_
      refine sAppend (H0 := H) (hown.push _) (hO.push _) view_new (by omega) hll (by simp) (fun v' H' ho' hO' hblk hfr => ?_)
      have hb2 := hfr b _ (hown.ne_box hb1) (push_old hb1)
      refine hst v' H' ho' hb2 _ ?_
      refine sW64n (r := i + 1) rfl (by omega) ?_
      exact sNext (SPv.mk (i + 1) v') rfl (fin v' H' ho' hO' hb2) (by simp only; omega)
    · refine sBslice (vs' := [valV t[x][j]]) rfl rfl ?_
      refine sLoadBox v (push_old hb1) rfl ?_
      refine sAppend (H0 := H) (hown.push _) (hO.push _) view_new (by omega) hll (by simp) (fun v' H' ho' hO' hblk hfr => ?_)
      have hb2 := hfr b _ (hown.ne_box hb1) (push_old hb1)
      refine hst v' H' ho' hb2 _ ?_
      refine sW64n (r := i + 1) rfl (by omega) ?_
      exact sNext (SPv.mk (i + 1) v') rfl (fin v' H' ho' hO' hb2) (by simp only; omega)
  · have hge : i = cols.length := by have := of_decide_eq_false hlt; omega
    subst hge
    rw [List.take_length] at hown
    exact k v H1 hown hO hb1 _ rfl

/-- What is added up. -/
theorem grp_all (H : Heap) (K : Post) (b : Nat) (tv cv kv lv sv ov : AV) (t : List Row) (col : Int) (l : List Nat) (n : AV)
    (ht : TabOf H tv t) (hsv : LstOf sv 1 (l.map nV)) (hl : l.length ≤ 1000) (hin : ∀ i ∈ l, ∃ (h : i < t.length) (j : Nat), col = j ∧ j < t[i].length)
    (k : ∀ v H', Owns H H' v 3 ((l.map (cellAt t col)).map valV) → Old H H' →
      ∀ fr, restrictF fr [0, 2, 1, 9, 15, 12, 16, 14, 19] = [(0, tv), (2, intV col), (1, cv), (9, kv), (15, n), (12, lv), (16, .ref b 0 0 0), (14, ov), (19, v)] → K (.exit 8) fr H') :
    loopP C GT [108, 2, 0, 19, 106, 1, 9, 15, 12, 16, 14, 107] b_pick_Group_3 K [(108, .int .i64 0), (2, intV col), (0, tv), (19, .lst (some true) 0 []), (106, sv), (1, cv), (9, kv), (15, n), (12, lv), (16, .ref b 0 0 0), (14, ov), (107, .int .i64 l.length)] H := by
  obtain ⟨rows, hrv, hrl, hrg⟩ := ht
  refine sLoop (fun s : SPv => [(108, .int .i64 s.i), (2, intV col), (0, tv), (19, s.v), (106, sv), (1, cv), (9, kv), (15, n), (12, lv), (16, .ref b 0 0 0), (14, ov), (107, .int .i64 l.length)])
    (fun s H' => Old H H' ∧ s.i ≤ l.length ∧ Owns H H' s.v 3 (((l.take s.i).map (cellAt t col)).map valV)) (fun s => l.length - s.i) ⟨0, .lst (some true) 0 []⟩ rfl
    ⟨Old.refl _, Nat.zero_le _, Owns.nil _ _ _⟩ (fun ⟨i, v⟩ H1 ⟨hO, hi, hown⟩ => ?_)
  simp only at hi hown
  dsimp only
  refine sCond (fun hlt => ?_) (fun hlt => ?_)
  · have hlt : i < l.length := by have := of_decide_eq_true hlt; omega
    have hli : l[i]? = some l[i] := List.getElem?_eq_getElem hlt
    obtain ⟨hxt, j, hj, hjl⟩ := hin l[i] (List.getElem_mem hlt)
    have htx : t[l[i]]? = some t[l[i]] := List.getElem?_eq_getElem hxt
    obtain ⟨xa, hxa, hxr⟩ := hrg _ _ htx
    have hxj : t[l[i]][j]? = some t[l[i]][j] := List.getElem?_eq_getElem hjl
    have hcell : cellAt t col l[i] = t[l[i]][j] := by
      unfold cellAt; rw [List.getD_eq_getElem?_getD (l := t), htx, hj]; simp [hjl]
    have e : ((l.take (i + 1)).map (cellAt t col)).map valV = ((l.take i).map (cellAt t col)).map valV ++ [valV t[l[i]][j]] := by
      rw [List.take_succ_eq_append_getElem hlt]; simp only [List.map_append, List.map_cons, List.map_nil, hcell]
    refine sIdxO i (nV l[i]) hsv rfl (by rw [List.getElem?_map, hli]; rfl) ?_
    refine sLoadL (nV l[i]) rfl ?_
    refine sIdxV l[i] xa (view_old hO hrv) rfl hxa (fun p hp => ?_)
    refine sLoadP xa hp (by obtain ⟨q, k, rfl, _⟩ := hxr; rfl) ?_
    refine sIdxO j (valV t[l[i]][j]) hxr hj (by rw [List.getElem?_map, hxj]; rfl) ?_
    refine sLoadL (valV t[l[i]][j]) rfl ?_
    refine sBslice (vs' := [valV t[l[i]][j]]) rfl rfl ?_
    refine sAppend (H0 := H) (hown.push _) (hO.push _) view_new (by omega) ?_ (by simp) (fun v' H' ho' hO' hblk hfr => ?_)
    · simp only [List.length_map, List.length_take, List.length_cons, List.length_nil]; omega
    refine sW64n (r := i + 1) rfl (by omega) ?_
    refine sNext (SPv.mk (i + 1) v') rfl ⟨hO', by simp only; omega, ?_⟩ (by simp only; omega)
    simp only [e]
    exact ho'
  · have hge : i = l.length := by have := of_decide_eq_false hlt; omega
    subst hge
    rw [List.take_length] at hown
    exact k v H1 hown hO _ rfl
end
end Go.AM

/- The walk of pick.Group. Own work. -/
set_option linter.all false
namespace Go.AM

def groupV (t : List Row) (cols : List Int) (col : Int) : AV :=
  if colErr t cols ≠ 0 then .tup [.lst (some true) 0 [], errN (colErr t cols)] else if colOK t col = false then .tup [.lst (some true) 0 [], errV 1]
  else .tup [lstF 5 ((grpL t cols col t.length (sortL t (keysOf cols))).map grpV), .nili]

theorem grpL_len (t : List Row) (cols : List Int) (col : Int) : ∀ m l, (grpL t cols col m l).length ≤ m
  | 0, _ => Nat.le_refl _
  | m + 1, [] => Nat.zero_le _
  | m + 1, x :: l => by simp only [grpL, List.length_cons]; have := grpL_len t cols col m (l.drop (runL t (keysOf cols) x l)); omega
theorem grpL_fuel (t : List Row) (cols : List Int) (col : Int) : ∀ m l, l.length ≤ m → grpL t cols col m l = grpL t cols col l.length l
  | 0, l, h => by rw [List.length_eq_zero_iff.1 (Nat.le_zero.1 h)]; rfl
  | m + 1, [], _ => rfl
  | m + 1, x :: l, h => by
    simp only [List.length_cons, grpL]
    congr 1
    have : (l.drop (runL t (keysOf cols) x l)).length ≤ l.length := by simp
    rw [grpL_fuel t cols col m _ (by simp at h; omega), grpL_fuel t cols col l.length _ this]

section
variable {C : CSpec} {GT : Nat → Option AV}

theorem grp_elem (g : Grp) : (grpV g).elem 5 = true := by
  have h1 := lstF_bel 0 3 (g.key.map valV)
  have h2 : (lstF 3 (g.key.map valV)).one = true := by cases g.key.map valV <;> rfl
  simp only [grpV, AV.elem, AV.noRef, AV.cells, AV.bel, AV.belL, h1, h2, List.all_cons, List.all_nil, natV, intV]
  rfl

structure SGr where
  lv : AV
  l : List Nat
  ov : AV
  gs : List Grp

set_option maxHeartbeats 2000000 in
theorem grp_loop (hK : ∀ xa xb kv (a b : Row) ks H, RowOf xa a → RowOf xb b → view H 2 kv = some (ks.map keyV) → (∀ k ∈ ks, KeyIn a k) → (∀ k ∈ ks, KeyIn b k) → ks.length ≤ 1000000000000 → C f_sort_Compare [xa, xb, kv] H (intV (cmpK a b ks)) H)
    (hS : ∀ sv l H, view H 3 sv = some (l.map valV) → l.length ≤ 1000 → C f_pick_sum [sv] H (valV (sumL l)) H)
    (H : Heap) (K : Post) (tv cv kv lv : AV) (t : List Row) (cols : List Int) (col : Int) (l0 : List Nat) (ht : TabOf H tv t) (hc : view H 1 cv = some (cols.map intV)) (hl : cols.length ≤ 12) (hk : view H 2 kv = some ((keysOf cols).map keyV)) (hlv : LstOf lv 1 (l0.map nV))
    (hin : ∀ (i : Nat) (r : Row), t[i]? = some r → ∀ k ∈ keysOf cols, KeyIn r k) (hcol : ∀ (i : Nat) (r : Row), t[i]? = some r → 0 ≤ col ∧ col < (r.length : Int)) (hlt : ∀ i ∈ l0, i < t.length) (h60 : l0.length ≤ 60)
    (k : ∀ v H', Owns H H' v 5 ((grpL t cols col l0.length l0).map grpV) → Old H H' → ∀ fr, restrictF fr [14] = [(14, v)] → K (.exit 2) fr H') :
    loopP C GT [12, 0, 2, 14, 1, 9] b_pick_Group_4 K [(12, lv), (0, tv), (2, intV col), (14, .lst (some true) 0 []), (1, cv), (9, kv)] H := by
  refine sLoop (fun s : SGr => [(12, s.lv), (0, tv), (2, intV col), (14, s.ov), (1, cv), (9, kv)])
    (fun s H' => Old H H' ∧ LstOf s.lv 1 (s.l.map nV) ∧ Owns H H' s.ov 5 (s.gs.map grpV) ∧ s.gs ++ grpL t cols col s.l.length s.l = grpL t cols col l0.length l0 ∧ (∀ i ∈ s.l, i < t.length) ∧ s.l.length + s.gs.length ≤ 60) (fun s => s.l.length) ⟨lv, l0, .lst (some true) 0 [], []⟩ rfl
    ⟨Old.refl _, hlv, Owns.nil _ _ _, rfl, hlt, by simpa using h60⟩ (fun ⟨lv, l, ov, gs⟩ H1 ⟨hO, hlv, hown, hgs, hlt, hlen⟩ => ?_)
  simp only at hlv hown hgs hlt hlen
  dsimp only
  refine sLenO l.length hlv (by simp) ?_
  refine sCond (fun h => ?_) (fun h => ?_)
  case refine_2 =>
    have h : l = [] := List.length_eq_zero_iff.1 (by have := of_decide_eq_false h; omega)
    subst h
    refine k ov H1 ?_ hO _ rfl
    rw [← hgs]; simpa [grpL] using hown
  have h : l ≠ [] := fun e => by subst e; exact absurd h (by simp)
  obtain ⟨x, l, rfl⟩ := List.exists_cons_of_ne_nil h
  have hxt := hlt x (by simp)
  have htx : t[x]? = some t[x] := List.getElem?_eq_getElem hxt
  simp only [List.length_cons] at hlen
  have hrl := runL_le t (keysOf cols) x l
  refine grp_run hK H1 _ tv cv kv lv ov t (keysOf cols) col x l (ht.old hO) (view_old hO hk) hlv hin (by simpa [keysOf] using hl) hlt (by omega) (fun fr hfr => ?_)
  refine sBlk hfr ?_
  have hn : runL t (keysOf cols) x l + 1 ≤ (x :: l).length := by simp; omega
  obtain ⟨n, hnd⟩ : ∃ n, runL t (keysOf cols) x l = n := ⟨_, rfl⟩
  rw [hnd] at hn hrl
  rw [hnd]
  have hin2 : ∀ c ∈ cols, ∃ j : Nat, c = j ∧ j < t[x].length := fun c hc => by
    obtain ⟨h1, h2⟩ := hin x _ htx ⟨c, false⟩ (List.mem_map.2 ⟨c, hc, rfl⟩)
    exact ⟨c.toNat, by simp only at h1; omega, by simp only at h1 h2; omega⟩
  refine sOpt (v := [AV.lst (some true) 0 [], nV (n + 1), AV.int IntKind.i64 0, AV.int IntKind.i64 0, AV.str []]) rfl ?_
  refine sStoreE (v := AV.agg [AV.lst (some true) 0 [], nV (n + 1), AV.int IntKind.i64 0, AV.int IntKind.i64 0, AV.str []]) (AV.cells (AV.agg [AV.lst (some true) 0 [], nV (n + 1), AV.int IntKind.i64 0, AV.int IntKind.i64 0, AV.str []])) push_last rfl rfl rfl rfl ?_
  refine sLenN cols.length hc (by simp) ?_
  refine grp_key H1 _ H1.length (Nat.le_refl _) tv cv kv lv ov t cols col x (l.map nV) (n + 1) _ ((Old.refl H1).pushSet _ _) (set_at push_last) (ht.old hO) (view_old hO hc) hl hlv hxt hin2 (fun v2 H2 hown2 hO2 hb2 fr hfr => ?_)
  refine sBlk hfr ?_
  obtain ⟨sv, hsl, hsv⟩ := lst_take hlv (n := n + 1) (by simpa using hn)
  rw [← List.map_take] at hsv
  obtain ⟨dv, hdl, hdv⟩ := lst_drop hlv (n := n + 1) (by simpa using hn)
  rw [← List.map_drop] at hdv
  refine sOpt hsl ?_
  refine sLenO ((x :: l).take (n + 1)).length hsv (by simp) ?_
  refine grp_all H2 _ H1.length tv cv kv lv sv ov t col ((x :: l).take (n + 1)) (natV (n + 1)) (ht.old (hO.trans hO2)) hsv (by rw [List.length_take]; omega) (fun i hi => ?_) (fun v3 H3 hown3 hO3 fr hfr => ?_)
  · have h1 := hlt i (List.mem_of_mem_take hi)
    obtain ⟨h2, h3⟩ := hcol i _ (List.getElem?_eq_getElem h1)
    exact ⟨h1, col.toNat, by omega, by omega⟩
  refine sBlk hfr ?_
  have hb3 := old_get hO3 hb2
  have hsum := hS v3 _ H3 hown3.view (by rw [List.length_map, List.length_take]; omega)
  obtain ⟨s, hs⟩ : ∃ s, sumL (((x :: l).take (n + 1)).map (cellAt t col)) = s := ⟨_, rfl⟩
  rw [hs] at hsum
  refine sCall0 hsum ?_
  refine sStoreE (v := valV s) [v2, natV (n + 1), AV.int IntKind.i64 s.kind, AV.int IntKind.i64 s.num, AV.str s.text] hb3 rfl rfl rfl rfl ?_
  refine sLoadBox (AV.agg [v2, natV (n + 1), AV.int IntKind.i64 s.kind, AV.int IntKind.i64 s.num, AV.str s.text]) (set_at hb3) rfl ?_
  have hv3 : Owns H1 (H3.set H1.length (.box [v2, natV (n + 1), .int .i64 s.kind, .int .i64 s.num, .str s.text])) v2 3 ((keyVals t cols x).map valV) :=
    (hown2.keep fun b x hb hx => old_get hO3 hx).set (hown2.ne_box hb2) _
  have hO13 : Old H1 (H3.set H1.length (.box [v2, natV (n + 1), .int .i64 s.kind, .int .i64 s.num, .str s.text])) := (hO2.trans hO3).set (Nat.le_refl _) _
  obtain ⟨H4, hf, hlen4, hkeep4, hold4⟩ := frzL_own (cs := [natV (n + 1), .int .i64 s.kind, .int .i64 s.num, .str s.text]) hv3 (fun H => rfl)
  have hO4 : Old H1 H4 := hold4 hO13
  have hov : Owns H H4 ov 5 (gs.map grpV) := hown.keep fun b y hb hy => by
    have hbl := (List.getElem?_eq_some_iff.1 hy).1
    refine hkeep4 b y (fun e => ?_) (set_other (by omega) (old_get hO3 (old_get hO2 hy)))
    have := (hv3.lt e).1; omega
  refine sBsliceF [grpV ⟨keyVals t cols x, n + 1, s⟩] H4 hf (by simp [grp_elem]) ?_
  refine sAppend (H0 := H) (hov.push _) ((hO.trans hO4).push _) view_new (by omega) (by simp; omega) (by simp) (fun v' H' ho' hO' hblk hfr => ?_)
  refine sOpt hdl ?_
  have hd : (x :: l).drop (n + 1) = l.drop n := rfl
  refine sNext (SGr.mk dv ((x :: l).drop (n + 1)) v' (gs ++ [⟨keyVals t cols x, n + 1, s⟩])) rfl ⟨hO', hdv, by simp only [List.map_append]; exact ho', ?_, fun i hi => hlt i (List.mem_of_mem_drop hi), ?_⟩ ?_
  · rw [← hgs]
    simp only [List.length_cons, grpL, hnd]
    have e1 : (x :: l.take n).map (cellAt t col) = ((x :: l).take (n + 1)).map (cellAt t col) := rfl
    rw [e1, hs, hd, List.append_assoc, ← grpL_fuel t cols col l.length (l.drop n) (by simp)]
    rfl
  · simp only [List.length_append, List.length_cons, List.length_nil, hd, List.length_drop]; omega
  · simp only [hd, List.length_drop, List.length_cons]; omega

theorem group_ev (hCols : ∀ tv cv t cols H, TabOf H tv t → view H 1 cv = some (cols.map intV) → C f_sort_Columns [tv, cv] H (errN (colErr t cols)) H)
    (hCol : ∀ tv t c H, TabOf H tv t → C f_sort_Column [tv, intV c] H (.bool (colOK t c)) H)
    (hSort : ∀ tv kv t ks H, TabOf H tv t → view H 2 kv = some (ks.map keyV) → ks.length ≤ 8796093022208 → C f_sort_Sort [tv, kv] H (sortV t ks) H)
    (hK : ∀ xa xb kv (a b : Row) ks H, RowOf xa a → RowOf xb b → view H 2 kv = some (ks.map keyV) → (∀ k ∈ ks, KeyIn a k) → (∀ k ∈ ks, KeyIn b k) → ks.length ≤ 1000000000000 → C f_sort_Compare [xa, xb, kv] H (intV (cmpK a b ks)) H)
    (hS : ∀ sv l H, view H 3 sv = some (l.map valV) → l.length ≤ 1000 → C f_pick_sum [sv] H (valV (sumL l)) H)
    (tv cv : AV) (t : List Row) (cols : List Int) (col : Int) (H : Heap) (ht : TabOf H tv t) (hc : view H 1 cv = some (cols.map intV)) : EFun C GT a_pick_Group [tv, cv, intV col] H (groupV t cols col) H := by
  have hce := hCols tv cv t cols H ht hc
  by_cases he : colErr t cols = 0
  case neg =>
    obtain ⟨n, hn⟩ : ∃ n, colErr t cols = n + 1 := ⟨colErr t cols - 1, by omega⟩
    have e : groupV t cols col = .tup [.lst (some true) 0 [], errN (n + 1)] := by unfold groupV; rw [if_pos he, hn]
    rw [hn] at hce
    rw [e]
    refine efun_of ?_
    refine sCall0 hce ?_
    refine sOpt rfl ?_
    refine sCondT ?_
    exact sRetV rfl rfl rfl rfl (Old.refl _)
  rw [he] at hce
  have hco := hCol tv t col H ht
  by_cases hok : colOK t col = true
  case neg =>
    have hok : colOK t col = false := by simpa using hok
    have e : groupV t cols col = .tup [.lst (some true) 0 [], errV 1] := by unfold groupV; rw [if_neg (by omega), if_pos hok]
    rw [hok] at hco
    rw [e]
    refine efun_of ?_
    refine sCall0 hce ?_
    refine sOpt rfl ?_
    refine sCondF ?_
    refine sCall0 hco ?_
    refine sCondT ?_
    exact sRetV rfl rfl rfl rfl (Old.refl _)
  rw [hok] at hco
  obtain ⟨h60, h12, hwide, hin⟩ := tab_ok he
  have e : groupV t cols col = .tup [lstF 5 ((grpL t cols col t.length (sortL t (keysOf cols))).map grpV), .nili] := by unfold groupV; rw [if_neg (by omega), if_neg (by rw [hok]; simp)]
  have hkc : colsOf (keysOf cols) = cols := by unfold colsOf keysOf; rw [List.map_map]; exact List.map_id _
  rw [e]
  refine efun_of ?_
  refine sCall0 hce ?_
  refine sOpt rfl ?_
  refine sCondF ?_
  refine sCall0 hco ?_
  refine sCondF ?_
  refine sLenN cols.length hc (by simp) ?_
  refine grp_keys H H _ tv cv cols col hc h12 (fun kv H1 hown hO fr hfr => ?_)
  refine sBlk hfr ?_
  have hsr := hSort tv kv t (keysOf cols) H1 (ht.old hO) hown.view (by simp [keysOf]; omega)
  have hsv : sortV t (keysOf cols) = .tup [lstF 1 ((sortL t (keysOf cols)).map nV), .nili] := by unfold sortV; rw [hkc, if_neg (by omega)]
  rw [hsv] at hsr
  refine sCall0 hsr ?_
  refine sOpt rfl ?_
  refine sOpt rfl ?_
  refine sOpt rfl ?_
  refine sCondF ?_
  have hsl : (sortL t (keysOf cols)).length = t.length := srtL_len _ _
  refine grp_loop hK hS H1 _ tv cv kv _ t cols col (sortL t (keysOf cols)) (ht.old hO) (view_old hO hc) h12 hown.view (lstF_of 1 _) (fun i r hr k hk => ?_) (fun i r hr => ?_) (fun i hi => ?_) (by omega) (fun v H2 hown2 hO2 fr hfr => ?_)
  · obtain ⟨c, hcm, rfl⟩ := List.mem_map.1 hk
    exact hin i r hr c hcm
  · have h1 : 0 ≤ col ∧ col < (wideT t : Int) := by unfold colOK at hok; simpa using hok
    have := (hwide i r hr).1
    omega
  · obtain ⟨j, hj⟩ := List.getElem?_of_mem hi
    exact (sortL_ok t (keysOf cols)).lt j i hj
  refine sBlk hfr ?_
  rw [hsl] at hown2
  obtain ⟨H', hf, hO', _⟩ := (hown2.weaken hO.1).frz (hO.trans hO2)
  exact sRetF (v0 := .tup [v, .nili]) rfl rfl (by simp only [frzV, frzL, hf]) (by simp [AV.bel, AV.belL, lstF_bel]) hO'
end
end Go.AM

/- The reference's groups are the runs of the sorted rows: the plain law of PickGroups. Own work. -/
set_option linter.all false
namespace Go.AM

def classL (t : List Row) (cols : List Int) (x : Nat) : List Nat := (List.range t.length).filter fun k => alikeR (t.getD k []) (t.getD x []) cols
def refG (t : List Row) (cols : List Int) (col : Int) (x : Nat) : Grp := ⟨keyVals t cols x, (classL t cols x).length, sumL ((classL t cols x).map (cellAt t col))⟩
def refGL (t : List Row) (cols : List Int) (col : Int) (l : List Nat) : List Grp := (l.filter fun x => decide (x ∈ ids t (keysOf cols) t.length)).map (refG t cols col)

theorem sorted_mem {R : Nat → Nat → Prop} (asym : ∀ x y, R x y → R y x → False) : ∀ l l' : List Nat, l.Pairwise R → l'.Pairwise R → (∀ a, a ∈ l ↔ a ∈ l') → l = l'
  | [], [], _, _, _ => rfl
  | [], b :: l', _, _, h => by have := (h b).2 (by simp); cases this
  | a :: l, [], _, _, h => by have := (h a).1 (by simp); cases this
  | a :: l, b :: l', h1, h2, h => by
    obtain ⟨p1, p2⟩ := List.pairwise_cons.1 h1
    obtain ⟨q1, q2⟩ := List.pairwise_cons.1 h2
    have e : a = b := by
      by_cases e : a = b
      · exact e
      · have ha : a ∈ l' := by have := (h a).1 (by simp); simpa [e] using this
        have hb : b ∈ l := by have := (h b).2 (by simp); simpa [Ne.symm e] using this
        exact absurd (q1 a ha) fun h => asym _ _ h (p1 b hb)
    subst e
    congr 1
    refine sorted_mem asym l l' p2 q2 fun c => ⟨fun hc => ?_, fun hc => ?_⟩
    · rcases List.mem_cons.1 ((h c).1 (List.mem_cons_of_mem _ hc)) with e | h'
      · subst e; exact absurd (p1 c hc) fun h => asym _ _ h h
      · exact h'
    · rcases List.mem_cons.1 ((h c).2 (List.mem_cons_of_mem _ hc)) with e | h'
      · subst e; exact absurd (q1 c hc) fun h => asym _ _ h h
      · exact h'

section
variable {t : List Row} {cols : List Int}

theorem alike_same (k x : Nat) : alikeR (t.getD k []) (t.getD x []) cols = same t (keysOf cols) k x := by
  rw [Bool.eq_iff_iff, same_iff]
  simp only [alikeR, List.all_eq_true, decide_eq_true_eq]
theorem same_refl (x : Nat) : same t (keysOf cols) x x = true := same_iff.2 fun _ _ => rfl
theorem same_zero {x y : Nat} (h : same t (keysOf cols) x y = true) : rowC t (keysOf cols) x y = 0 := by unfold same at h; exact eq_of_beq h
theorem same_notlt {x y : Nat} (h : same t (keysOf cols) x y = true) : rowLt t (keysOf cols) x y = false := by
  unfold rowLt ltOf; rw [same_zero h]; rfl
theorem lt_or_same (x z : Nat) (h : Bef (rowLt t (keysOf cols)) x z) (hs : same t (keysOf cols) x z = false) : rowLt t (keysOf cols) x z = true := by
  rcases h with h | ⟨h, _⟩
  · exact h
  · unfold rowLt ltOf at h ⊢
    have ha := (rowC_fn t (keysOf cols)).anti x z
    have h0 : rowC t (keysOf cols) x z ≠ 0 := fun e => by
      have : same t (keysOf cols) x z = true := by unfold same; exact beq_iff_eq.2 e
      rw [this] at hs; cases hs
    have h1 := of_decide_eq_false h
    exact decide_eq_true (by omega)

theorem grpL_ref (col : Int) : ∀ (m : Nat) (l : List Nat), l.length ≤ m → l.Pairwise (Bef (rowLt t (keysOf cols))) → (∀ x ∈ l, x < t.length) → (∀ x ∈ l, ∀ k, k < t.length → same t (keysOf cols) k x = true → k ∈ l) →
    grpL t cols col m l = refGL t cols col l
  | 0, l, h, _, _, _ => by rw [List.length_eq_zero_iff.1 (Nat.le_zero.1 h)]; rfl
  | m + 1, [], _, _, _, _ => rfl
  | m + 1, x :: rest, hm, hp, hlt, hcl => by
    have hl := rowLt_ok t (keysOf cols)
    obtain ⟨p1, p2⟩ := List.pairwise_cons.1 hp
    obtain ⟨tw, htw⟩ : ∃ tw, rest.takeWhile (same t (keysOf cols) x) = tw := ⟨_, rfl⟩
    obtain ⟨dw, hdw⟩ : ∃ dw, rest.dropWhile (same t (keysOf cols) x) = dw := ⟨_, rfl⟩
    have hrest : tw ++ dw = rest := by rw [← htw, ← hdw, List.takeWhile_append_dropWhile]
    have hrun : runL t (keysOf cols) x rest = tw.length := by unfold runL; rw [htw]
    have htake : rest.take tw.length = tw := by rw [← hrest, List.take_left']; rfl
    have hdrop : rest.drop tw.length = dw := by rw [← hrest, List.drop_left']; rfl
    have htws : ∀ y ∈ tw, same t (keysOf cols) x y = true := fun y hy => by
      rw [← htw] at hy
      exact List.all_eq_true.1 List.all_takeWhile y hy
    have hdws : ∀ y ∈ dw, same t (keysOf cols) x y = false := fun y hy => by
      cases hd : dw with
      | nil => rw [hd] at hy; cases hy
      | cons z dw' =>
        have hz : same t (keysOf cols) x z = false := by
          have := List.head?_dropWhile_not (same t (keysOf cols) x) rest
          rw [hdw, hd] at this
          simpa using this
        have hxz := lt_or_same x z (p1 z (by rw [← hrest, hd]; simp)) hz
        rw [hd] at hy
        rcases List.mem_cons.1 hy with e | hy
        · rw [e]; exact hz
        · have hdp : (z :: dw').Pairwise (Bef (rowLt t (keysOf cols))) := by rw [← hrest, hd] at p2; exact (List.pairwise_append.1 p2).2.1
          have hzy : rowLt t (keysOf cols) y z = false := by
            rcases (List.pairwise_cons.1 hdp).1 y hy with h | ⟨h, _⟩
            · exact hl.asym _ _ h
            · exact h
          cases hs : same t (keysOf cols) x y with
          | false => rfl
          | true =>
            have h1 := lt_le hl hxz hzy
            rw [same_notlt hs] at h1; cases h1
    have hlast : ∀ y ∈ tw, x < y := fun y hy => by
      rcases p1 y (by rw [← hrest]; exact List.mem_append_left _ hy) with h | ⟨_, h⟩
      · rw [same_notlt (htws y hy)] at h; cases h
      · exact h
    have hxlt := hlt x (by simp)
    have hclass : classL t cols x = x :: tw := by
      refine sorted_mem (R := Bef (rowLt t (keysOf cols))) (fun a b h k => Bef.asymm hl h k) _ _ ?_ ?_ fun k => ?_
      · unfold classL
        refine List.Pairwise.imp_of_mem (R := (· < ·)) (fun {a b} ha hb hab => ?_) (List.Pairwise.filter _ List.pairwise_lt_range)
        have ha := (List.mem_filter.1 ha).2
        have hb := (List.mem_filter.1 hb).2
        rw [alike_same] at ha hb
        exact .inr ⟨same_notlt (same_trans hb (same_symm ha)), hab⟩
      · exact List.pairwise_cons.2 ⟨fun y hy => p1 y (by rw [← hrest]; exact List.mem_append_left _ hy), by rw [← hrest] at p2; exact (List.pairwise_append.1 p2).1⟩
      · unfold classL
        rw [List.mem_filter, List.mem_range, alike_same]
        constructor
        · rintro ⟨hk, hs⟩
          rcases List.mem_cons.1 (hcl x (by simp) k hk hs) with e | h
          · rw [e]; simp
          · rw [← hrest] at h
            rcases List.mem_append.1 h with h | h
            · exact List.mem_cons_of_mem _ h
            · have := hdws k h
              rw [same_symm hs] at this; cases this
        · intro h
          rcases List.mem_cons.1 h with e | h
          · rw [e]; exact ⟨hxlt, same_refl x⟩
          · exact ⟨hlt k (List.mem_cons_of_mem _ (by rw [← hrest]; exact List.mem_append_left _ h)), same_symm (htws k h)⟩
    have hfirst : x ∈ ids t (keysOf cols) t.length := (left_iff hxlt).2 fun k hk => by
      cases hs : same t (keysOf cols) k x with
      | false => rfl
      | true =>
        rcases List.mem_cons.1 (hcl x (by simp) k (by omega) hs) with e | h
        · omega
        · rw [← hrest] at h
          rcases List.mem_append.1 h with h | h
          · have := hlast k h; omega
          · have := hdws k h
            rw [same_symm hs] at this; cases this
    have hnot : ∀ y ∈ tw, y ∉ ids t (keysOf cols) t.length := fun y hy hm => by
      have h1 := hlt y (List.mem_cons_of_mem _ (by rw [← hrest]; exact List.mem_append_left _ hy))
      have := (left_iff h1).1 hm x (hlast y hy)
      rw [htws y hy] at this; cases this
    have hlen : dw.length ≤ m := by
      have : rest.length = tw.length + dw.length := by rw [← hrest, List.length_append]
      simp only [List.length_cons] at hm
      omega
    have ih := grpL_ref col m dw hlen (by rw [← hrest] at p2; exact (List.pairwise_append.1 p2).2.1) (fun y hy => hlt y (List.mem_cons_of_mem _ (by rw [← hrest]; exact List.mem_append_right _ hy))) (fun y hy k hk hs => by
      rcases List.mem_cons.1 (hcl y (List.mem_cons_of_mem _ (by rw [← hrest]; exact List.mem_append_right _ hy)) k hk hs) with e | h
      · rw [e] at hs
        have := hdws y hy
        rw [hs] at this; cases this
      · rw [← hrest] at h
        rcases List.mem_append.1 h with h | h
        · have := hdws y hy
          rw [same_trans (htws k h) hs] at this; cases this
        · exact h)
    simp only [grpL, hrun, htake, hdrop, ih]
    unfold refGL
    rw [List.filter_cons_of_pos (by simpa using hfirst), List.map_cons]
    have hf : rest.filter (fun x => decide (x ∈ ids t (keysOf cols) t.length)) = dw.filter fun x => decide (x ∈ ids t (keysOf cols) t.length) := by
      rw [← hrest, List.filter_append, List.filter_eq_nil_iff.2 (fun y hy => by simpa using hnot y hy), List.nil_append]
    rw [hf]
    congr 1
    unfold refG
    rw [hclass]
    rfl

theorem groups_are (col : Int) : grpL t cols col t.length (sortL t (keysOf cols)) = refGL t cols col (sortL t (keysOf cols)) := by
  have hp : (sortL t (keysOf cols)).Perm (List.range t.length) := srtL_perm (rowLt t (keysOf cols)) t.length
  have hs : (sortL t (keysOf cols)).Pairwise (Bef (rowLt t (keysOf cols))) := srtL_sorted (rowLt_ok t (keysOf cols)) t.length
  exact grpL_ref col _ _ (Nat.le_of_eq (srtL_len _ _)) hs (fun x hx => List.mem_range.1 (hp.mem_iff.1 hx)) fun x hx k hk _ => hp.mem_iff.2 (List.mem_range.2 hk)
end
end Go.AM

/- Big numbers by words of 32 bits: plain facts. Own work. -/
set_option linter.all false
namespace Go.AM

/-- The words of a number, the least first. -/
def wdsF : Nat → Nat → List Nat
  | 0, _ => []
  | f + 1, n => if n = 0 then [] else (n % 4294967296) :: wdsF f (n / 4294967296)
def wds (n : Nat) : List Nat := wdsF n n
def wval : List Nat → Nat
  | [] => 0
  | w :: ws => w + 4294967296 * wval ws
def Small (ws : List Nat) : Prop := ∀ w ∈ ws, w < 4294967296

theorem wdsF_fuel : ∀ f g n, n ≤ f → n ≤ g → wdsF f n = wdsF g n
  | 0, 0, _, _, _ => rfl
  | 0, g + 1, n, h, _ => by have : n = 0 := by omega
                            subst this; rfl
  | f + 1, 0, n, _, h => by have : n = 0 := by omega
                            subst this; rfl
  | f + 1, g + 1, n, h, k => by
    simp only [wdsF]
    split
    · rfl
    · rw [wdsF_fuel f g (n / 4294967296) (by omega) (by omega)]
theorem wds_zero : wds 0 = [] := rfl
theorem wds_pos {n : Nat} (h : n ≠ 0) : wds n = (n % 4294967296) :: wds (n / 4294967296) := by
  unfold wds
  obtain ⟨m, rfl⟩ : ∃ m, n = m + 1 := ⟨n - 1, by omega⟩
  rw [wdsF, if_neg h, wdsF_fuel m ((m + 1) / 4294967296) _ (by omega) (Nat.le_refl _)]
theorem wval_wds (n : Nat) : wval (wds n) = n := by
  induction n using Nat.strongRecOn with
  | ind n ih =>
    by_cases h : n = 0
    · subst h; rfl
    · rw [wds_pos h, wval, ih _ (by omega)]; omega
theorem wds_small (n : Nat) : Small (wds n) := by
  induction n using Nat.strongRecOn with
  | ind n ih =>
    by_cases h : n = 0
    · subst h; intro w hw; cases hw
    · rw [wds_pos h]
      intro w hw
      rcases List.mem_cons.1 hw with rfl | hw
      · omega
      · exact ih _ (by omega) w hw
theorem wds_cons {w : Nat} {v : Nat} (hw : w < 4294967296) (h : w ≠ 0 ∨ v ≠ 0) : wds (w + 4294967296 * v) = w :: wds v := by
  rw [wds_pos (by omega)]
  have e1 : (w + 4294967296 * v) % 4294967296 = w := by omega
  have e2 : (w + 4294967296 * v) / 4294967296 = v := by omega
  rw [e1, e2]
/-- Noughts at the end alone are lost. -/
theorem wds_pad : ∀ ws : List Nat, Small ws → ∃ k, ws = wds (wval ws) ++ List.replicate k 0
  | [], _ => ⟨0, rfl⟩
  | w :: ws, h => by
    obtain ⟨k, hk⟩ := wds_pad ws fun x hx => h x (List.mem_cons_of_mem _ hx)
    have hw := h w (by simp)
    by_cases hz : w = 0 ∧ wval ws = 0
    · refine ⟨k + 1, ?_⟩
      rw [wval, hz.1, hz.2]
      rw [hz.2] at hk
      simp only [Nat.mul_zero, Nat.add_zero, wds_zero, List.nil_append] at hk ⊢
      rw [List.replicate_succ, ← hk]
    · refine ⟨k, ?_⟩
      rw [wval, wds_cons hw (by omega), List.cons_append, ← hk]
theorem wds_take {ws : List Nat} (h : Small ws) : (wds (wval ws)).length ≤ ws.length ∧ ws.take (wds (wval ws)).length = wds (wval ws) := by
  obtain ⟨k, hk⟩ := wds_pad ws h
  constructor
  · conv => rhs; rw [hk]
    simp
  · conv => lhs; rw [hk]
    have : wval (wds (wval ws) ++ List.replicate k 0) = wval ws := by rw [← hk]
    rw [this]
    simp
theorem wds_val {ws : List Nat} (h : Small ws) (hl : ∀ w, ws.getLast? = some w → w ≠ 0) : wds (wval ws) = ws := by
  obtain ⟨k, hk⟩ := wds_pad ws h
  cases k with
  | zero => rw [List.replicate_zero, List.append_nil] at hk; exact hk.symm
  | succ k =>
    exfalso
    refine hl 0 ?_ rfl
    rw [hk, List.replicate_succ', ← List.append_assoc, List.getLast?_append]
    simp
theorem wval_append : ∀ xs ys : List Nat, wval (xs ++ ys) = wval xs + 4294967296 ^ xs.length * wval ys
  | [], ys => by simp [wval]
  | x :: xs, ys => by
    simp only [List.cons_append, wval, wval_append xs ys, List.length_cons]
    rw [Nat.mul_add, ← Nat.mul_assoc, Nat.pow_succ, Nat.mul_comm (4294967296 ^ xs.length) 4294967296]
    omega
theorem wval_snoc (xs : List Nat) (y : Nat) : wval (xs ++ [y]) = wval xs + 4294967296 ^ xs.length * y := by
  rw [wval_append]; simp [wval]
theorem wval_take_succ {ws : List Nat} {i : Nat} (h : i < ws.length) : wval (ws.take (i + 1)) = wval (ws.take i) + 4294967296 ^ i * ws[i] := by
  rw [List.take_succ_eq_append_getElem h, wval_snoc, List.length_take, Nat.min_eq_left (by omega)]
theorem wval_lt : ∀ {ws : List Nat}, Small ws → wval ws < 4294967296 ^ ws.length
  | [], _ => by simp [wval]
  | w :: ws, h => by
    have h1 := h w (by simp)
    have h2 := wval_lt (ws := ws) fun x hx => h x (List.mem_cons_of_mem _ hx)
    simp only [wval, List.length_cons]
    rw [Nat.pow_succ, Nat.mul_comm (4294967296 ^ ws.length) 4294967296]
    omega
theorem wval_zeros (k : Nat) : wval (List.replicate k 0) = 0 := by
  induction k with
  | zero => rfl
  | succ k ih => rw [List.replicate_succ, wval, ih]
theorem wds_ge : ∀ (n : Nat), n ≠ 0 → 4294967296 ^ ((wds n).length - 1) ≤ n := by
  intro n
  induction n using Nat.strongRecOn with
  | ind n ih =>
    intro h
    rw [wds_pos h, List.length_cons, Nat.add_sub_cancel]
    by_cases h2 : n / 4294967296 = 0
    · rw [h2]; simp [wds_zero]; omega
    · have h3 := ih _ (by omega) h2
      have h4 : (wds (n / 4294967296)).length ≠ 0 := by rw [wds_pos h2]; simp
      obtain ⟨m, hm⟩ : ∃ m, (wds (n / 4294967296)).length = m + 1 := ⟨(wds (n / 4294967296)).length - 1, by omega⟩
      rw [hm] at h3 ⊢
      simp only [Nat.add_sub_cancel] at h3
      rw [Nat.pow_succ]
      omega
theorem wds_lt (n : Nat) : n < 4294967296 ^ (wds n).length := by
  have := wval_lt (wds_small n); rwa [wval_wds] at this
theorem wds_len_lt {a b : Nat} (h : (wds a).length < (wds b).length) : a < b := by
  have hb : b ≠ 0 := fun e => by subst e; simp [wds_zero] at h
  have h1 := wds_lt a
  have h2 := wds_ge b hb
  have h3 : 4294967296 ^ (wds a).length ≤ 4294967296 ^ ((wds b).length - 1) := Nat.pow_le_pow_right (by omega) (by omega)
  omega
theorem wds_len_mono {a b : Nat} (h : a ≤ b) : (wds a).length ≤ (wds b).length := by
  rcases Nat.lt_or_ge (wds b).length (wds a).length with h2 | h2
  · have := wds_len_lt h2; omega
  · exact h2
/-- What holds from above holds. -/
theorem cmp_top {xs ys : List Nat} (hx : Small xs) (hy : Small ys) (hl : xs.length = ys.length) {i : Nat} (hi : i < xs.length) (he : xs.drop (i + 1) = ys.drop (i + 1)) (hlt : xs[i] < ys[i]'(by omega)) : wval xs < wval ys := by
  have h1 : xs = xs.take i ++ xs[i] :: xs.drop (i + 1) := by rw [List.getElem_cons_drop, List.take_append_drop]
  have h2 : ys = ys.take i ++ ys[i]'(by omega) :: ys.drop (i + 1) := by rw [List.getElem_cons_drop, List.take_append_drop]
  have g1 : wval xs = wval (xs.take i) + 4294967296 ^ i * (xs[i] + 4294967296 * wval (xs.drop (i + 1))) := by
    conv => lhs; rw [h1]
    rw [wval_append, List.length_take, Nat.min_eq_left (by omega), wval]
  have g2 : wval ys = wval (ys.take i) + 4294967296 ^ i * (ys[i]'(by omega) + 4294967296 * wval (ys.drop (i + 1))) := by
    conv => lhs; rw [h2]
    rw [wval_append, List.length_take, Nat.min_eq_left (by omega), wval]
  have g3 : wval (xs.take i) < 4294967296 ^ i := by
    have := wval_lt (ws := xs.take i) fun w hw => hx w (List.mem_of_mem_take hw)
    rwa [List.length_take, Nat.min_eq_left (by omega)] at this
  rw [g1, g2, he]
  have g4 : 4294967296 ^ i * (xs[i] + 4294967296 * wval (ys.drop (i + 1)) + 1) ≤ 4294967296 ^ i * (ys[i]'(by omega) + 4294967296 * wval (ys.drop (i + 1))) := Nat.mul_le_mul_left _ (by omega)
  rw [Nat.mul_add, Nat.mul_one] at g4
  omega

/-- How many bits a number has. -/
def bitsF : Nat → Nat → Nat
  | 0, _ => 0
  | f + 1, n => if n = 0 then 0 else bitsF f (n / 2) + 1
def bits (n : Nat) : Nat := bitsF n n
theorem bitsF_fuel : ∀ f g n, n ≤ f → n ≤ g → bitsF f n = bitsF g n
  | 0, 0, _, _, _ => rfl
  | 0, g + 1, n, h, _ => by have : n = 0 := by omega
                            subst this; rfl
  | f + 1, 0, n, _, h => by have : n = 0 := by omega
                            subst this; rfl
  | f + 1, g + 1, n, h, k => by
    simp only [bitsF]
    split
    · rfl
    · rw [bitsF_fuel f g (n / 2) (by omega) (by omega)]
theorem bits_pos {n : Nat} (h : n ≠ 0) : bits n = bits (n / 2) + 1 := by
  unfold bits
  obtain ⟨m, rfl⟩ : ∃ m, n = m + 1 := ⟨n - 1, by omega⟩
  rw [bitsF, if_neg h, bitsF_fuel m ((m + 1) / 2) _ (by omega) (Nat.le_refl _)]
theorem bits_le (k : Nat) : ∀ n, bits n ≤ k ↔ n < 2 ^ k := by
  induction k with
  | zero =>
    intro n
    by_cases h : n = 0
    · subst h; simp [bits, bitsF]
    · rw [bits_pos h]; simp; omega
  | succ k ih =>
    intro n
    by_cases h : n = 0
    · subst h; simp [bits, bitsF]; exact Nat.two_pow_pos _
    · rw [bits_pos h, Nat.pow_succ]
      have := ih (n / 2)
      constructor
      · intro h2
        have := this.1 (by omega)
        omega
      · intro h2
        have := this.2 (by omega)
        omega
end Go.AM

/- The reference's big numbers: walks (words, trim, add, sub, cmp, sum). Own work. -/
set_option linter.all false
set_option maxRecDepth 20000
namespace Go.AM

def u32V (w : Nat) : AV := .int .u32 w
def u64V (w : Nat) : AV := .int .u64 w
def magV (n : Nat) : AV := .lst (some false) 1 ((wds n).map u32V)
def Mag (v : AV) (n : Nat) : Prop := LstOf v 1 ((wds n).map u32V)
theorem magV_is (n : Nat) : Mag (magV n) n := ⟨_, _, rfl, .inl rfl⟩
theorem Mag.nil (k : Nat) : Mag (.lst (some true) k []) 0 := ⟨_, _, rfl, .inr rfl⟩
theorem wd_get {n i : Nat} (h : i < (wds n).length) : ((wds n).map u32V)[i]? = some (u32V (wds n)[i]) := by rw [List.getElem?_map, List.getElem?_eq_getElem h]; rfl

theorem sl_take {b m n : Nat} (h : n ≤ m) : aSlice (some 1) (.sl (some false) b 1 0 m) none (some (.int .i64 (n : Int))) = some (.sl (some false) b 1 0 n) := by
  have e : aBounds m none (some (.int .i64 (n : Int))) = some (0, n) := by
    simp only [aBounds, aHi, aLo]
    rw [if_pos ⟨by omega, by omega⟩]
    simp
  simp only [aSlice, if_true, e, Option.map_some, Nat.zero_add, Nat.sub_zero]
  rfl
theorem frz_mag {H0 H : Heap} {b n : Nat} {ws : List Nat} (hbl : H0.length ≤ b) (hb : H[b]? = some (.row 1 (ws.map u32V))) (hw : Small ws) (hn : wval ws = n) :
    frzV H0.length (.sl (some false) b 1 0 (wds n).length) H = some (magV n, H.set b (.frz 1 (ws.map u32V))) := by
  subst hn
  have h := wds_take hw
  simp only [frzV, hb]
  rw [if_neg (by omega), if_pos ⟨trivial, by rw [List.length_map]; omega⟩]
  simp only [List.drop_zero, ← List.map_take, h.2]
  rfl
theorem shr32 (s : Nat) : shiftBin .shr .u64 (s : Int) 32 = some (.int .u64 ((s / 4294967296 : Nat) : Int)) := by
  simp only [shiftBin]
  rw [if_neg (by omega)]
  have : (2 : Int) ^ Nat.min (32 : Int).toNat IntKind.u64.bits = 4294967296 := by rfl
  rw [this, Int.fdiv_eq_ediv_of_nonneg _ (by omega)]
  rfl
theorem shr63 (s : Nat) : shiftBin .shr .u64 (s : Int) 63 = some (.int .u64 ((s / 9223372036854775808 : Nat) : Int)) := by
  simp only [shiftBin]
  rw [if_neg (by omega)]
  have : (2 : Int) ^ Nat.min (63 : Int).toNat IntKind.u64.bits = 9223372036854775808 := by rfl
  rw [this, Int.fdiv_eq_ediv_of_nonneg _ (by omega)]
  rfl
theorem sWu32 {x : Int} {K : Int → Prop} (r : Nat) (h : x % 4294967296 = r) (k : K (r : Int)) : valP (IntKind.wrap .u32 x) K := sVal (by rw [IntKind.wrap_u32]; omega) k
theorem sWu64 {x : Int} {K : Int → Prop} (r : Nat) (h : x % 18446744073709551616 = r) (k : K (r : Int)) : valP (IntKind.wrap .u64 x) K := sVal (by rw [IntKind.wrap_u64]; omega) k
theorem set_pad (ds : List Nat) (m d : Nat) : ((ds ++ List.replicate (m + 1) 0).map u32V).set ds.length (u32V d) = ((ds ++ [d]) ++ List.replicate m 0).map u32V := by
  rw [List.replicate_succ, ← List.map_set, List.set_append_right _ _ (Nat.le_refl _), Nat.sub_self]
  simp
theorem pad_get (ds : List Nat) (m : Nat) : ((ds ++ List.replicate (m + 1) 0).map u32V)[ds.length]? = some (u32V 0) := by
  rw [List.getElem?_map, List.getElem?_append_right (Nat.le_refl _), Nat.sub_self, List.replicate_succ]; rfl
theorem Small.snoc {ds : List Nat} {d : Nat} (h : Small ds) (hd : d < 4294967296) : Small (ds ++ [d]) := by
  intro w hw
  rcases List.mem_append.1 hw with hw | hw
  · exact h w hw
  · rw [List.mem_singleton.1 hw]; exact hd

section
variable {C : CSpec} {GT : Nat → Option AV}

theorem trim_ev (b m : Nat) (ws : List Nat) (H : Heap) (hm : ws.length = m) (hb : H[b]? = some (.row 1 (ws.map u32V))) (hw : Small ws) (hl : m ≤ 1000000) :
    EFun C GT a_sccsettlebig_trim [.sl (some false) b 1 0 m] H (.sl (some false) b 1 0 (wds (wval ws)).length) H := by
  have hbl : b < H.length := (List.getElem?_eq_some_iff.1 hb).1
  subst hm
  have fin : ∀ n : Nat, n ≤ ws.length → (wds (wval ws)).length = n → (.sl (some false) b 1 0 (wds (wval ws)).length : AV) = .sl (some false) b 1 0 n := fun n _ h => by rw [h]
  refine efun_of ?_
  refine sLenSl ?_
  refine sLoop (fun n : Nat => [(3, natV n), (0, .sl (some false) b 1 0 ws.length)]) (fun n H' => H' = H ∧ n ≤ ws.length ∧ wval (ws.take n) = wval ws) (fun n => n) ws.length rfl ⟨rfl, Nat.le_refl _, by rw [List.take_length]⟩ (fun n H1 ⟨e, hn, hv⟩ => ?_)
  subst e
  dsimp only
  have hsm : Small (ws.take n) := fun w h => hw w (List.mem_of_mem_take h)
  refine sCond (fun h => ?_) (fun h => ?_)
  · have h : 0 < n := by have := of_decide_eq_true h; omega
    have hi : n - 1 < ws.length := by omega
    have hx : (ws.map u32V)[n - 1]? = some (u32V ws[n - 1]) := by rw [List.getElem?_map, List.getElem?_eq_getElem hi]; rfl
    have ht : ws.take n = ws.take (n - 1) ++ [ws[n - 1]] := by
      have := List.take_succ_eq_append_getElem hi
      rwa [Nat.sub_add_cancel h] at this
    refine sW64n (r := n - 1) (by omega) (by omega) ?_
    refine sAt ⟨by omega, by omega⟩ ?_
    refine sLoadRow (n - 1) (u32V ws[n - 1]) (u32V ws[n - 1]) (by omega) hb hx rfl ?_
    refine sCondT ?_
    refine sCond (fun h0 => ?_) (fun h0 => ?_)
    · have h0 : ws[n - 1] = 0 := by have := eq_of_beq h0; omega
      refine sW64n (r := n - 1) (by omega) (by omega) ?_
      refine sNext (n - 1) rfl ⟨rfl, by omega, ?_⟩ (by omega)
      rw [← hv, ht, wval_snoc, h0]; simp
    · have h0 : ws[n - 1] ≠ 0 := fun e => by rw [e] at h0; exact absurd h0 (by simp)
      have hd : wds (wval ws) = ws.take n := by
        rw [← hv]
        refine wds_val hsm fun w hw => ?_
        rw [ht, List.getLast?_concat] at hw
        cases hw
        exact h0
      have e := fin n hn (by rw [hd, List.length_take]; omega)
      refine sOpt (sl_take hn) ?_
      exact sRetE e rfl rfl (by simp only [frzV]; rw [if_pos hbl]) (by simp only [AV.bel]; exact decide_eq_true hbl) (Old.refl _)
  · have h : n = 0 := by have := of_decide_eq_false h; omega
    subst h
    have e := fin 0 hn (by rw [← hv]; rfl)
    refine sCondF ?_
    refine sCondF ?_
    refine sOpt (sl_take hn) ?_
    exact sRetE e rfl rfl (by simp only [frzV]; rw [if_pos hbl]) (by simp only [AV.bel]; exact decide_eq_true hbl) (Old.refl _)

theorem words_ev (hT : ∀ b m ws H, ws.length = m → H[b]? = some (.row 1 (ws.map u32V)) → Small ws → m ≤ 1000000 → C f_sccsettlebig_trim [.sl (some false) b 1 0 m] H (.sl (some false) b 1 0 (wds (wval ws)).length) H)
    (x : Nat) (hx : x < 18446744073709551616) (H : Heap) : EFun C GT a_sccsettlebig_words [u64V x] H (magV x) H := by
  have hb : (H ++ [ABlk.row 1 [u32V (x % 4294967296), u32V (x / 4294967296)]])[H.length]? = some (.row 1 (([x % 4294967296, x / 4294967296] : List Nat).map u32V)) := push_last
  have hw : Small [x % 4294967296, x / 4294967296] := by
    intro w hw
    simp at hw
    omega
  have hv : wval [x % 4294967296, x / 4294967296] = x := by simp only [wval]; omega
  have ht := hT H.length 2 [x % 4294967296, x / 4294967296] _ rfl hb hw (by omega)
  rw [hv] at ht
  refine efun_of ?_
  refine sWu32 (x % 4294967296) (by omega) ?_
  refine sOpt (shr32 x) ?_
  refine sWu32 (x / 4294967296) (by omega) ?_
  refine sBslice (vs' := [u32V (x % 4294967296), u32V (x / 4294967296)]) rfl rfl ?_
  refine sCall0 (ht) ?_
  exact sRetF rfl rfl (frz_mag (Nat.le_refl _) hb hw hv) rfl (((Old.refl H).push _).set (Nat.le_refl _) _)

structure SAd where
  i : Nat
  c : Nat
  ds : List Nat

/-- The sum, the longer one first. -/
theorem add_tail (hT : ∀ b m ws H, ws.length = m → H[b]? = some (.row 1 (ws.map u32V)) → Small ws → m ≤ 1000000 → C f_sccsettlebig_trim [.sl (some false) b 1 0 m] H (.sl (some false) b 1 0 (wds (wval ws)).length) H)
    (av bv : AV) (x y n : Nat) (H : Heap) (ha : Mag av x) (hb : Mag bv y) (hn : (wds x).length = n) (hle : (wds y).length ≤ n) (hl : n ≤ 100000) :
    EW C GT (b_sccsettlebig_add.behind 2) (finF a_sccsettlebig_add H (magV (x + y)) H) [(1, bv), (0, av)] H := by
  have hal : ((wds x).map u32V).length = n := by rw [List.length_map, hn]
  refine sLenO n ha hal ?_
  refine sW64n (r := n + 1) rfl (by omega) ?_
  refine sMake (n := n + 1) rfl (Int.le_refl _) ⟨by omega, by omega⟩ rfl ?_
  refine sLoop (fun s : SAd => [(7, natV s.i), (5, .sl (some false) H.length 1 0 (n + 1)), (1, bv), (0, av), (6, u64V s.c)])
    (fun s H' => Old H H' ∧ s.ds.length = s.i ∧ s.i ≤ n ∧ Small s.ds ∧ s.c ≤ 1 ∧ H'[H.length]? = some (.row 1 ((s.ds ++ List.replicate (n + 1 - s.i) 0).map u32V)) ∧ wval s.ds + 4294967296 ^ s.i * s.c = wval ((wds x).take s.i) + wval ((wds y).take s.i)) (fun s => n - s.i) ⟨0, 0, []⟩ rfl
    ⟨(Old.refl _).push _, rfl, Nat.zero_le _, (fun w hw => by cases hw), Nat.zero_le _, by rw [List.nil_append, Nat.sub_zero, List.map_replicate]; exact push_last, rfl⟩ (fun ⟨i, c, ds⟩ H1 ⟨hO, hd, hi, hsm, hc, hrow, hval⟩ => ?_)
  simp only at hd hi hsm hc hrow hval
  dsimp only
  refine sLenO n ha hal ?_
  refine sCond (fun h => ?_) (fun h => ?_)
  · have h : i < n := by have := of_decide_eq_true h; omega
    have hx : i < (wds x).length := by omega
    have hax := wd_get hx
    have htx := wval_take_succ hx
    have hsx := wds_small x _ (List.getElem_mem hx)
    obtain ⟨a, had⟩ : ∃ a, (wds x)[i] = a := ⟨_, rfl⟩
    rw [had] at hax htx hsx
    have hm : n + 1 - i = (n - i) + 1 := by omega
    rw [hm] at hrow
    have hget := pad_get ds (n - i)
    have hset := fun d => set_pad ds (n - i) d
    rw [hd] at hget hset
    have hlen : ds.length = i := hd
    refine sIdxO i (u32V a) ha rfl hax ?_
    refine sLoadL (u32V a) rfl ?_
    refine sWu64n (r := a) rfl (by omega) ?_
    refine sWu64n (r := c + a) (by omega) (by omega) ?_
    refine sLenO (wds y).length hb (by simp) ?_
    refine sCond (fun h2 => ?_) (fun h2 => ?_)
    · have h2 : i < (wds y).length := by have := of_decide_eq_true h2; omega
      have hby := wd_get h2
      have hty := wval_take_succ h2
      have hsy := wds_small y _ (List.getElem_mem h2)
      obtain ⟨d, hdd⟩ : ∃ d, (wds y)[i] = d := ⟨_, rfl⟩
      rw [hdd] at hby hty hsy
      refine sIdxO i (u32V d) hb rfl hby ?_
      refine sLoadL (u32V d) rfl ?_
      refine sWu64n (r := d) rfl (by omega) ?_
      refine sWu64n (r := c + a + d) (by omega) (by omega) ?_
      refine sWu32 ((c + a + d) % 4294967296) (by omega) ?_
      refine sAt ⟨by omega, by omega⟩ ?_
      refine sStore i (u32V ((c + a + d) % 4294967296)) (by omega) hrow hget rfl (by decide) rfl (fun cs h => by cases h) ?_
      refine sOpt (shr32 (c + a + d)) ?_
      refine sW64n (r := i + 1) rfl (by omega) ?_
      refine sNext (SAd.mk (i + 1) ((c + a + d) / 4294967296) (ds ++ [(c + a + d) % 4294967296])) rfl ⟨hO.set (Nat.le_refl _) _, by simp [hlen], by simp only; omega, hsm.snoc (by omega), by simp only; omega, ?_, ?_⟩ (by simp only; omega)
      · rw [hset]
        have : n + 1 - (i + 1) = n - i := by omega
        simp only [this]
        exact set_at hrow
      · simp only [wval_snoc, hlen, htx, hty, Nat.pow_succ]
        have e : (c + a + d) % 4294967296 + 4294967296 * ((c + a + d) / 4294967296) = c + a + d := by omega
        have e2 : 4294967296 ^ i * ((c + a + d) % 4294967296) + 4294967296 ^ i * 4294967296 * ((c + a + d) / 4294967296) = 4294967296 ^ i * c + 4294967296 ^ i * a + 4294967296 ^ i * d := by
          rw [Nat.mul_assoc, ← Nat.mul_add, e, Nat.mul_add, Nat.mul_add]
        omega
    · have h2 : (wds y).length ≤ i := by have := of_decide_eq_false h2; omega
      have hty : wval ((wds y).take (i + 1)) = wval ((wds y).take i) := by rw [List.take_of_length_le (by omega), List.take_of_length_le h2]
      refine sWu32 ((c + a) % 4294967296) (by omega) ?_
      refine sAt ⟨by omega, by omega⟩ ?_
      refine sStore i (u32V ((c + a) % 4294967296)) (by omega) hrow hget rfl (by decide) rfl (fun cs h => by cases h) ?_
      refine sOpt (shr32 (c + a)) ?_
      refine sW64n (r := i + 1) rfl (by omega) ?_
      refine sNext (SAd.mk (i + 1) ((c + a) / 4294967296) (ds ++ [(c + a) % 4294967296])) rfl ⟨hO.set (Nat.le_refl _) _, by simp [hlen], by simp only; omega, hsm.snoc (by omega), by simp only; omega, ?_, ?_⟩ (by simp only; omega)
      · rw [hset]
        have : n + 1 - (i + 1) = n - i := by omega
        simp only [this]
        exact set_at hrow
      · simp only [wval_snoc, hlen, htx, hty, Nat.pow_succ]
        have e : (c + a) % 4294967296 + 4294967296 * ((c + a) / 4294967296) = c + a := by omega
        have e2 : 4294967296 ^ i * ((c + a) % 4294967296) + 4294967296 ^ i * 4294967296 * ((c + a) / 4294967296) = 4294967296 ^ i * c + 4294967296 ^ i * a := by
          rw [Nat.mul_assoc, ← Nat.mul_add, e, Nat.mul_add]
        omega
  · have h : i = n := by have := of_decide_eq_false h; omega
    subst h
    have hm : i + 1 - i = 0 + 1 := by omega
    rw [hm] at hrow
    have hget := pad_get ds 0
    have hset := fun d => set_pad ds 0 d
    rw [hd] at hget hset
    rw [List.take_of_length_le (by omega), List.take_of_length_le (by omega), wval_wds, wval_wds, ← hd, ← wval_snoc] at hval
    have hsm2 : Small (ds ++ [c]) := hsm.snoc (by omega)
    have hr2 : (H1.set H.length (.row 1 ((ds ++ [c]).map u32V)))[H.length]? = some (.row 1 ((ds ++ [c]).map u32V)) := set_at hrow
    have hset2 : ((ds ++ List.replicate (0 + 1) 0).map u32V).set i (u32V c) = (ds ++ [c]).map u32V := by rw [hset]; simp
    have ht := hT H.length (i + 1) (ds ++ [c]) _ (by simp [hd]) hr2 hsm2 (by omega)
    rw [hval] at ht
    rw [← hset2] at ht hr2
    refine sLenO i ha hal ?_
    refine sWu32 c (by omega) ?_
    refine sAt ⟨by omega, by omega⟩ ?_
    refine sStore i (u32V c) (by omega) hrow hget rfl (by decide) rfl (fun cs h => by cases h) ?_
    refine sCall0 ht ?_
    rw [hset2] at hr2
    exact sRetF rfl rfl (frz_mag (Nat.le_refl _) (by rw [hset2]; exact hr2) hsm2 hval) rfl ((hO.set (Nat.le_refl _) _).set (Nat.le_refl _) _)

theorem add_ev (hT : ∀ b m ws H, ws.length = m → H[b]? = some (.row 1 (ws.map u32V)) → Small ws → m ≤ 1000000 → C f_sccsettlebig_trim [.sl (some false) b 1 0 m] H (.sl (some false) b 1 0 (wds (wval ws)).length) H)
    (av bv : AV) (x y : Nat) (H : Heap) (ha : Mag av x) (hb : Mag bv y) (h1 : (wds x).length ≤ 100000) (h2 : (wds y).length ≤ 100000) : EFun C GT a_sccsettlebig_add [av, bv] H (magV (x + y)) H := by
  refine efun_of ?_
  refine sLenO (wds x).length ha (by simp) ?_
  refine sLenO (wds y).length hb (by simp) ?_
  refine sCond (fun h => ?_) (fun h => ?_)
  · have h : (wds x).length < (wds y).length := by have := of_decide_eq_true h; omega
    rw [Nat.add_comm x y]
    refine sTail rfl (add_tail hT bv av y x _ H hb ha rfl (by omega) h2) ?_
    rfl
  · have h : (wds y).length ≤ (wds x).length := by have := of_decide_eq_false h; omega
    refine sTail rfl (add_tail hT av bv x y _ H ha hb rfl h h1) ?_
    rfl

theorem sub_ev (hT : ∀ b m ws H, ws.length = m → H[b]? = some (.row 1 (ws.map u32V)) → Small ws → m ≤ 1000000 → C f_sccsettlebig_trim [.sl (some false) b 1 0 m] H (.sl (some false) b 1 0 (wds (wval ws)).length) H)
    (av bv : AV) (x y n : Nat) (H : Heap) (ha : Mag av x) (hb : Mag bv y) (hyx : y ≤ x) (hn : (wds x).length = n) (hl : n ≤ 100000) : EFun C GT a_sccsettlebig_sub [av, bv] H (magV (x - y)) H := by
  have hal : ((wds x).map u32V).length = n := by rw [List.length_map, hn]
  have hle : (wds y).length ≤ n := by rw [← hn]; exact wds_len_mono hyx
  refine efun_of ?_
  refine sLenO n ha hal ?_
  refine sMake (n := n) rfl (Int.le_refl _) ⟨by omega, by omega⟩ rfl ?_
  refine sLoop (fun s : SAd => [(7, natV s.i), (5, .sl (some false) H.length 1 0 n), (1, bv), (6, u64V s.c), (0, av)])
    (fun s H' => Old H H' ∧ s.ds.length = s.i ∧ s.i ≤ n ∧ Small s.ds ∧ s.c ≤ 1 ∧ H'[H.length]? = some (.row 1 ((s.ds ++ List.replicate (n - s.i) 0).map u32V)) ∧ wval s.ds + wval ((wds y).take s.i) = wval ((wds x).take s.i) + 4294967296 ^ s.i * s.c) (fun s => n - s.i) ⟨0, 0, []⟩ rfl
    ⟨(Old.refl _).push _, rfl, Nat.zero_le _, (fun w hw => by cases hw), Nat.zero_le _, by rw [List.nil_append, Nat.sub_zero, List.map_replicate]; exact push_last, rfl⟩ (fun ⟨i, c, ds⟩ H1 ⟨hO, hd, hi, hsm, hc, hrow, hval⟩ => ?_)
  simp only at hd hi hsm hc hrow hval
  dsimp only
  refine sLenO n ha hal ?_
  refine sCond (fun h => ?_) (fun h => ?_)
  · have h : i < n := by have := of_decide_eq_true h; omega
    have hx : i < (wds x).length := by omega
    have hax := wd_get hx
    have htx := wval_take_succ hx
    have hsx := wds_small x _ (List.getElem_mem hx)
    obtain ⟨a, had⟩ : ∃ a, (wds x)[i] = a := ⟨_, rfl⟩
    rw [had] at hax htx hsx
    obtain ⟨m, hm⟩ : ∃ m, n - i = m + 1 := ⟨n - i - 1, by omega⟩
    rw [hm] at hrow
    have hget := pad_get ds m
    have hset := fun d => set_pad ds m d
    rw [hd] at hget hset
    have hlen : ds.length = i := hd
    refine sIdxO i (u32V a) ha rfl hax ?_
    refine sLoadL (u32V a) rfl ?_
    refine sWu64n (r := a) rfl (by omega) ?_
    refine sWu64 ((((a : Int) - c) % 18446744073709551616).toNat) (by omega) ?_
    refine sLenO (wds y).length hb (by simp) ?_
    have next : ∀ (e d c' : Nat), (e : Int) = (a : Int) - c' - c ∨ True → True := fun _ _ _ _ => trivial
    refine sCond (fun h2 => ?_) (fun h2 => ?_)
    · have h2 : i < (wds y).length := by have := of_decide_eq_true h2; omega
      have hby := wd_get h2
      have hty := wval_take_succ h2
      have hsy := wds_small y _ (List.getElem_mem h2)
      obtain ⟨d, hdd⟩ : ∃ d, (wds y)[i] = d := ⟨_, rfl⟩
      rw [hdd] at hby hty hsy
      obtain ⟨D, hD⟩ : ∃ D : Nat, (((a : Int) - c - d) % 18446744073709551616) = D := ⟨(((a : Int) - c - d) % 18446744073709551616).toNat, by omega⟩
      refine sIdxO i (u32V d) hb rfl hby ?_
      refine sLoadL (u32V d) rfl ?_
      refine sWu64n (r := d) rfl (by omega) ?_
      refine sWu64 D (by omega) ?_
      refine sWu32 (D % 4294967296) (by omega) ?_
      refine sAt ⟨by omega, by omega⟩ ?_
      refine sStore i (u32V (D % 4294967296)) (by omega) hrow hget rfl (by decide) rfl (fun cs h => by cases h) ?_
      refine sOpt (shr63 D) ?_
      refine sW64n (r := i + 1) rfl (by omega) ?_
      refine sNext (SAd.mk (i + 1) (D / 9223372036854775808) (ds ++ [D % 4294967296])) rfl ⟨hO.set (Nat.le_refl _) _, by simp [hlen], by simp only; omega, hsm.snoc (by omega), by simp only; omega, ?_, ?_⟩ (by simp only; omega)
      · rw [hset]
        have : n - (i + 1) = m := by omega
        simp only [this]
        exact set_at hrow
      · simp only [wval_snoc, hlen, htx, hty, Nat.pow_succ]
        have e : D % 4294967296 + c + d = a + 4294967296 * (D / 9223372036854775808) := by omega
        have e2 : 4294967296 ^ i * (D % 4294967296) + 4294967296 ^ i * c + 4294967296 ^ i * d = 4294967296 ^ i * a + 4294967296 ^ i * 4294967296 * (D / 9223372036854775808) := by
          rw [Nat.mul_assoc, ← Nat.mul_add, ← Nat.mul_add, e, Nat.mul_add]
        omega
    · have h2 : (wds y).length ≤ i := by have := of_decide_eq_false h2; omega
      have hty : wval ((wds y).take (i + 1)) = wval ((wds y).take i) := by rw [List.take_of_length_le (by omega), List.take_of_length_le h2]
      obtain ⟨D, hD⟩ : ∃ D : Nat, (((a : Int) - c) % 18446744073709551616).toNat = D := ⟨_, rfl⟩
      rw [hD]
      refine sWu32 (D % 4294967296) (by omega) ?_
      refine sAt ⟨by omega, by omega⟩ ?_
      refine sStore i (u32V (D % 4294967296)) (by omega) hrow hget rfl (by decide) rfl (fun cs h => by cases h) ?_
      refine sOpt (shr63 D) ?_
      refine sW64n (r := i + 1) rfl (by omega) ?_
      refine sNext (SAd.mk (i + 1) (D / 9223372036854775808) (ds ++ [D % 4294967296])) rfl ⟨hO.set (Nat.le_refl _) _, by simp [hlen], by simp only; omega, hsm.snoc (by omega), by simp only; omega, ?_, ?_⟩ (by simp only; omega)
      · rw [hset]
        have : n - (i + 1) = m := by omega
        simp only [this]
        exact set_at hrow
      · simp only [wval_snoc, hlen, htx, hty, Nat.pow_succ]
        have e : D % 4294967296 + c = a + 4294967296 * (D / 9223372036854775808) := by omega
        have e2 : 4294967296 ^ i * (D % 4294967296) + 4294967296 ^ i * c = 4294967296 ^ i * a + 4294967296 ^ i * 4294967296 * (D / 9223372036854775808) := by
          rw [Nat.mul_assoc, ← Nat.mul_add, ← Nat.mul_add, e]
        omega
  · have h : i = n := by have := of_decide_eq_false h; omega
    subst h
    rw [Nat.sub_self, List.replicate_zero, List.append_nil] at hrow
    rw [List.take_of_length_le (by omega), List.take_of_length_le (by omega), wval_wds, wval_wds] at hval
    have hv : wval ds = x - y := by
      have h1 := wval_lt hsm
      rw [hd] at h1
      have hc0 : c = 0 := by
        rcases Nat.eq_zero_or_pos c with h | h
        · exact h
        · have hc1 : c = 1 := by omega
          rw [hc1, Nat.mul_one] at hval
          omega
      rw [hc0] at hval
      omega
    have ht := hT H.length i ds _ hd hrow hsm (by omega)
    rw [hv] at ht
    refine sCall0 ht ?_
    exact sRetF rfl rfl (frz_mag (Nat.le_refl _) hrow hsm hv) rfl (hO.set (Nat.le_refl _) _)

def cmpN (x y : Nat) : Int := if x < y then -1 else if x = y then 0 else 1
theorem cmpN_lt {x y : Nat} (h : x < y) : cmpN x y = -1 := if_pos h
theorem cmpN_eq (x : Nat) : cmpN x x = 0 := by unfold cmpN; rw [if_neg (by omega), if_pos rfl]
theorem cmpN_gt {x y : Nat} (h : y < x) : cmpN x y = 1 := by unfold cmpN; rw [if_neg (by omega), if_neg (by omega)]

theorem bcmp_ev (av bv : AV) (x y : Nat) (H : Heap) (ha : Mag av x) (hb : Mag bv y) (h1 : (wds x).length ≤ 100000) (h2 : (wds y).length ≤ 100000) : EFun C GT a_sccsettlebig_cmp [av, bv] H (intV (cmpN x y)) H := by
  refine efun_of ?_
  refine sLenO (wds x).length ha (by simp) ?_
  refine sLenO (wds y).length hb (by simp) ?_
  refine sCond (fun h => ?_) (fun h => ?_)
  · have h : (wds x).length ≠ (wds y).length := by simp only [bne_iff_ne, ne_eq] at h; omega
    refine sLenO (wds x).length ha (by simp) ?_
    refine sLenO (wds y).length hb (by simp) ?_
    refine sCond (fun h2 => ?_) (fun h2 => ?_)
    · have h2 : (wds x).length < (wds y).length := by have := of_decide_eq_true h2; omega
      rw [cmpN_lt (wds_len_lt h2)]
      exact sRetV rfl rfl rfl rfl (Old.refl _)
    · have h2 : (wds y).length < (wds x).length := by have := of_decide_eq_false h2; omega
      rw [cmpN_gt (wds_len_lt h2)]
      exact sRetV rfl rfl rfl rfl (Old.refl _)
  have h : (wds x).length = (wds y).length := by simp only [bne_eq_false_iff_eq] at h; omega
  have key : ∀ (e : Int), cmpN x y = e → True := fun _ _ => trivial
  refine sLenO (wds x).length ha (by simp) ?_
  refine sW64 ⟨by omega, by omega⟩ ?_
  refine sLoop (fun k : Nat => [(5, intV ((k : Int) - 1)), (1, bv), (0, av)]) (fun k H' => H' = H ∧ k ≤ (wds x).length ∧ (wds x).drop k = (wds y).drop k) (fun k => k) (wds x).length rfl
    ⟨rfl, Nat.le_refl _, by rw [List.drop_length, h, List.drop_length]⟩ (fun k H1 ⟨e, hk, hd⟩ => ?_)
  subst e
  dsimp only
  refine sCond (fun h3 => ?_) (fun h3 => ?_)
  · have h3 : 1 ≤ k := by have := of_decide_eq_true h3; omega
    obtain ⟨i, rfl⟩ : ∃ i, k = i + 1 := ⟨k - 1, by omega⟩
    have hx : i < (wds x).length := by omega
    have hy : i < (wds y).length := by omega
    have hax := wd_get hx
    have hby := wd_get hy
    have hsx := wds_small x _ (List.getElem_mem hx)
    have hsy := wds_small y _ (List.getElem_mem hy)
    have top1 := fun hlt => cmp_top (wds_small x) (wds_small y) h hx hd hlt
    have top2 := fun hlt => cmp_top (wds_small y) (wds_small x) h.symm hy hd.symm hlt
    rw [wval_wds, wval_wds] at top1 top2
    have hdx : (wds x).drop i = (wds x)[i] :: (wds x).drop (i + 1) := (List.getElem_cons_drop hx).symm
    have hdy : (wds y).drop i = (wds y)[i] :: (wds y).drop (i + 1) := (List.getElem_cons_drop hy).symm
    generalize (wds x)[i] = a at *
    generalize (wds y)[i] = d at *
    refine sIdxO i (u32V a) ha (by omega) hax ?_
    refine sLoadL (u32V a) rfl ?_
    refine sIdxO i (u32V d) hb (by omega) hby ?_
    refine sLoadL (u32V d) rfl ?_
    refine sCond (fun h4 => ?_) (fun h4 => ?_)
    · have h4 : a ≠ d := by simp only [bne_iff_ne, ne_eq] at h4; omega
      refine sIdxO i (u32V a) ha (by omega) hax ?_
      refine sLoadL (u32V a) rfl ?_
      refine sIdxO i (u32V d) hb (by omega) hby ?_
      refine sLoadL (u32V d) rfl ?_
      refine sCond (fun h5 => ?_) (fun h5 => ?_)
      · have h5 : a < d := by have := of_decide_eq_true h5; omega
        rw [cmpN_lt (top1 h5)]
        exact sRetV rfl rfl rfl rfl (Old.refl _)
      · have h5 : d < a := by have := of_decide_eq_false h5; omega
        rw [cmpN_gt (top2 h5)]
        exact sRetV rfl rfl rfl rfl (Old.refl _)
    · have h4 : a = d := by simp only [bne_eq_false_iff_eq] at h4; omega
      refine sW64 ⟨by omega, by omega⟩ ?_
      refine sNext i ?_ ⟨rfl, by omega, by rw [hdx, hdy, h4, hd]⟩ (by omega)
      have : ((i + 1 : Nat) : Int) - 1 - 1 = (i : Int) - 1 := by omega
      simp only [← this]
      rfl
  · have h3 : k = 0 := by have := of_decide_eq_false h3; omega
    subst h3
    have e : x = y := by
      rw [← wval_wds x, ← wval_wds y]
      simp only [List.drop_zero] at hd
      rw [hd]
    rw [e, cmpN_eq]
    exact sRetV rfl rfl rfl rfl (Old.refl _)

/-- The sum of signed numbers. -/
def sumS (xn : Bool) (x : Nat) (yn : Bool) (y : Nat) : Bool × Nat := if xn = yn then (xn, x + y) else if y ≤ x then (xn, x - y) else (yn, y - x)

theorem bsum_ev (hA : ∀ av bv x y H, Mag av x → Mag bv y → (wds x).length ≤ 100000 → (wds y).length ≤ 100000 → C f_sccsettlebig_add [av, bv] H (magV (x + y)) H)
    (hS : ∀ av bv x y H, Mag av x → Mag bv y → y ≤ x → (wds x).length ≤ 100000 → C f_sccsettlebig_sub [av, bv] H (magV (x - y)) H)
    (hC : ∀ av bv x y H, Mag av x → Mag bv y → (wds x).length ≤ 100000 → (wds y).length ≤ 100000 → C f_sccsettlebig_cmp [av, bv] H (intV (cmpN x y)) H)
    (av bv : AV) (xn yn : Bool) (x y : Nat) (H : Heap) (ha : Mag av x) (hb : Mag bv y) (h1 : (wds x).length ≤ 100000) (h2 : (wds y).length ≤ 100000) :
    EFun C GT a_sccsettlebig_sum [.bool xn, av, .bool yn, bv] H (.tup [.bool (sumS xn x yn y).1, magV (sumS xn x yn y).2]) H := by
  obtain ⟨r, hr⟩ : ∃ r, sumS xn x yn y = r := ⟨_, rfl⟩
  rw [hr]
  unfold sumS at hr
  have c1 := hA av bv x y H ha hb h1 h2
  have c2 := hC av bv x y H ha hb h1 h2
  refine efun_of ?_
  by_cases he : xn = yn
  · rw [if_pos he] at hr
    subst hr
    subst he
    cases xn
    · refine sCondT ?_
      refine sCall0 (c1) ?_
      exact sRetV rfl rfl rfl rfl (Old.refl _)
    · refine sCondT ?_
      refine sCall0 (c1) ?_
      exact sRetV rfl rfl rfl rfl (Old.refl _)
  rw [if_neg he] at hr
  by_cases hle : y ≤ x
  · rw [if_pos hle] at hr
    subst hr
    have c3 := hS av bv x y H ha hb hle h1
    have hg : decide (cmpN x y ≥ 0) = true := by unfold cmpN; rw [if_neg (by omega)]; split <;> rfl
    cases xn <;> cases yn <;> first | exact absurd rfl he | skip
    · refine sCondF ?_
      refine sCall0 (c2) ?_
      refine sCond (fun _ => ?_) (fun h => absurd (hg.symm.trans h) (by simp))
      refine sCall0 (c3) ?_
      exact sRetV rfl rfl rfl rfl (Old.refl _)
    · refine sCondF ?_
      refine sCall0 (c2) ?_
      refine sCond (fun _ => ?_) (fun h => absurd (hg.symm.trans h) (by simp))
      refine sCall0 (c3) ?_
      exact sRetV rfl rfl rfl rfl (Old.refl _)
  · rw [if_neg hle] at hr
    subst hr
    have c3 := hS bv av y x H hb ha (by omega) h2
    have hg : decide (cmpN x y ≥ 0) = false := by unfold cmpN; rw [if_pos (by omega)]; rfl
    cases xn <;> cases yn <;> first | exact absurd rfl he | skip
    · refine sCondF ?_
      refine sCall0 (c2) ?_
      refine sCond (fun h => absurd (hg.symm.trans h) (by simp)) (fun _ => ?_)
      refine sCall0 (c3) ?_
      exact sRetV rfl rfl rfl rfl (Old.refl _)
    · refine sCondF ?_
      refine sCall0 (c2) ?_
      refine sCond (fun h => absurd (hg.symm.trans h) (by simp)) (fun _ => ?_)
      refine sCall0 (c3) ?_
      exact sRetV rfl rfl rfl rfl (Old.refl _)
end
end Go.AM

/- The reference's Two at Add for numbers and what is bad; its sums. Own work. -/
set_option linter.all false
set_option maxRecDepth 20000
namespace Go.AM

def In64 (n : Int) : Prop := -9223372036854775808 ≤ n ∧ n ≤ 9223372036854775807
instance (n : Int) : Decidable (In64 n) := by unfold In64; infer_instance
theorem w64_in {n : Int} (h : In64 n) : w64 n = n := IntWalk.i64_in n h
theorem w64_rng (n : Int) : In64 (w64 n) := by unfold w64 In64; rw [IntKind.wrap_i64]; omega
theorem plusV_fits {a b : Int} (ha : In64 a) (hb : In64 b) : plusV a b = if In64 (a + b) then nmV (a + b) else badV 5 := by
  unfold plusV w64
  rw [IntKind.wrap_i64]
  unfold In64 at ha hb
  by_cases h' : In64 (a + b)
  · rw [if_pos h']
    have h : -9223372036854775808 ≤ a + b ∧ a + b ≤ 9223372036854775807 := h'
    have e : (a + b + 9223372036854775808) % 18446744073709551616 - 9223372036854775808 = a + b := by omega
    rw [e, if_pos]
    rw [beq_iff_eq]
    by_cases hb0 : b ≥ 0
    · rw [decide_eq_true hb0, decide_eq_true (by omega : a + b ≥ a)]
    · rw [decide_eq_false hb0, decide_eq_false (by omega : ¬ a + b ≥ a)]
  · have h : ¬ (-9223372036854775808 ≤ a + b ∧ a + b ≤ 9223372036854775807) := h'
    rw [if_neg h', if_neg]
    rw [beq_iff_eq]
    by_cases hb0 : b ≥ 0
    · have e : (a + b + 9223372036854775808) % 18446744073709551616 - 9223372036854775808 = a + b - 18446744073709551616 := by omega
      rw [decide_eq_true hb0, e, decide_eq_false (by omega : ¬ a + b - 18446744073709551616 ≥ a)]; simp
    · have e : (a + b + 9223372036854775808) % 18446744073709551616 - 9223372036854775808 = a + b + 18446744073709551616 := by omega
      rw [decide_eq_false hb0, e, decide_eq_true (by omega : a + b + 18446744073709551616 ≥ a)]; simp
theorem plusV_rng (a b : Int) : In64 (plusV a b).num := by
  unfold plusV
  split
  · exact w64_rng _
  · unfold In64; exact ⟨by decide, by decide⟩
theorem addV_rng {a b : Val} (ha : In64 a.num) (hb : In64 b.num) : In64 (addV a b).num := by
  unfold addV
  split
  · exact ha
  · split
    · exact hb
    · exact plusV_rng _ _
theorem sumN_rng : ∀ ns : List Int, (∀ n ∈ ns, In64 n) → In64 (sumN ns).num := by
  unfold sumN
  suffices H : ∀ (ns : List Int) (s : Val), In64 s.num → (∀ n ∈ ns, In64 n) → In64 (ns.foldl (fun s n => addV s (nmV n)) s).num from fun ns h => H ns _ ⟨by decide, by decide⟩ h
  intro ns
  induction ns with
  | nil => intro s h _; exact h
  | cons n ns ih => intro s h hn; exact ih _ (addV_rng h (hn n (by simp))) fun m hm => hn m (List.mem_cons_of_mem _ hm)

section
variable {C : CSpec} {GT : Nat → Option AV}

theorem number3_ev (v : Val) (hk : NumK v) (H : Heap) : EFun C GT a_sccref1_Number [valV v] H (valV v) H := by
  refine efun_of ?_
  refine sBox (x := valV v) rfl ?_
  refine sLoadBox (AV.int IntKind.i64 v.kind) (push_old push_last) rfl ?_
  by_cases h1 : (v.kind == 1) = true
  · refine sCond (fun _ => ?_) (fun h => absurd h1 (by rw [h]; simp))
    refine sCondT ?_
    refine sLoadBox (valV v) (push_old push_last) rfl ?_
    refine sStoreE (v := valV v) (AV.cells (valV v)) push_last rfl rfl rfl rfl ?_
    exact sRetCell (o := 0) rfl rfl (ptr_box (set_at push_last)) rfl rfl rfl ((((Old.refl _).push _).push _).set (by first | assumption | exact Nat.le_refl _ | simp | omega) _)
  · refine sCond (fun h => absurd h h1) (fun _ => ?_)
    have h4 : (v.kind == 4) = true := by rcases hk with h | h <;> simp_all
    refine sCond (fun _ => ?_) (fun h => absurd h4 (by rw [h]; simp))
    refine sLoadBox (valV v) (push_old push_last) rfl ?_
    refine sStoreE (v := valV v) (AV.cells (valV v)) push_last rfl rfl rfl rfl ?_
    exact sRetCell (o := 0) rfl rfl (ptr_box (set_at push_last)) rfl rfl rfl ((((Old.refl _).push _).push _).set (by first | assumption | exact Nat.le_refl _ | simp | omega) _)

theorem two3_add_ev (hN : ∀ v, NumK v → ∀ H, C f_sccref1_Number [valV v] H (valV v) H) (hR : ∀ a b H, In64 a → In64 b → C f_sccref1_Reckon [intV 8, intV a, intV b] H (valV (plusV a b)) H)
    (a b : Val) (ka : NumK a) (kb : NumK b) (ra : In64 a.num) (rb : In64 b.num) (H : Heap) : EFun C GT a_sccref1_Two [intV 8, valV a, valV b] H (valV (addV a b)) H := by
  have e1 : (a.kind == 4) = true → addV a b = a := fun h => if_pos (eq_of_beq h)
  have e2 : (a.kind == 4) = false → (b.kind == 4) = true → addV a b = b := fun h h' => (if_neg (ne_of_beq_false h)).trans (if_pos (eq_of_beq h'))
  have e3 : (a.kind == 4) = false → (b.kind == 4) = false → addV a b = plusV a.num b.num := fun h h' => (if_neg (ne_of_beq_false h)).trans (if_neg (ne_of_beq_false h'))
  have hr := fun H => hR a.num b.num H ra rb
  refine efun_of ?_
  refine sBox (x := valV a) rfl ?_
  refine sBox (x := valV b) rfl ?_
  refine sCondF ?_
  refine sCondF ?_
  refine sCondF ?_
  refine sCondT ?_
  refine sLoadBox (valV a) (push_old (push_old push_last)) rfl ?_
  refine sCall0 (hN a ka _) ?_
  refine sStoreE (v := valV a) (AV.cells (valV a)) (push_old (push_old push_last)) rfl rfl rfl rfl ?_
  refine sLoadBox (valV b) (set_other (by first | assumption | simp | omega) (push_old push_last)) rfl ?_
  refine sCall0 (hN b kb _) ?_
  refine sStoreE (v := valV b) (AV.cells (valV b)) (set_other (by first | assumption | simp | omega) (push_old push_last)) rfl rfl rfl rfl ?_
  refine sLoadBox (AV.int IntKind.i64 a.kind) (set_other (by first | assumption | simp | omega) (set_at (push_old (push_old push_last)))) rfl ?_
  refine sCond (fun h => ?_) (fun h => ?_)
  · rw [e1 h]
    refine sLoadBox (valV a) (set_other (by first | assumption | simp | omega) (set_at (push_old (push_old push_last)))) rfl ?_
    refine sStoreE (v := valV a) (AV.cells (valV a)) (set_other (by first | assumption | simp | omega) (set_other (by first | assumption | simp | omega) push_last)) rfl rfl rfl rfl ?_
    exact sRetCell (o := 0) rfl rfl (ptr_box (set_at (set_other (by first | assumption | simp | omega) (set_other (by first | assumption | simp | omega) push_last)))) rfl rfl rfl (((((((Old.refl _).push _).push _).push _).set (by first | assumption | exact Nat.le_refl _ | simp | omega) _).set (by first | assumption | exact Nat.le_refl _ | simp | omega) _).set (by first | assumption | exact Nat.le_refl _ | simp | omega) _)
  refine sLoadBox (AV.int IntKind.i64 b.kind) (set_at (set_other (by first | assumption | simp | omega) (push_old push_last))) rfl ?_
  refine sCond (fun h' => ?_) (fun h' => ?_)
  · rw [e2 h h']
    refine sLoadBox (valV b) (set_at (set_other (by first | assumption | simp | omega) (push_old push_last))) rfl ?_
    refine sStoreE (v := valV b) (AV.cells (valV b)) (set_other (by first | assumption | simp | omega) (set_other (by first | assumption | simp | omega) push_last)) rfl rfl rfl rfl ?_
    exact sRetCell (o := 0) rfl rfl (ptr_box (set_at (set_other (by first | assumption | simp | omega) (set_other (by first | assumption | simp | omega) push_last)))) rfl rfl rfl (((((((Old.refl _).push _).push _).push _).set (by first | assumption | exact Nat.le_refl _ | simp | omega) _).set (by first | assumption | exact Nat.le_refl _ | simp | omega) _).set (by first | assumption | exact Nat.le_refl _ | simp | omega) _)
  rw [e3 h h']
  refine sCondT ?_
  refine sLoadBox (AV.int IntKind.i64 a.num) (set_other (by first | assumption | simp | omega) (set_at (push_old (push_old push_last)))) rfl ?_
  refine sLoadBox (AV.int IntKind.i64 b.num) (set_at (set_other (by first | assumption | simp | omega) (push_old push_last))) rfl ?_
  refine sCall0 (hr _) ?_
  refine sStoreE (v := valV (plusV a.num b.num)) (AV.cells (valV (plusV a.num b.num))) (set_other (by first | assumption | simp | omega) (set_other (by first | assumption | simp | omega) push_last)) rfl rfl rfl rfl ?_
  exact sRetCell (o := 0) rfl rfl (ptr_box (set_at (set_other (by first | assumption | simp | omega) (set_other (by first | assumption | simp | omega) push_last)))) rfl rfl rfl (((((((Old.refl _).push _).push _).push _).set (by first | assumption | exact Nat.le_refl _ | simp | omega) _).set (by first | assumption | exact Nat.le_refl _ | simp | omega) _).set (by first | assumption | exact Nat.le_refl _ | simp | omega) _)

theorem sum2_ev (hN : ∀ n H, C f_sccref1_Num [intV n] H (valV (nmV n)) H) (hT : ∀ a b, NumK a → NumK b → In64 a.num → In64 b.num → ∀ H, C f_sccref1_Two [intV 8, valV a, valV b] H (valV (addV a b)) H)
    (nv : AV) (ns : List Int) (H : Heap) (hn : view H 1 nv = some (ns.map intV)) (hl : ns.length ≤ 1000000000000) (hr : ∀ n ∈ ns, In64 n) : EFun C GT a_sccref2_Sum [nv] H (valV (sumN ns)) H := by
  refine efun_of ?_
  refine sCall0 (hN 0 _) ?_
  refine sStoreE (v := valV (nmV 0)) (AV.cells (valV (nmV 0))) push_last rfl rfl rfl rfl ?_
  have hne : H.length ≠ (H ++ [ABlk.box [.int .i64 0, .int .i64 0, .str []]]).length := by simp
  have hle : H.length ≤ (H ++ [ABlk.box [.int .i64 0, .int .i64 0, .str []]]).length := by simp
  refine sLoop (fun i : Nat => [(4, .int .i64 i), (3, .ref (H ++ [ABlk.box [.int .i64 0, .int .i64 0, .str []]]).length 0 0 0), (0, nv), (2, .ref H.length 0 0 0)])
    (fun i H' => Old H H' ∧ i ≤ ns.length ∧ H'[H.length]? = some (.box [.int .i64 0, .int .i64 0, .str []]) ∧ H'[(H ++ [ABlk.box [.int .i64 0, .int .i64 0, .str []]]).length]? = some (.box (valV (sumN (ns.take i))).cells)) (fun i => ns.length - i) 0 rfl
    ⟨(((Old.refl H).push _).push _).set hle _, Nat.zero_le _, set_other hne.symm (push_old push_last), set_at push_last⟩ (fun i H1 ⟨hO, hi, h2, h3⟩ => ?_)
  dsimp only
  refine sLenN ns.length (view_old hO hn) (by simp) ?_
  refine sCond (fun hlt => ?_) (fun hlt => ?_)
  · have hlt : i < ns.length := by have := of_decide_eq_true hlt; omega
    have hni : ns[i]? = some ns[i] := List.getElem?_eq_getElem hlt
    have e : sumN (ns.take (i + 1)) = addV (sumN (ns.take i)) (nmV ns[i]) := by rw [List.take_succ_eq_append_getElem hlt, sumN_snoc]
    refine sLoadBox (valV (sumN (ns.take i))) h3 rfl ?_
    refine sIdxV i (intV ns[i]) (view_old hO hn) rfl (by rw [List.getElem?_map, hni]; rfl) (fun p hp => ?_)
    refine sLoadP (intV ns[i]) hp rfl ?_
    refine sCall0 (hN ns[i] _) ?_
    refine sCall0 (hT _ _ (sumN_nk _) (.inl rfl) (sumN_rng _ fun n hn => hr n (List.mem_of_mem_take hn)) (hr _ (List.getElem_mem hlt)) _) ?_
    refine sStoreBox h3 rfl rfl (Nat.le_of_ble_eq_true rfl) ?_
    refine sW64n (r := i + 1) rfl (by omega) ?_
    exact sNext (i + 1) rfl ⟨hO.set hle _, by omega, set_other hne.symm h2, by rw [e]; exact set_at h3⟩ (by omega)
  · have hge : i = ns.length := by have := of_decide_eq_false hlt; omega
    subst hge
    rw [List.take_length] at h3
    refine sLoadBox (valV (sumN ns)) h3 rfl ?_
    refine sStoreE (v := valV (sumN ns)) (AV.cells (valV (sumN ns))) h2 rfl rfl rfl rfl ?_
    exact sRetCell (o := 0) rfl rfl (ptr_box (set_at h2)) rfl rfl rfl (hO.set (by first | assumption | exact Nat.le_refl _ | simp | omega) _)

theorem sum3s_ev (hS : ∀ nv ns H, view H 1 nv = some (ns.map intV) → ns.length ≤ 1000000000000 → (∀ n ∈ ns, In64 n) → C f_sccref2_Sum [nv] H (valV (sumN ns)) H) (b : Nat) (l : List Val) (H : Heap) (hv : H[b]? = some (.row 3 (l.map valV))) (hl : l.length ≤ 1000) (hr : ∀ v ∈ l, In64 v.num) :
    EFun C GT a_sccref3_Sum [.sl (some true) b 3 0 l.length] H (valV (sumL l)) H := by
  refine efun_of ?_
  refine sLoop (fun s : SPs => [(2, .ref H.length 0 0 0), (4, .int .i64 s.i), (0, .sl (some true) b 3 0 l.length), (3, s.v)])
    (fun s H' => Old (H ++ [ABlk.box [.int .i64 0, .int .i64 0, .str []]]) H' ∧ s.i ≤ l.length ∧ Owns (H ++ [ABlk.box [.int .i64 0, .int .i64 0, .str []]]) H' s.v 1 ((((l.take s.i).filter fun v => v.kind == 1).map (·.num)).map intV) ∧ ∀ v ∈ l.take s.i, (v.kind == 4) = false) (fun s => l.length - s.i) ⟨0, .lst (some true) 0 []⟩ rfl
    ⟨Old.refl _, Nat.zero_le _, Owns.nil _ _ _, fun v h => by simp at h⟩ (fun ⟨i, v⟩ H1 ⟨hOz, hi, hown, hnb⟩ => ?_)
  simp only at hi hown hnb
  have hO : Old H H1 := ((Old.refl H).push _).trans hOz
  have h2 : H1[H.length]? = some (.box [.int .i64 0, .int .i64 0, .str []]) := old_get hOz push_last
  have hv1 := old_get hO hv
  dsimp only
  refine sLenSl ?_
  refine sCond (fun hlt => ?_) (fun hlt => ?_)
  · have hlt : i < l.length := by have := of_decide_eq_true hlt; omega
    have hli : l[i]? = some l[i] := List.getElem?_eq_getElem hlt
    obtain ⟨x, hx⟩ : ∃ x, l[i] = x := ⟨_, rfl⟩
    rw [hx] at hli
    have htk : l.take (i + 1) = l.take i ++ [x] := by rw [List.take_succ_eq_append_getElem hlt, hx]
    have hlm : (l.map valV)[i]? = some (valV x) := by rw [List.getElem?_map, hli]; rfl
    refine sAt ⟨by omega, by omega⟩ ?_
    refine sLoadRow i (valV x) (intV x.kind) (by omega) hv1 hlm rfl ?_
    refine sCond (fun hb => ?_) (fun hb => ?_)
    · have e : sumL l = x := by
        unfold sumL
        have : l.find? (fun v => v.kind == 4) = some x := by
          rw [← List.take_append_drop i l, List.find?_append, List.find?_eq_none.2 (fun v hv => by rw [hnb v hv]; simp), drop_of_get hli]
          simp [hb]
        rw [this]
      rw [e]
      refine sAt ⟨by omega, by omega⟩ ?_
      refine sLoadRow i (valV x) (valV x) (by omega) hv1 hlm rfl ?_
      refine sStoreE (v := valV x) (AV.cells (valV x)) h2 rfl rfl rfl rfl ?_
      exact sRetCell (o := 0) rfl rfl (ptr_box (set_at h2)) rfl rfl rfl (hO.set (by first | assumption | exact Nat.le_refl _ | simp | omega) _)
    · have hnb2 : ∀ v ∈ l.take (i + 1), (v.kind == 4) = false := fun v hv => by
        rw [htk] at hv
        rcases List.mem_append.1 hv with hv | hv
        · exact hnb v hv
        · rw [List.mem_singleton.1 hv]; exact hb
      refine sAt ⟨by omega, by omega⟩ ?_
      refine sLoadRow i (valV x) (intV x.kind) (by omega) hv1 hlm rfl ?_
      refine sCond (fun hb1 => ?_) (fun hb1 => ?_)
      · have e : (((l.take (i + 1)).filter fun v => v.kind == 1).map (·.num)).map intV = (((l.take i).filter fun v => v.kind == 1).map (·.num)).map intV ++ [intV x.num] := by
          rw [htk]; simp [hb1]
        refine sAt ⟨by omega, by omega⟩ ?_
        refine sLoadRow i (valV x) (intV x.num) (by omega) hv1 hlm rfl ?_
        refine sBslice (vs' := [intV x.num]) rfl rfl ?_
        refine sAppend (H0 := H ++ [ABlk.box [.int .i64 0, .int .i64 0, .str []]]) (hown.push _) (hOz.push _) view_new (by omega) ?_ (by simp) (fun v' H' ho' hO' hblk hfr => ?_)
        · have := List.length_filter_le (fun v : Val => v.kind == 1) (l.take i)
          simp only [List.length_map, List.length_cons, List.length_nil] at this ⊢
          rw [List.length_take] at this; omega
        refine sW64n (r := i + 1) rfl (by omega) ?_
        exact sNext (SPs.mk (i + 1) v') rfl ⟨hO', by simp only; omega, by simp only [e]; exact ho', hnb2⟩ (by simp only; omega)
      · have e : (((l.take (i + 1)).filter fun v => v.kind == 1).map (·.num)).map intV = (((l.take i).filter fun v => v.kind == 1).map (·.num)).map intV := by
          rw [htk]; simp [hb1]
        refine sW64n (r := i + 1) rfl (by omega) ?_
        exact sNext (SPs.mk (i + 1) v) rfl ⟨hOz, by simp only; omega, by simp only [e]; exact hown, hnb2⟩ (by simp only; omega)
  · have hge : i = l.length := by have := of_decide_eq_false hlt; omega
    subst hge
    rw [List.take_length] at hown hnb
    have e : sumL l = sumN ((l.filter fun v => v.kind == 1).map (·.num)) := by
      unfold sumL
      rw [List.find?_eq_none.2 (fun v hv => by rw [hnb v hv]; simp)]
    have hs := hS v _ H1 hown.view (by rw [List.length_map]; exact Nat.le_trans (List.length_filter_le _ _) (by omega)) (fun n hn => by
      obtain ⟨v, hv, rfl⟩ := List.mem_map.1 hn
      exact hr v (List.mem_filter.1 hv).1)
    obtain ⟨w, hw⟩ : ∃ w, sumN ((l.filter fun v => v.kind == 1).map (·.num)) = w := ⟨_, rfl⟩
    rw [hw] at hs e
    rw [e]
    refine sCall0 hs ?_
    refine sStoreE (v := valV w) (AV.cells (valV w)) h2 rfl rfl rfl rfl ?_
    exact sRetCell (o := 0) rfl rfl (ptr_box (set_at h2)) rfl rfl rfl (hO.set (by first | assumption | exact Nat.le_refl _ | simp | omega) _)
end
end Go.AM

/- The reference's big numbers: walks (length, bits, signs, what 64 bits hold, sums); its Reckon at Add. Own work. -/
set_option linter.all false
set_option maxRecDepth 20000
namespace Go.AM

/-! ### Plain facts -/

def bigC (v : Int) : List AV := [.bool (decide (v < 0)), magV v.natAbs]

theorem wds_get : ∀ (n q : Nat), q < (wds n).length → (wds n)[q]? = some (n / 4294967296 ^ q % 4294967296) := by
  intro n
  induction n using Nat.strongRecOn with
  | ind n ih =>
    intro q hq
    have hn : n ≠ 0 := fun e => by subst e; simp [wds_zero] at hq
    rw [wds_pos hn] at hq ⊢
    cases q with
    | zero => simp
    | succ q =>
      rw [List.getElem?_cons_succ, ih _ (by omega) q (by simpa using hq), Nat.div_div_eq_div_mul, Nat.pow_succ, Nat.mul_comm 4294967296]
theorem B_pow (q : Nat) : 4294967296 ^ q = 2 ^ (32 * q) := by rw [Nat.pow_mul]
theorem bit_of_word (m i : Nat) : m / 4294967296 ^ (i / 32) % 4294967296 / 2 ^ (i % 32) % 2 = m / 2 ^ i % 2 := by
  have hr : i % 32 < 32 := Nat.mod_lt _ (by omega)
  obtain ⟨k, hk⟩ : ∃ k, 32 = i % 32 + (k + 1) := ⟨31 - i % 32, by omega⟩
  have e1 : (4294967296 : Nat) = 2 ^ (i % 32) * 2 ^ (k + 1) := by rw [← Nat.pow_add, ← hk]
  have e2 : m / 4294967296 ^ (i / 32) % 4294967296 / 2 ^ (i % 32) = m / 4294967296 ^ (i / 32) / 2 ^ (i % 32) % 2 ^ (k + 1) := by
    conv => lhs; lhs; rhs; rw [e1]
    rw [Nat.mod_mul_right_div_self]
  rw [e2, Nat.mod_mod_of_dvd _ (by rw [Nat.pow_succ]; exact Nat.dvd_mul_left 2 _), B_pow, Nat.div_div_eq_div_mul, ← Nat.pow_add]
  have : 32 * (i / 32) + i % 32 = i := Nat.div_add_mod i 32
  rw [this]
theorem bit_high {m i : Nat} (h : (wds m).length ≤ i / 32) : m / 2 ^ i % 2 = 0 := by
  have h1 := wds_lt m
  have h2 : 4294967296 ^ (wds m).length ≤ 4294967296 ^ (i / 32) := Nat.pow_le_pow_right (by omega) h
  rw [B_pow (i / 32)] at h2
  have h3 : 2 ^ (32 * (i / 32)) ≤ 2 ^ i := Nat.pow_le_pow_right (by omega) (by omega)
  rw [Nat.div_eq_of_lt (by omega)]
theorem bits_shift : ∀ k n : Nat, n / 2 ^ k ≠ 0 → bits n = bits (n / 2 ^ k) + k
  | 0, n, _ => by simp
  | k + 1, n, h => by
    have hn : n ≠ 0 := fun e => by subst e; simp at h
    have e : n / 2 ^ (k + 1) = n / 2 / 2 ^ k := by rw [Nat.div_div_eq_div_mul, Nat.pow_succ, Nat.mul_comm]
    rw [e] at h ⊢
    rw [bits_pos hn, bits_shift k (n / 2) h]
    omega
theorem bits_top : ∀ (m k : Nat), (wds m).length = k + 1 → bits m = k * 32 + bits (m / 4294967296 ^ k % 4294967296) := by
  intro m
  induction m using Nat.strongRecOn with
  | ind m ih =>
    intro k hk
    have hm : m ≠ 0 := fun e => by subst e; simp [wds_zero] at hk
    rw [wds_pos hm, List.length_cons] at hk
    by_cases h2 : m / 4294967296 = 0
    · rw [h2, wds_zero] at hk
      have : k = 0 := by simpa using hk.symm
      subst this
      rw [Nat.pow_zero, Nat.div_one, Nat.mod_eq_of_lt (by omega)]; omega
    · have h3 : (wds (m / 4294967296)).length ≠ 0 := by rw [wds_pos h2]; simp
      obtain ⟨j, rfl⟩ : ∃ j, k = j + 1 := ⟨k - 1, by omega⟩
      have h4 := ih (m / 4294967296) (by omega) j (by omega)
      have h5 := bits_shift 32 m (by simpa using h2)
      have e : (2 : Nat) ^ 32 = 4294967296 := by decide
      rw [e] at h5
      rw [h5, h4, Nat.div_div_eq_div_mul, Nat.pow_succ, Nat.mul_comm 4294967296]
      omega
theorem tz_exists : ∀ m : Nat, m ≠ 0 → ∃ n, m % 2 ^ n = 0 ∧ m / 2 ^ n % 2 = 1 := by
  intro m
  induction m using Nat.strongRecOn with
  | ind m ih =>
    intro h
    by_cases ho : m % 2 = 1
    · exact ⟨0, by simp [Nat.mod_one], by simpa using ho⟩
    · obtain ⟨n, h1, h2⟩ := ih (m / 2) (by omega) (by omega)
      refine ⟨n + 1, ?_, ?_⟩
      · rw [Nat.pow_succ, Nat.mul_comm, Nat.mod_mul, h1]; omega
      · rw [Nat.pow_succ, Nat.mul_comm, ← Nat.div_div_eq_div_mul]; exact h2
theorem tz_low {m n k : Nat} (h : m % 2 ^ n = 0) (hk : k < n) : m / 2 ^ k % 2 = 0 := by
  obtain ⟨c, rfl⟩ := Nat.dvd_of_mod_eq_zero h
  obtain ⟨j, rfl⟩ : ∃ j, n = k + (j + 1) := ⟨n - k - 1, by omega⟩
  rw [Nat.pow_add, Nat.mul_assoc, Nat.mul_div_cancel_left _ (Nat.two_pow_pos k), Nat.pow_succ, Nat.mul_comm (2 ^ j) 2, Nat.mul_assoc, Nat.mul_mod_right]
theorem tz_63 {m : Nat} (h : m < 18446744073709551616) (h1 : m % 2 ^ 63 = 0) (h2 : m / 2 ^ 63 % 2 = 1) : m = 9223372036854775808 := by
  have e : (2 : Nat) ^ 63 = 9223372036854775808 := by decide
  rw [e] at h1 h2
  omega
theorem sumS_is (a b : Int) : (sumS (decide (a < 0)) a.natAbs (decide (b < 0)) b.natAbs).2 = (a + b).natAbs ∧ ((sumS (decide (a < 0)) a.natAbs (decide (b < 0)) b.natAbs).1 && decide (0 < (sumS (decide (a < 0)) a.natAbs (decide (b < 0)) b.natAbs).2)) = decide (a + b < 0) := by
  unfold sumS
  by_cases ha : a < 0 <;> by_cases hb : b < 0 <;> simp only [ha, hb, decide_true, decide_false, if_true, if_false, reduceCtorEq, Bool.true_eq_false, Bool.false_eq_true]
  · exact ⟨by omega, by rw [Bool.true_and, Bool.eq_iff_iff, decide_eq_true_iff, decide_eq_true_iff]; omega⟩
  · split
    · exact ⟨by simp only; omega, by simp only [Bool.true_and]; rw [Bool.eq_iff_iff, decide_eq_true_iff, decide_eq_true_iff]; omega⟩
    · exact ⟨by simp only; omega, by simp only [Bool.false_and]; exact (decide_eq_false (by omega)).symm⟩
  · split
    · exact ⟨by simp only; omega, by simp only [Bool.false_and]; exact (decide_eq_false (by omega)).symm⟩
    · exact ⟨by simp only; omega, by simp only [Bool.true_and]; rw [Bool.eq_iff_iff, decide_eq_true_iff, decide_eq_true_iff]; omega⟩
  · exact ⟨by omega, by rw [Bool.false_and]; exact (decide_eq_false (by omega)).symm⟩

/-! ### Steps -/

theorem shrN (w r : Nat) (h : r ≤ 32) : shiftBin .shr .u32 (w : Int) (r : Int) = some (.int .u32 ((w / 2 ^ r : Nat) : Int)) := by
  simp only [shiftBin]
  rw [if_neg (by omega)]
  have e : Nat.min (r : Int).toNat IntKind.u32.bits = r := by
    rw [Int.toNat_natCast]; exact Nat.min_eq_left h
  have e2 : ((2 : Int) ^ r) = ((2 ^ r : Nat) : Int) := by simp
  rw [e, e2, Int.fdiv_eq_ediv_of_nonneg _ (Int.natCast_nonneg _)]
  rfl
theorem shr1w (w : Nat) : shiftBin .shr .u32 (w : Int) 1 = some (.int .u32 ((w / 2 : Nat) : Int)) := by
  have := shrN w 1 (by omega); simpa using this
theorem and1 (a : Nat) (h : a < 18446744073709551616) : intBin .and .u64 (a : Int) 1 = some (.int .u64 ((a % 2 : Nat) : Int)) := by
  simp only [intBin]
  have e : (BitVec.ofInt IntKind.u64.bits (a : Int) &&& BitVec.ofInt IntKind.u64.bits 1).toNat = a % 2 := by
    rw [BitVec.toNat_and]
    have h1 : (BitVec.ofInt IntKind.u64.bits (a : Int)).toNat = a := by
      show (BitVec.ofInt 64 (a : Int)).toNat = a
      rw [BitVec.toNat_ofInt]
      have : ((a : Int) % ((2 ^ 64 : Nat) : Int)) = (a : Int) := by rw [Int.emod_eq_of_lt (by omega) (by simp; omega)]
      rw [this, Int.toNat_natCast]
    have h2 : (BitVec.ofInt IntKind.u64.bits 1).toNat = 1 := by decide
    rw [h1, h2, Nat.and_one_is_mod]
  rw [e, IntKind.wrap_u64]
  have : ((a % 2 : Nat) : Int) % 18446744073709551616 = ((a % 2 : Nat) : Int) := by omega
  rw [this]
theorem shl32 (a : Nat) (h : a < 4294967296) : shiftBin .shl .u64 (a : Int) 32 = some (.int .u64 ((a * 4294967296 : Nat) : Int)) := by
  simp only [shiftBin]
  rw [if_neg (by omega)]
  have : (2 : Int) ^ Nat.min (32 : Int).toNat IntKind.u64.bits = 4294967296 := by rfl
  rw [this, IntKind.wrap_u64]
  have : ((a : Int) * 4294967296) % 18446744073709551616 = ((a * 4294967296 : Nat) : Int) := by omega
  rw [this]
theorem or32 (a b : Nat) (ha : a < 4294967296) (hb : b < 4294967296) : intBin .or .u64 (a : Int) ((b * 4294967296 : Nat) : Int) = some (.int .u64 ((a + 4294967296 * b : Nat) : Int)) := by
  simp only [intBin]
  have of (x : Nat) (hx : x < 18446744073709551616) : (BitVec.ofInt IntKind.u64.bits (x : Int)).toNat = x := by
    show (BitVec.ofInt 64 (x : Int)).toNat = x
    rw [BitVec.toNat_ofInt]
    have : ((x : Int) % ((2 ^ 64 : Nat) : Int)) = (x : Int) := by rw [Int.emod_eq_of_lt (by omega) (by simp; omega)]
    rw [this, Int.toNat_natCast]
  have e : (BitVec.ofInt IntKind.u64.bits (a : Int) ||| BitVec.ofInt IntKind.u64.bits ((b * 4294967296 : Nat) : Int)).toNat = a + 4294967296 * b := by
    rw [BitVec.toNat_or, of a (by omega), of _ (by omega), Nat.or_comm, Nat.mul_comm b]
    have := Nat.two_pow_add_eq_or_of_lt (i := 32) (b := a) (by simpa using ha) b
    have e32 : (2 : Nat) ^ 32 = 4294967296 := by decide
    rw [e32] at this
    rw [← this]; omega
  rw [e, IntKind.wrap_u64]
  have : ((a + 4294967296 * b : Nat) : Int) % 18446744073709551616 = ((a + 4294967296 * b : Nat) : Int) := by omega
  rw [this]

/-- Out of a function that wrote a box of the caller's. -/
theorem sRetB {F : AF} {H H1 : Heap} {fr : Fr} {v : AV} {b : Nat} {cs : List AV} (hH : H1 = H.set b (.box cs)) (hk : F.keep = false) (hr : (resAll fr H1 F.results).map tupled = some v) (hf : frzV H.length v H1 = some (v, H1)) (hb : v.bel H.length = true) (hc : blkBel H.length (.box cs) = true) :
    retP F H fr H1 v (H.set b (.box cs)) := by
  refine sRet ?_
  unfold retF
  cases hs : resAll fr H1 F.results with
  | none => rw [hs] at hr; cases hr
  | some vs =>
    rw [hs] at hr
    simp only [Option.map_some, Option.some.injEq] at hr
    subst hr
    simp only [hk, hf, Bool.false_eq_true, if_false]
    subst hH
    refine ⟨hb, fun c hc' => ?_, trivial, ?_⟩
    · by_cases e : b = c
      · subst e
        exact .inr ⟨_, List.getElem?_set_self hc', hc⟩
      · exact .inl (List.getElem?_set_ne e)
    · rw [List.take_of_length_le (by rw [List.length_set]; omega)]
/-- Out of a function whose new blocks live on. -/
theorem sRetK {F : AF} {H H1 : Heap} {fr : Fr} {v : AV} (hk : F.keep = true) (hr : (resAll fr H1 F.results).map tupled = some v) : retP F H fr H1 v H1 := by
  refine sRet ?_
  unfold retF
  cases hs : resAll fr H1 F.results with
  | none => rw [hs] at hr; cases hr
  | some vs =>
    rw [hs] at hr
    simp only [Option.map_some, Option.some.injEq] at hr
    subst hr
    simp only [hk, if_true]
    exact ⟨trivial, trivial⟩

section
variable {C : CSpec} {GT : Nat → Option AV}

theorem bit_ev (av : AV) (m i : Nat) (H : Heap) (ha : Mag av m) (hl : (wds m).length ≤ 100000) (hi : i ≤ 1000000) : EFun C GT a_sccsettlebig_bit [av, intV i] H (u64V (m / 2 ^ i % 2)) H := by
  obtain ⟨r, hr⟩ : ∃ r, m / 2 ^ i % 2 = r := ⟨_, rfl⟩
  have hd : (i : Int).tdiv 32 = ((i / 32 : Nat) : Int) := (Int.ofNat_tdiv i 32).symm
  rw [hr]
  refine efun_of ?_
  refine sCondF ?_
  refine sNeed (by decide) ?_
  refine sW64n (r := i / 32) hd (by omega) ?_
  refine sLenO (wds m).length ha (by simp) ?_
  refine sCondF ?_
  refine sCond (fun h => ?_) (fun h => ?_)
  · have h : (wds m).length ≤ i / 32 := by have := of_decide_eq_true h; omega
    rw [bit_high h] at hr
    subst hr
    exact sRetV rfl rfl rfl rfl (Old.refl _)
  · have h : i / 32 < (wds m).length := by have := of_decide_eq_false h; omega
    have hg := wd_get h
    have hw := wds_small m _ (List.getElem_mem h)
    have he := wds_get m (i / 32) h
    rw [List.getElem?_eq_getElem h] at he
    have he := Option.some.inj he
    have hb := bit_of_word m i
    rw [← he, hr] at hb
    generalize (wds m)[i / 32] = w at *
    have hw2 : w / 2 ^ (i % 32) ≤ w := Nat.div_le_self _ _
    have hm : (i : Int).tmod 32 = ((i % 32 : Nat) : Int) := (Int.ofNat_tmod i 32).symm
    subst hb
    refine sNeed (by decide) ?_
    refine sW64n (r := i / 32) hd (by omega) ?_
    refine sIdxO (i / 32) (u32V w) ha rfl hg ?_
    refine sLoadL (u32V w) rfl ?_
    refine sWu64n (r := i) rfl (by omega) ?_
    refine sNeed (by decide) ?_
    refine sVal (r := ((i % 32 : Nat) : Int)) hm ?_
    refine sOpt (shrN w (i % 32) (by omega)) ?_
    refine sWu64n (r := w / 2 ^ (i % 32)) rfl (by omega) ?_
    refine sOpt (and1 (w / 2 ^ (i % 32)) (by omega)) ?_
    exact sRetV rfl rfl rfl rfl (Old.refl _)

theorem tzb_ev (hB : ∀ (av : AV) (m i : Nat) (H : Heap), Mag av m → (wds m).length ≤ 100000 → i ≤ 1000000 → C f_sccsettlebig_bit [av, intV i] H (u64V (m / 2 ^ i % 2)) H) (b m n : Nat) (x av : AV) (H : Heap) (hb : H[b]? = some (.box [x, av])) (ha : Mag av m) (h0 : m ≠ 0) (hl : (wds m).length ≤ 100) (hn : n ≤ 10000) (h1 : m % 2 ^ n = 0) (h2 : m / 2 ^ n % 2 = 1) :
    EFun C GT a_sccsettlebig_Int__TrailingZeroBits [.ref b 0 0 0] H (u64V n) H := by
  have hlz : (wds m).length ≠ 0 := by rw [wds_pos h0]; simp
  refine efun_of ?_
  refine sLoadBox (av) hb rfl ?_
  refine sLenO (wds m).length ha (by simp) ?_
  refine sCond (fun h => absurd (eq_of_beq h) (by omega)) (fun _ => ?_)
  refine sLoop (fun k : Nat => [(3, u64V k), (0, .ref b 0 0 0)]) (fun k H' => H' = H ∧ k ≤ n) (fun k => n - k) 0 rfl ⟨rfl, Nat.zero_le _⟩ (fun k H1 ⟨e, hk⟩ => ?_)
  subst e
  dsimp only
  have hbk := hB av m k H1 ha (by omega) (by omega)
  by_cases hkn : k = n
  · subst hkn
    rw [h2] at hbk
    refine sLoadBox (av) hb rfl ?_
    refine sW64n (r := k) rfl (by omega) ?_
    refine sCall0 (hbk) ?_
    refine sCondF ?_
    exact sRetV rfl rfl rfl rfl (Old.refl _)
  · rw [tz_low h1 (by omega : k < n)] at hbk
    refine sLoadBox (av) hb rfl ?_
    refine sW64n (r := k) rfl (by omega) ?_
    refine sCall0 (hbk) ?_
    refine sCondT ?_
    refine sWu64n (r := k + 1) rfl (by omega) ?_
    exact sNext (k + 1) rfl ⟨rfl, by omega⟩ (by omega)

structure SLe where
  t : Nat
  n : Nat

theorem length_ev (av : AV) (m : Nat) (H : Heap) (ha : Mag av m) (hl : (wds m).length ≤ 1000) : EFun C GT a_sccsettlebig_length [av] H (natV (bits m)) H := by
  obtain ⟨r, hr⟩ : ∃ r, bits m = r := ⟨_, rfl⟩
  rw [hr]
  refine efun_of ?_
  refine sLenO (wds m).length ha (by simp) ?_
  refine sCond (fun h => ?_) (fun h => ?_)
  · have h : (wds m).length = 0 := by have := eq_of_beq h; omega
    have h0 : m = 0 := by
      by_cases e : m = 0
      · exact e
      · rw [wds_pos e] at h; simp at h
    subst h0
    subst hr
    exact sRetV rfl rfl rfl rfl (Old.refl _)
  · have h : (wds m).length ≠ 0 := fun e => by rw [e] at h; exact absurd h (by simp)
    obtain ⟨k, hk⟩ : ∃ k, (wds m).length = k + 1 := ⟨(wds m).length - 1, by omega⟩
    have hlt : k < (wds m).length := by omega
    have hg := wd_get hlt
    have he := wds_get m k hlt
    rw [List.getElem?_eq_getElem hlt] at he
    have he := Option.some.inj he
    have ht := bits_top m k hk
    rw [← he, hr] at ht
    have hw := wds_small m _ (List.getElem_mem hlt)
    generalize (wds m)[k] = w at *
    have hbw : bits w ≤ 32 := (bits_le 32 w).2 hw
    refine sLenO (k + 1) ha (by simp [hk]) ?_
    refine sW64n (r := k) (by omega) (by omega) ?_
    refine sIdxO k (u32V w) ha rfl hg ?_
    refine sLoadL (u32V w) rfl ?_
    refine sLoop (fun s : SLe => [(4, u32V s.t), (3, natV s.n), (0, av)]) (fun s H' => H' = H ∧ s.n + bits s.t = bits w) (fun s => s.t) ⟨w, 0⟩ rfl ⟨rfl, by simp⟩ (fun ⟨t, n⟩ H1 ⟨e, hn⟩ => ?_)
    subst e
    simp only at hn
    dsimp only
    refine sCond (fun hc => ?_) (fun hc => ?_)
    · have hc : t ≠ 0 := fun e => by rw [e] at hc; exact absurd hc (by simp)
      rw [bits_pos hc] at hn
      refine sW64n (r := n + 1) rfl (by omega) ?_
      refine sOpt (shr1w t) ?_
      exact sNext (SLe.mk (t / 2) (n + 1)) rfl ⟨rfl, by simp only; omega⟩ (by simp only; omega)
    · have hc : t = 0 := by simp only [bne_eq_false_iff_eq] at hc; omega
      subst hc
      have hz : bits 0 = 0 := rfl
      rw [hz] at hn
      have hn' : n = bits w := by omega
      subst hn'
      subst ht
      refine sLenO (k + 1) ha (by simp [hk]) ?_
      refine sW64n (r := k) (by omega) (by omega) ?_
      refine sW64n (r := k * 32) (by omega) (by omega) ?_
      refine sW64n (r := k * 32 + bits w) (by omega) (by omega) ?_
      exact sRetV rfl rfl rfl rfl (Old.refl _)

theorem uint64_ev (b m : Nat) (x av : AV) (H : Heap) (hb : H[b]? = some (.box [x, av])) (ha : Mag av m) (hm : m < 18446744073709551616) : EFun C GT a_sccsettlebig_Int__Uint64 [.ref b 0 0 0] H (u64V m) H := by
  refine efun_of ?_
  by_cases h0 : m = 0
  · subst h0
    refine sLoadBox (av) hb rfl ?_
    refine sLenO 0 ha rfl ?_
    refine sCondF ?_
    refine sLoadBox (av) hb rfl ?_
    refine sLenO 0 ha rfl ?_
    refine sCondF ?_
    exact sRetV rfl rfl rfl rfl (Old.refl _)
  have hw : wds m = (m % 4294967296) :: wds (m / 4294967296) := wds_pos h0
  by_cases h1 : m / 4294967296 = 0
  · rw [h1, wds_zero] at hw
    have hm' : m % 4294967296 = m := by omega
    rw [hm'] at hw
    have ha' : LstOf av 1 [u32V m] := by unfold Mag at ha; rw [hw] at ha; exact ha
    refine sLoadBox (av) hb rfl ?_
    refine sLenO 1 ha' rfl ?_
    refine sCondT ?_
    refine sLoadBox (av) hb rfl ?_
    refine sIdxO 0 (u32V m) ha' rfl rfl ?_
    refine sLoadL (u32V m) rfl ?_
    refine sWu64n (r := m) rfl (by omega) ?_
    refine sLoadBox (av) hb rfl ?_
    refine sLenO 1 ha' rfl ?_
    refine sCondF ?_
    exact sRetV rfl rfl rfl rfl (Old.refl _)
  · have hw2 : wds (m / 4294967296) = [m / 4294967296] := by
      rw [wds_pos h1]
      have e1 : m / 4294967296 / 4294967296 = 0 := by omega
      have e2 : m / 4294967296 % 4294967296 = m / 4294967296 := by omega
      rw [e1, e2, wds_zero]
    rw [hw2] at hw
    have ha' : LstOf av 1 [u32V (m % 4294967296), u32V (m / 4294967296)] := by unfold Mag at ha; rw [hw] at ha; exact ha
    have e : m % 4294967296 + 4294967296 * (m / 4294967296) = m := by omega
    have hor := or32 (m % 4294967296) (m / 4294967296) (by omega) (by omega)
    rw [e] at hor
    refine sLoadBox (av) hb rfl ?_
    refine sLenO 2 ha' rfl ?_
    refine sCondT ?_
    refine sLoadBox (av) hb rfl ?_
    refine sIdxO 0 (u32V (m % 4294967296)) ha' rfl rfl ?_
    refine sLoadL (u32V (m % 4294967296)) rfl ?_
    refine sWu64n (r := m % 4294967296) rfl (by omega) ?_
    refine sLoadBox (av) hb rfl ?_
    refine sLenO 2 ha' rfl ?_
    refine sCondT ?_
    refine sLoadBox (av) hb rfl ?_
    refine sIdxO 1 (u32V (m / 4294967296)) ha' rfl rfl ?_
    refine sLoadL (u32V (m / 4294967296)) rfl ?_
    refine sWu64n (r := m / 4294967296) rfl (by omega) ?_
    refine sOpt (shl32 (m / 4294967296) (by omega)) ?_
    refine sOpt hor ?_
    exact sRetV rfl rfl rfl rfl (Old.refl _)

theorem int64_ev (hU : ∀ b m x av H, H[b]? = some (.box [x, av]) → Mag av m → m < 18446744073709551616 → C f_sccsettlebig_Int__Uint64 [.ref b 0 0 0] H (u64V m) H) (b : Nat) (v : Int) (H : Heap) (hb : H[b]? = some (.box (bigC v))) (hv : In64 v) :
    EFun C GT a_sccsettlebig_Int__Int64 [.ref b 0 0 0] H (intV v) H := by
  unfold In64 at hv
  have hu := hU b v.natAbs _ _ H hb (magV_is _) (by omega)
  unfold bigC at hb
  refine efun_of ?_
  by_cases hn : v < 0
  · rw [decide_eq_true hn] at hb
    have e : aUn .neg (.int .i64 (if v = -9223372036854775808 then v else -v)) = some (intV v) := by
      simp only [aUn]
      rw [IntKind.wrap_i64]
      by_cases h : v = -9223372036854775808
      · subst h; rfl
      · rw [if_neg h]
        have : (0 - -v + 9223372036854775808) % 18446744073709551616 - 9223372036854775808 = v := by omega
        rw [this]; rfl
    refine sCall0 (hu) ?_
    refine sVal (r := if v = -9223372036854775808 then v else -v) (by rw [IntKind.wrap_i64]; split <;> omega) ?_
    refine sLoadBox (AV.bool true) hb rfl ?_
    refine sCondT ?_
    refine sOpt e ?_
    exact sRetV rfl rfl rfl rfl (Old.refl _)
  · rw [decide_eq_false hn] at hb
    refine sCall0 (hu) ?_
    refine sVal (r := v) (by rw [IntKind.wrap_i64]; omega) ?_
    refine sLoadBox (AV.bool false) hb rfl ?_
    refine sCondF ?_
    exact sRetV rfl rfl rfl rfl (Old.refl _)

theorem isInt64_ev (hL : ∀ av m H, Mag av m → (wds m).length ≤ 1000 → C f_sccsettlebig_length [av] H (natV (bits m)) H)
    (hT : ∀ b m n x av H, H[b]? = some (.box [x, av]) → Mag av m → m ≠ 0 → (wds m).length ≤ 100 → n ≤ 10000 → m % 2 ^ n = 0 → m / 2 ^ n % 2 = 1 → C f_sccsettlebig_Int__TrailingZeroBits [.ref b 0 0 0] H (u64V n) H)
    (b : Nat) (v : Int) (H : Heap) (hb : H[b]? = some (.box (bigC v))) (hv : (wds v.natAbs).length ≤ 100) : EFun C GT a_sccsettlebig_Int__IsInt64 [.ref b 0 0 0] H (.bool (decide (In64 v))) H := by
  obtain ⟨r, hr⟩ : ∃ r, decide (In64 v) = r := ⟨_, rfl⟩
  rw [hr]
  have hl := hL (magV v.natAbs) v.natAbs H (magV_is _) (by omega)
  have b63 := bits_le 63 v.natAbs
  have b64 := bits_le 64 v.natAbs
  have e63 : (2 : Nat) ^ 63 = 9223372036854775808 := by decide
  have e64 : (2 : Nat) ^ 64 = 18446744073709551616 := by decide
  rw [e63] at b63
  rw [e64] at b64
  have hb2 : H[b]? = some (.box [.bool (decide (v < 0)), magV v.natAbs]) := hb
  clear hb
  refine efun_of ?_
  refine sLoadBox (magV v.natAbs) hb2 rfl ?_
  refine sCall0 (hl) ?_
  generalize bits v.natAbs = L at *
  refine sCond (fun h => ?_) (fun h => ?_)
  · have h : L ≤ 63 := by have := of_decide_eq_true h; omega
    have : In64 v := by unfold In64; have := b63.1 h; omega
    rw [decide_eq_true this] at hr
    subst hr
    refine sCondT ?_
    exact sRetV rfl rfl rfl rfl (Old.refl _)
  · have h : ¬ L ≤ 63 := by have := of_decide_eq_false h; omega
    have hbig : ¬ v.natAbs < 9223372036854775808 := fun h' => h (b63.2 h')
    refine sCond (fun h64 => ?_) (fun h64 => ?_)
    · have h64 : L ≤ 64 := by have := eq_of_beq h64; omega
      have hlt := b64.1 h64
      by_cases hn : v < 0
      · rw [decide_eq_true hn] at hb2
        obtain ⟨n, t1, t2⟩ := tz_exists v.natAbs (by omega)
        have hn64 : n < 64 := by
          rcases Nat.lt_or_ge n 64 with h | h
          · exact h
          · have h1 : 2 ^ 64 ≤ 2 ^ n := Nat.pow_le_pow_right (by omega) h
            rw [e64] at h1
            rw [Nat.mod_eq_of_lt (by omega)] at t1
            omega
        have ht := hT b v.natAbs n _ _ H hb2 (magV_is _) (by omega) hv (by omega) t1 t2
        by_cases h63 : n = 63
        · subst h63
          have := tz_63 hlt t1 t2
          have hin : In64 v := by unfold In64; omega
          rw [decide_eq_true hin] at hr
          subst hr
          refine sLoadBox (AV.bool true) hb2 rfl ?_
          refine sCondT ?_
          refine sCondT ?_
          refine sCall0 (ht) ?_
          refine sCondT ?_
          refine sCondF ?_
          exact sRetV rfl rfl rfl rfl (Old.refl _)
        · have hin : ¬ In64 v := fun hin => by
            unfold In64 at hin
            have e : v.natAbs = 2 ^ 63 := by rw [e63]; omega
            rw [e] at t1 t2
            rcases Nat.lt_or_gt_of_ne h63 with h | h
            · have := tz_low (m := 2 ^ 63) (n := 63) (k := n) (Nat.mod_self _) h
              omega
            · have h1 : (2 : Nat) ^ 63 < 2 ^ n := Nat.pow_lt_pow_right (by omega) h
              rw [Nat.mod_eq_of_lt h1] at t1
              omega
          have hne : ((n : Int) == 63) = false := by rw [beq_eq_false_iff_ne]; omega
          rw [decide_eq_false hin] at hr
          subst hr
          refine sLoadBox (AV.bool true) hb2 rfl ?_
          refine sCondT ?_
          refine sCondT ?_
          refine sCall0 (ht) ?_
          refine sCondT ?_
          refine sCondF ?_
          exact sRetE (congrArg AV.bool hne.symm) rfl rfl rfl rfl (Old.refl _)
      · rw [decide_eq_false hn] at hb2
        have hin : ¬ In64 v := fun hin => by unfold In64 at hin; omega
        rw [decide_eq_false hin] at hr
        subst hr
        refine sLoadBox (AV.bool false) hb2 rfl ?_
        refine sCondT ?_
        refine sCondF ?_
        refine sCondF ?_
        refine sCondF ?_
        exact sRetV rfl rfl rfl rfl (Old.refl _)
    · have h64 : ¬ L ≤ 64 := fun h' => by
        have : L = 64 := by omega
        rw [this] at h64
        exact absurd h64 (by simp)
      have hgt : ¬ v.natAbs < 18446744073709551616 := fun h' => h64 (b64.2 h')
      have hin : ¬ In64 v := fun hin => by unfold In64 at hin; omega
      rw [decide_eq_false hin] at hr
      subst hr
      refine sCondF ?_
      refine sCondF ?_
      refine sCondF ?_
      refine sCondF ?_
      exact sRetV rfl rfl rfl rfl (Old.refl _)

theorem give_ev (b n : Nat) (neg : Bool) (x0 x1 : AV) (H : Heap) (hb : H[b]? = some (.box [x0, x1])) : EFun C GT a_sccsettlebig_Int__give [.ref b 0 0 0, .bool neg, magV n] H (.ref b 0 0 0) (H.set b (.box [.bool (neg && decide (0 < n)), magV n])) := by
  have hbl : b < H.length := (List.getElem?_eq_some_iff.1 hb).1
  have hz : ((wds n).length > 0) ↔ 0 < n := by
    by_cases e : n = 0
    · subst e; simp [wds_zero]
    · rw [wds_pos e]; simp; omega
  have hd : decide (((wds n).length : Int) > 0) = decide (0 < n) := by
    rw [Bool.eq_iff_iff, decide_eq_true_iff, decide_eq_true_iff, ← hz]; omega
  refine efun_of ?_
  cases neg
  · refine sStoreE (v := magV n) [x0, magV n] hb rfl rfl rfl rfl ?_
    refine sCondF ?_
    refine sCondF ?_
    refine sStoreE (v := AV.bool false) [AV.bool false, magV n] (set_at hb) rfl rfl rfl rfl ?_
    exact sRetB (by rw [List.set_set]; rfl) rfl rfl rfl (decide_eq_true hbl) rfl
  · refine sStoreE (v := magV n) [x0, magV n] hb rfl rfl rfl rfl ?_
    refine sCondT ?_
    refine sLenO (wds n).length (magV_is n) (by simp) ?_
    refine sCondT ?_
    refine sStoreE (v := .bool (decide (((wds n).length : Int) > 0))) [.bool (decide (((wds n).length : Int) > 0)), magV n] (set_at hb) rfl rfl rfl rfl ?_
    exact sRetB (by rw [List.set_set, hd]; rfl) rfl rfl rfl (decide_eq_true hbl) rfl

theorem setInt64_ev (hW : ∀ x H, x < 18446744073709551616 → C f_sccsettlebig_words [u64V x] H (magV x) H) (hG : ∀ b n neg x0 x1 H, H[b]? = some (.box [x0, x1]) → C f_sccsettlebig_Int__give [.ref b 0 0 0, .bool neg, magV n] H (.ref b 0 0 0) (H.set b (.box [.bool (neg && decide (0 < n)), magV n])))
    (b : Nat) (v : Int) (x0 x1 : AV) (H : Heap) (hb : H[b]? = some (.box [x0, x1])) (hv : In64 v) : EFun C GT a_sccsettlebig_Int__SetInt64 [.ref b 0 0 0, intV v] H (.ref b 0 0 0) (H.set b (.box (bigC v))) := by
  have hbl : b < H.length := (List.getElem?_eq_some_iff.1 hb).1
  unfold In64 at hv
  have hw := hW v.natAbs H (by omega)
  have hg := hG b v.natAbs (decide (v < 0)) x0 x1 H hb
  have e0 : (decide (v < 0) && decide (0 < v.natAbs)) = decide (v < 0) := by
    by_cases h : v < 0
    · rw [decide_eq_true h, decide_eq_true (by omega : 0 < v.natAbs)]; rfl
    · rw [decide_eq_false h]; rfl
  rw [e0] at hg
  refine efun_of ?_
  by_cases hn : v < 0
  · have e : aUn .neg (.int .u64 (18446744073709551616 + v)) = some (u64V v.natAbs) := by
      simp only [aUn]
      rw [IntKind.wrap_u64]
      have : (0 - (18446744073709551616 + v)) % 18446744073709551616 = (v.natAbs : Int) := by omega
      rw [this]; rfl
    refine sVal (r := 18446744073709551616 + v) (by rw [IntKind.wrap_u64]; omega) ?_
    refine sCond (fun _ => ?_) (fun h => absurd hn (of_decide_eq_false h))
    refine sOpt e ?_
    refine sCall0 (hw) ?_
    refine sCall hg (fun h => by cases h) ?_
    exact sRetB rfl rfl rfl rfl (decide_eq_true hbl) rfl
  · refine sVal (r := (v.natAbs : Int)) (by rw [IntKind.wrap_u64]; omega) ?_
    refine sCond (fun h => absurd (of_decide_eq_true h) hn) (fun _ => ?_)
    refine sCall0 (hw) ?_
    refine sCall hg (fun h => by cases h) ?_
    exact sRetB rfl rfl rfl rfl (decide_eq_true hbl) rfl

def a_bigNew : AF := { a_sccsettlebig_NewInt with keep := true }
theorem newInt_ev (hS : ∀ b v x0 x1 H, H[b]? = some (.box [x0, x1]) → In64 v → C f_sccsettlebig_Int__SetInt64 [.ref b 0 0 0, intV v] H (.ref b 0 0 0) (H.set b (.box (bigC v)))) (v : Int) (H : Heap) (hv : In64 v) :
    EFun C GT a_bigNew [intV v] H (.ref H.length 0 0 0) (H ++ [.box (bigC v)]) := by
  have hs := hS H.length v (.bool false) (.lst (some true) 0 []) (H ++ [.box [.bool false, .lst (some true) 0 []]]) push_last hv
  have e : (H ++ [ABlk.box [.bool false, .lst (some true) 0 []]]).set H.length (.box (bigC v)) = H ++ [.box (bigC v)] := by
    rw [List.set_append_right _ _ (Nat.le_refl _), Nat.sub_self]; rfl
  rw [e] at hs
  refine efun_of ?_
  refine sCall hs (fun h => by cases h) ?_
  exact sRetK rfl rfl

theorem bigAdd_ev (hS : ∀ av bv xn yn x y H, Mag av x → Mag bv y → (wds x).length ≤ 100000 → (wds y).length ≤ 100000 → C f_sccsettlebig_sum [.bool xn, av, .bool yn, bv] H (.tup [.bool (sumS xn x yn y).1, magV (sumS xn x yn y).2]) H)
    (hG : ∀ b n neg x0 x1 H, H[b]? = some (.box [x0, x1]) → C f_sccsettlebig_Int__give [.ref b 0 0 0, .bool neg, magV n] H (.ref b 0 0 0) (H.set b (.box [.bool (neg && decide (0 < n)), magV n])))
    (z x y : Nat) (a b : Int) (x0 x1 : AV) (H : Heap) (hz : H[z]? = some (.box [x0, x1])) (hx : H[x]? = some (.box (bigC a))) (hy : H[y]? = some (.box (bigC b))) (ha : (wds a.natAbs).length ≤ 1000) (hb : (wds b.natAbs).length ≤ 1000) :
    EFun C GT a_sccsettlebig_Int__Add [.ref z 0 0 0, .ref x 0 0 0, .ref y 0 0 0] H (.ref z 0 0 0) (H.set z (.box (bigC (a + b)))) := by
  have hzl : z < H.length := (List.getElem?_eq_some_iff.1 hz).1
  have hs := hS (magV a.natAbs) (magV b.natAbs) (decide (a < 0)) (decide (b < 0)) _ _ H (magV_is _) (magV_is _) (by omega) (by omega)
  have hg := hG z (sumS (decide (a < 0)) a.natAbs (decide (b < 0)) b.natAbs).2 (sumS (decide (a < 0)) a.natAbs (decide (b < 0)) b.natAbs).1 x0 x1 H hz
  obtain ⟨s1, s2⟩ := sumS_is a b
  rw [s2] at hg
  rw [s1] at hg hs
  unfold bigC at hx hy
  refine efun_of ?_
  refine sLoadBox (AV.bool (decide (a < 0))) hx rfl ?_
  refine sLoadBox (magV a.natAbs) hx rfl ?_
  refine sLoadBox (AV.bool (decide (b < 0))) hy rfl ?_
  refine sLoadBox (magV b.natAbs) hy rfl ?_
  refine sCall0 (hs) ?_
  refine sOpt rfl ?_
  refine sOpt rfl ?_
  refine sCall hg (fun h => by cases h) ?_
  exact sRetB rfl rfl rfl rfl (decide_eq_true hzl) rfl

theorem fits_ev (hI : ∀ b v H, H[b]? = some (.box (bigC v)) → (wds v.natAbs).length ≤ 100 → C f_sccsettlebig_Int__IsInt64 [.ref b 0 0 0] H (.bool (decide (In64 v))) H) (b : Nat) (v : Int) (H : Heap) (hb : H[b]? = some (.box (bigC v))) (hv : (wds v.natAbs).length ≤ 100) :
    EFun C GT a_sccref1_Fits [.ref b 0 0 0] H (.bool (decide (In64 v))) H := by
  have h := hI b v H hb hv
  refine efun_of ?_
  refine sCall0 (h) ?_
  exact sRetV rfl rfl rfl rfl (Old.refl _)

theorem wds_fit {n k : Nat} (h : n < 4294967296 ^ k) : (wds n).length ≤ k := by
  rcases Nat.lt_or_ge k (wds n).length with h2 | h2
  · have hn : n ≠ 0 := fun e => by subst e; simp [wds_zero] at h2
    have h3 := wds_ge n hn
    have h4 : 4294967296 ^ k ≤ 4294967296 ^ ((wds n).length - 1) := Nat.pow_le_pow_right (by omega) (by omega)
    omega
  · exact h2

theorem reckon3_add_ev (hNew : ∀ v H, In64 v → C f_sccsettlebig_NewInt [intV v] H (.ref H.length 0 0 0) (H ++ [.box (bigC v)]))
    (hAdd : ∀ z x y a b x0 x1 H, H[z]? = some (.box [x0, x1]) → H[x]? = some (.box (bigC a)) → H[y]? = some (.box (bigC b)) → (wds a.natAbs).length ≤ 1000 → (wds b.natAbs).length ≤ 1000 → C f_sccsettlebig_Int__Add [.ref z 0 0 0, .ref x 0 0 0, .ref y 0 0 0] H (.ref z 0 0 0) (H.set z (.box (bigC (a + b)))))
    (hF : ∀ b v H, H[b]? = some (.box (bigC v)) → (wds v.natAbs).length ≤ 100 → C f_sccref1_Fits [.ref b 0 0 0] H (.bool (decide (In64 v))) H)
    (hI : ∀ b v H, H[b]? = some (.box (bigC v)) → In64 v → C f_sccsettlebig_Int__Int64 [.ref b 0 0 0] H (intV v) H)
    (hB : ∀ n H, C f_sccref1_Bad [intV n] H (valV ⟨4, n, []⟩) H) (hN : ∀ n H, C f_sccref1_Num [intV n] H (valV ⟨1, n, []⟩) H)
    (a b : Int) (H : Heap) (ha : In64 a) (hb : In64 b) : EFun C GT a_sccref1_Reckon [intV 8, intV a, intV b] H (valV (plusV a b)) H := by
  rw [plusV_fits ha hb]
  have e2 : (4294967296 : Nat) ^ 2 = 18446744073709551616 := by decide
  have e3 : (4294967296 : Nat) ^ 3 = 79228162514264337593543950336 := by decide
  have la : (wds a.natAbs).length ≤ 2 := wds_fit (by rw [e2]; unfold In64 at ha; omega)
  have lb : (wds b.natAbs).length ≤ 2 := wds_fit (by rw [e2]; unfold In64 at hb; omega)
  have ls : (wds (a + b).natAbs).length ≤ 3 := wds_fit (by rw [e3]; unfold In64 at ha hb; omega)
  refine efun_of ?_
  refine sCall (hNew a _ ha) (fun h => by cases h) ?_
  refine sCall (hNew b _ hb) (fun h => by cases h) ?_
  refine sCondT ?_
  refine sCall (hAdd _ _ _ a b _ _ _ push_last (push_old (push_old push_last)) (push_old push_last) (by omega) (by omega)) (fun h => by cases h) ?_
  refine sCall0 (hF _ (a + b) _ (set_at push_last) (by omega)) ?_
  by_cases hin : In64 (a + b)
  · rw [if_pos hin, decide_eq_true hin]
    refine sCondF ?_
    refine sCall0 (hI _ (a + b) _ (set_at push_last) hin) ?_
    refine sCall0 (hN _ _) ?_
    refine sStoreE (v := valV { kind := 1, num := a + b, text := [] }) (AV.cells (valV { kind := 1, num := a + b, text := [] })) (set_other (by first | assumption | simp | omega) (push_old (push_old (push_old push_last)))) rfl rfl rfl rfl ?_
    exact sRetCell (o := 0) rfl rfl (ptr_box (set_at (set_other (by first | assumption | simp | omega) (push_old (push_old (push_old push_last)))))) rfl rfl rfl (((((((Old.refl _).push _).push _).push _).push _).set (by first | assumption | exact Nat.le_refl _ | simp | omega) _).set (by first | assumption | exact Nat.le_refl _ | simp | omega) _)
  · rw [if_neg hin, decide_eq_false hin]
    refine sCondT ?_
    refine sCall0 (hB _ _) ?_
    refine sStoreE (v := valV { kind := 4, num := 5, text := [] }) (AV.cells (valV { kind := 4, num := 5, text := [] })) (set_other (by first | assumption | simp | omega) (push_old (push_old (push_old push_last)))) rfl rfl rfl rfl ?_
    exact sRetCell (o := 0) rfl rfl (ptr_box (set_at (set_other (by first | assumption | simp | omega) (push_old (push_old (push_old push_last)))))) rfl rfl rfl (((((((Old.refl _).push _).push _).push _).push _).set (by first | assumption | exact Nat.le_refl _ | simp | omega) _).set (by first | assumption | exact Nat.le_refl _ | simp | omega) _)
end
end Go.AM

/- The walk of the reference's Group. Own work. -/
set_option linter.all false
set_option maxRecDepth 20000
namespace Go.AM

section
variable {C : CSpec} {GT : Nat → Option AV}

theorem rg_keys (H : Heap) (K : Post) (tv cv : AV) (cols : List Int) (col : Int) (hc : LstOf cv 1 (cols.map intV)) (hl : cols.length ≤ 12)
    (k : ∀ v H', Owns H H' v 2 ((keysOf cols).map keyV) → Old H H' → ∀ fr, restrictF fr [1, 0, 2, 7] = [(1, cv), (0, tv), (2, intV col), (7, v)] → K (.exit 0) fr H') :
    loopP C GT [8, 1, 7, 0, 2] b_sccref3_Group_0 K [(8, intV 0), (1, cv), (7, .lst (some true) 0 []), (0, tv), (2, intV col)] H := by
  refine sLoop (fun s : SPv => [(8, natV s.i), (1, cv), (7, s.v), (0, tv), (2, intV col)]) (fun s H' => Old H H' ∧ s.i ≤ cols.length ∧ Owns H H' s.v 2 ((keysOf (cols.take s.i)).map keyV)) (fun s => cols.length - s.i) ⟨0, .lst (some true) 0 []⟩ rfl
    ⟨Old.refl _, Nat.zero_le _, Owns.nil _ _ _⟩ (fun ⟨i, v⟩ H1 ⟨hO, hi, hown⟩ => ?_)
  simp only at hi hown
  dsimp only
  refine sLenO cols.length hc (by simp) ?_
  refine sCond (fun hlt => ?_) (fun hlt => ?_)
  · have hlt : i < cols.length := by have := of_decide_eq_true hlt; omega
    have hci : cols[i]? = some cols[i] := List.getElem?_eq_getElem hlt
    refine sIdxO i (intV cols[i]) hc rfl (by rw [List.getElem?_map, hci]; rfl) ?_
    refine sLoadL (intV cols[i]) rfl ?_
    refine sOpt (v := [intV cols[i], AV.bool false]) rfl ?_
    refine sBslice (vs' := [AV.agg [intV cols[i], AV.bool false]]) rfl rfl ?_
    refine sAppend (H0 := H) (hown.push _) (hO.push _) view_new (by omega) ?_ (by simp) (fun v' H' ho' hO' hblk hfr => ?_)
    · simp only [keysOf, List.length_map, List.length_take, List.length_cons, List.length_nil]; omega
    refine sW64n (r := i + 1) rfl (by omega) ?_
    refine sNext (SPv.mk (i + 1) v') rfl ⟨hO', by simp only; omega, ?_⟩ (by simp only; omega)
    have e : (keysOf (cols.take (i + 1))).map keyV = (keysOf (cols.take i)).map keyV ++ [keyV ⟨cols[i], false⟩] := by
      rw [List.take_succ_eq_append_getElem hlt]; simp only [keysOf, List.map_append, List.map_cons, List.map_nil]
    simp only [e]
    exact ho'
  · have hge : i = cols.length := by have := of_decide_eq_false hlt; omega
    subst hge
    rw [List.take_length] at hown
    exact k v H1 hown hO _ rfl

structure SIs where
  k : Nat
  is : Bool

theorem rg_is (H : Heap) (K : Post) (tv cv lv fv ov : AV) (col : Int) (i x : Nat) (L F : List Nat) (hL : LstOf lv 1 (L.map nV)) (hF : LstOf fv 1 (F.map nV)) (hi : L[i]? = some x) (hl : F.length ≤ 1000)
    (k : ∀ fr, restrictF fr [9, 10, 1, 0, 2, 11, 12, 13] = [(9, lv), (10, fv), (1, cv), (0, tv), (2, intV col), (11, ov), (12, natV i), (13, .bool (F.any (· == x)))] → K (.exit 4) fr H) :
    loopP C GT [14, 12, 9, 10, 13, 1, 0, 2, 11] b_sccref3_Group_1 K [(14, intV 0), (12, natV i), (9, lv), (10, fv), (13, .bool false), (1, cv), (0, tv), (2, intV col), (11, ov)] H := by
  refine sLoop (fun s : SIs => [(14, natV s.k), (12, natV i), (9, lv), (10, fv), (13, .bool s.is), (1, cv), (0, tv), (2, intV col), (11, ov)]) (fun s H' => H' = H ∧ s.k ≤ F.length ∧ s.is = (F.take s.k).any (· == x)) (fun s => F.length - s.k) ⟨0, false⟩ rfl
    ⟨rfl, Nat.zero_le _, rfl⟩ (fun ⟨j, is⟩ H1 ⟨e, hj, his⟩ => ?_)
  subst e
  simp only at hj his
  dsimp only
  refine sLenO F.length hF (by simp) ?_
  refine sCond (fun hlt => ?_) (fun hlt => ?_)
  · have hlt : j < F.length := by have := of_decide_eq_true hlt; omega
    have hfj : F[j]? = some F[j] := List.getElem?_eq_getElem hlt
    have hst : (F.take (j + 1)).any (· == x) = (is || (F[j] == x)) := by
      rw [List.take_succ_eq_append_getElem hlt, List.any_append, ← his]; simp
    cases is
    · refine sCondF ?_
      refine sIdxO j (nV F[j]) hF rfl (by rw [List.getElem?_map, hfj]; rfl) ?_
      refine sLoadL (nV F[j]) rfl ?_
      refine sIdxO i (nV x) hL rfl (by rw [List.getElem?_map, hi]; rfl) ?_
      refine sLoadL (nV x) rfl ?_
      refine sCondF ?_
      have hbe : (((F[j] : Nat) : Int) == (x : Int)) = (F[j] == x) := by rw [Bool.eq_iff_iff, beq_iff_eq, beq_iff_eq]; omega
      refine sW64n (r := j + 1) rfl (by omega) ?_
      exact sNext (SIs.mk (j + 1) (((F[j] : Nat) : Int) == (x : Int))) rfl ⟨rfl, by simp only; omega, by simp only [hst, hbe]; simp⟩ (by simp only; omega)
    · refine sCondT ?_
      refine sCondT ?_
      refine sW64n (r := j + 1) rfl (by omega) ?_
      refine sNext (SIs.mk (j + 1) true) rfl ⟨rfl, by simp only; omega, by simp only [hst]; simp⟩ (by simp only; omega)
  · have hge : j = F.length := by have := of_decide_eq_false hlt; omega
    subst hge
    rw [List.take_length] at his
    refine k _ ?_
    rw [← his]; rfl

theorem rg_key (H : Heap) (K : Post) (b : Nat) (hbl : H.length ≤ b) (tv cv lv fv ov : AV) (t : List Row) (cols : List Int) (col : Int) (i x : Nat) (L : List Nat) (G : Heap) (hG : Old H G) (hb : G[b]? = some (.box [.lst (some true) 0 [], intV 0, intV 0, intV 0, .str []]))
    (ht : TabOf H tv t) (hc : LstOf cv 1 (cols.map intV)) (hl : cols.length ≤ 12) (hL : LstOf lv 1 (L.map nV)) (hi : L[i]? = some x) (hxt : x < t.length) (hin : ∀ c ∈ cols, ∃ j : Nat, c = j ∧ j < t[x].length)
    (k : ∀ v H', Owns H H' v 3 ((keyVals t cols x).map valV) → Old H H' → H'[b]? = some (.box [v, intV 0, intV 0, intV 0, .str []]) →
      ∀ fr, restrictF fr [2, 0, 15, 1, 12, 9, 10, 11] = [(2, intV col), (0, tv), (15, .ref b 0 0 0), (1, cv), (12, natV i), (9, lv), (10, fv), (11, ov)] → K (.exit 6) fr H') :
    loopP C GT [16, 15, 1, 12, 9, 0, 2, 10, 11] b_sccref3_Group_2 K [(16, intV 0), (15, .ref b 0 0 0), (1, cv), (12, natV i), (9, lv), (0, tv), (2, intV col), (10, fv), (11, ov)] G := by
  obtain ⟨rows, hrv, hrl, hrg⟩ := ht
  have htx : t[x]? = some t[x] := List.getElem?_eq_getElem hxt
  obtain ⟨xa, hxa, hxr⟩ := hrg x _ htx
  refine sLoop (fun s : SPv => [(16, natV s.i), (15, .ref b 0 0 0), (1, cv), (12, natV i), (9, lv), (0, tv), (2, intV col), (10, fv), (11, ov)])
    (fun s H' => Old H H' ∧ s.i ≤ cols.length ∧ Owns H H' s.v 3 ((keyVals t (cols.take s.i) x).map valV) ∧ H'[b]? = some (.box [s.v, intV 0, intV 0, intV 0, .str []])) (fun s => cols.length - s.i) ⟨0, .lst (some true) 0 []⟩ rfl
    ⟨hG, Nat.zero_le _, Owns.nil _ _ _, hb⟩ (fun ⟨m, v⟩ H1 ⟨hO, hm, hown, hb1⟩ => ?_)
  simp only at hm hown hb1
  dsimp only
  refine sLenO cols.length hc (by simp) ?_
  refine sCond (fun hlt => ?_) (fun hlt => ?_)
  · have hlt : m < cols.length := by have := of_decide_eq_true hlt; omega
    have hci : cols[m]? = some cols[m] := List.getElem?_eq_getElem hlt
    obtain ⟨j, hj, hjl⟩ := hin cols[m] (List.getElem_mem hlt)
    have hxj : t[x][j]? = some t[x][j] := List.getElem?_eq_getElem hjl
    have hcell : cellAt t cols[m] x = t[x][j] := by
      unfold cellAt; rw [List.getD_eq_getElem?_getD (l := t), htx, hj]; simp [hjl]
    have e : (keyVals t (cols.take (m + 1)) x).map valV = (keyVals t (cols.take m) x).map valV ++ [valV t[x][j]] := by
      rw [List.take_succ_eq_append_getElem hlt]; simp only [keyVals, List.map_append, List.map_cons, List.map_nil, hcell]
    refine sIdxO i (nV x) hL rfl (by rw [List.getElem?_map, hi]; rfl) ?_
    refine sLoadL (nV x) rfl ?_
    refine sIdxV x xa (view_old hO hrv) rfl hxa (fun p hp => ?_)
    refine sLoadP xa hp (by obtain ⟨q, k, rfl, _⟩ := hxr; rfl) ?_
    refine sIdxO m (intV cols[m]) hc rfl (by rw [List.getElem?_map, hci]; rfl) ?_
    refine sLoadL (intV cols[m]) rfl ?_
    refine sIdxO j (valV t[x][j]) hxr hj (by rw [List.getElem?_map, hxj]; rfl) ?_
    refine sLoadL (valV t[x][j]) rfl ?_
    have fin : ∀ v' H', Owns H H' v' 3 ((keyVals t (cols.take m) x).map valV ++ [valV t[x][j]]) → Old H H' → H'[b]? = some (.box [v, intV 0, intV 0, intV 0, .str []]) →
        Old H (H'.set b (.box [v', intV 0, intV 0, intV 0, .str []])) ∧ m + 1 ≤ cols.length ∧ Owns H (H'.set b (.box [v', intV 0, intV 0, intV 0, .str []])) v' 3 ((keyVals t (cols.take (m + 1)) x).map valV) ∧ (H'.set b (.box [v', intV 0, intV 0, intV 0, .str []]))[b]? = some (.box [v', intV 0, intV 0, intV 0, .str []]) := by
      intro v' H' h1 h2 h3
      refine ⟨h2.set hbl _, by omega, ?_, set_at h3⟩
      rw [e]
      exact h1.set (h1.ne_box h3) _
    have hll : ((keyVals t (cols.take m) x).map valV).length + [valV t[x][j]].length ≤ 137438953472 := by
      simp only [keyVals, List.length_map, List.length_take, List.length_cons, List.length_nil]; omega
    have hst : ∀ (v' : AV) (H' : Heap), Owns H H' v' 3 ((keyVals t (cols.take m) x).map valV ++ [valV t[x][j]]) → H'[b]? = some (.box [v, intV 0, intV 0, intV 0, .str []]) → ∀ K : AV → Heap → Prop, K .undef (H'.set b (.box [v', intV 0, intV 0, intV 0, .str []])) → actP (.store 1) [.ref b 0 0 0, v'] H' K := by
      intro v' H' ho h3 K q
      have hv1 : v'.cells = [v'] ∧ v'.one = true := ho.one
      refine sStoreBox h3 (by rw [hv1.1]; rfl) (by rw [hv1.1]; simp [hv1.2]) (by simp) ?_
      rw [hv1.1]; exact q
    refine sAlt ?_ ?_
    · refine sLoadBox v hb1 rfl ?_
      refine sBslice (vs' := [valV t[x][j]]) rfl rfl ?_
      refine sAppend (H0 := H) (hown.push _) (hO.push _) view_new (by omega) hll (by simp) (fun v' H' ho' hO' hblk hfr => ?_)
      have hb2 := hfr b _ (hown.ne_box hb1) (push_old hb1)
      refine hst v' H' ho' hb2 _ ?_
      refine sW64n (r := m + 1) rfl (by omega) ?_
      exact sNext (SPv.mk (m + 1) v') rfl (fin v' H' ho' hO' hb2) (by simp only; omega)
    · refine sBslice (vs' := [valV t[x][j]]) rfl rfl ?_
      refine sLoadBox v (push_old hb1) rfl ?_
      refine sAppend (H0 := H) (hown.push _) (hO.push _) view_new (by omega) hll (by simp) (fun v' H' ho' hO' hblk hfr => ?_)
      have hb2 := hfr b _ (hown.ne_box hb1) (push_old hb1)
      refine hst v' H' ho' hb2 _ ?_
      refine sW64n (r := m + 1) rfl (by omega) ?_
      exact sNext (SPv.mk (m + 1) v') rfl (fin v' H' ho' hO' hb2) (by simp only; omega)
  · have hge : m = cols.length := by have := of_decide_eq_false hlt; omega
    subst hge
    rw [List.take_length] at hown
    exact k v H1 hown hO hb1 _ rfl

def clsTo (t : List Row) (cols : List Int) (x n : Nat) : List Nat := (List.range n).filter fun k => alikeR (t.getD k []) (t.getD x []) cols
theorem clsTo_succ (t : List Row) (cols : List Int) (x n : Nat) : clsTo t cols x (n + 1) = if alikeR (t.getD n []) (t.getD x []) cols = true then clsTo t cols x n ++ [n] else clsTo t cols x n := by
  unfold clsTo
  rw [List.range_succ, List.filter_append]
  simp only [List.filter_cons, List.filter_nil]
  split <;> simp
theorem clsTo_len (t : List Row) (cols : List Int) (x n : Nat) : (clsTo t cols x n).length ≤ n := by
  unfold clsTo; exact Nat.le_trans (List.length_filter_le _ _) (by simp)

set_option maxHeartbeats 1000000 in
theorem rg_all (hA : ∀ xa xb cv (a b : Row) cols H, RowOf xa a → RowOf xb b → view H 1 cv = some (cols.map intV) → (∀ c ∈ cols, 0 ≤ c ∧ c < (a.length : Int)) → (∀ c ∈ cols, 0 ≤ c ∧ c < (b.length : Int)) → cols.length ≤ 1000000 → C f_sccref3_Alike [xa, xb, cv] H (.bool (alikeR a b cols)) H)
    (H : Heap) (K : Post) (b : Nat) (hbl : H.length ≤ b) (tv cv lv fv ov gv : AV) (gs : List AV) (t : List Row) (cols : List Int) (col : Int) (i x : Nat) (L : List Nat) (G : Heap) (hG : Old H G) (hgv : Owns H G gv 3 gs) (hb : G[b]? = some (.box [gv, intV 0, intV 0, intV 0, .str []]))
    (ht : TabOf H tv t) (hc : LstOf cv 1 (cols.map intV)) (hl : cols.length ≤ 12) (hL : LstOf lv 1 (L.map nV)) (hi : L[i]? = some x) (hxt : x < t.length) (h60 : t.length ≤ 60)
    (hin : ∀ (i : Nat) (r : Row), t[i]? = some r → ∀ c ∈ cols, 0 ≤ c ∧ c < (r.length : Int)) (hcol : ∀ (i : Nat) (r : Row), t[i]? = some r → 0 ≤ col ∧ col < (r.length : Int))
    (k : ∀ v H', Owns H H' v 3 (((clsTo t cols x t.length).map (cellAt t col)).map valV) → Owns H H' gv 3 gs → (∀ c, v.blk = some c → gv.blk ≠ some c) → Old H H' → H'[b]? = some (.box [gv, natV (clsTo t cols x t.length).length, intV 0, intV 0, .str []]) →
      ∀ fr, restrictF fr [9, 10, 1, 0, 2, 12, 15, 11, 17] = [(9, lv), (10, fv), (1, cv), (0, tv), (2, intV col), (12, natV i), (15, .ref b 0 0 0), (11, ov), (17, v)] → K (.exit 8) fr H') :
    loopP C GT [18, 2, 0, 17, 15, 1, 12, 9, 10, 11] b_sccref3_Group_3 K [(18, intV 0), (2, intV col), (0, tv), (17, .lst (some true) 0 []), (15, .ref b 0 0 0), (1, cv), (12, natV i), (9, lv), (10, fv), (11, ov)] G := by
  obtain ⟨rows, hrv, hrl, hrg⟩ := ht
  have htx : t[x]? = some t[x] := List.getElem?_eq_getElem hxt
  obtain ⟨xb, hxb, hxbr⟩ := hrg x _ htx
  have hgx : t.getD x [] = t[x] := by rw [List.getD_eq_getElem?_getD, htx]; rfl
  refine sLoop (fun s : SPv => [(18, natV s.i), (2, intV col), (0, tv), (17, s.v), (15, .ref b 0 0 0), (1, cv), (12, natV i), (9, lv), (10, fv), (11, ov)])
    (fun s H' => Old H H' ∧ s.i ≤ t.length ∧ Owns H H' s.v 3 (((clsTo t cols x s.i).map (cellAt t col)).map valV) ∧ Owns H H' gv 3 gs ∧ (∀ c, s.v.blk = some c → gv.blk ≠ some c) ∧ H'[b]? = some (.box [gv, natV (clsTo t cols x s.i).length, intV 0, intV 0, .str []])) (fun s => t.length - s.i) ⟨0, .lst (some true) 0 []⟩ rfl
    ⟨hG, Nat.zero_le _, Owns.nil _ _ _, hgv, (fun c h => by cases h), hb⟩ (fun ⟨m, v⟩ H1 ⟨hO, hm, hown, hgo, hap, hb1⟩ => ?_)
  simp only at hm hown hgo hap hb1
  dsimp only
  refine sLenN t.length (view_old hO hrv) hrl ?_
  refine sCond (fun hlt => ?_) (fun hlt => ?_)
  · have hlt : m < t.length := by have := of_decide_eq_true hlt; omega
    have htm : t[m]? = some t[m] := List.getElem?_eq_getElem hlt
    have hgm : t.getD m [] = t[m] := by rw [List.getD_eq_getElem?_getD, htm]; rfl
    obtain ⟨xm, hxm, hxmr⟩ := hrg m _ htm
    have hcs := clsTo_succ t cols x m
    rw [hgx, hgm] at hcs
    have hcl := clsTo_len t cols x m
    have hal := hA xm xb cv t[m] t[x] cols H1 hxmr hxbr (hc.view H1) (hin m _ htm) (hin x _ htx) (by omega)
    refine sIdxV m xm (view_old hO hrv) rfl hxm (fun p hp => ?_)
    refine sLoadP xm hp (by obtain ⟨q, k, rfl, _⟩ := hxmr; rfl) ?_
    refine sIdxO i (nV x) hL rfl (by rw [List.getElem?_map, hi]; rfl) ?_
    refine sLoadL (nV x) rfl ?_
    refine sIdxV x xb (view_old hO hrv) rfl hxb (fun p2 hp2 => ?_)
    refine sLoadP xb hp2 (by obtain ⟨q, k, rfl, _⟩ := hxbr; rfl) ?_
    refine sCall0 hal ?_
    refine sCond (fun ha => ?_) (fun ha => ?_)
    · rw [if_pos ha] at hcs
      obtain ⟨c0, c1⟩ := hcol m _ htm
      obtain ⟨j, hj⟩ : ∃ j : Nat, col = j := ⟨col.toNat, by omega⟩
      have hjl : j < t[m].length := by omega
      have hxj : t[m][j]? = some t[m][j] := List.getElem?_eq_getElem hjl
      have hcell : cellAt t col m = t[m][j] := by
        unfold cellAt; rw [hgm, hj]; simp [hjl]
      have e : ((clsTo t cols x (m + 1)).map (cellAt t col)).map valV = ((clsTo t cols x m).map (cellAt t col)).map valV ++ [valV t[m][j]] := by
        rw [hcs]; simp only [List.map_append, List.map_cons, List.map_nil, hcell]
      have e2 : (clsTo t cols x (m + 1)).length = (clsTo t cols x m).length + 1 := by rw [hcs]; simp
      have hb2 : (H1.set b (.box [gv, natV ((clsTo t cols x m).length + 1), intV 0, intV 0, .str []]))[b]? = some (.box [gv, natV ((clsTo t cols x m).length + 1), intV 0, intV 0, .str []]) := set_at hb1
      have hown2 := hown.set (hown.ne_box hb1) (.box [gv, natV ((clsTo t cols x m).length + 1), intV 0, intV 0, .str []])
      have hgo2 := hgo.set (hgo.ne_box hb1) (.box [gv, natV ((clsTo t cols x m).length + 1), intV 0, intV 0, .str []])
      have hO2 : Old H (H1.set b (.box [gv, natV ((clsTo t cols x m).length + 1), intV 0, intV 0, .str []])) := hO.set hbl _
      have hg1 := hgo.one
      refine sLoadBox (natV (clsTo t cols x m).length) hb1 rfl ?_
      refine sW64n (r := (clsTo t cols x m).length + 1) rfl (by omega) ?_
      refine sStoreE (v := natV ((clsTo t cols x m).length + 1)) [gv, natV ((clsTo t cols x m).length + 1), intV 0, intV 0, .str []] hb1 rfl rfl rfl rfl ?_
      refine sIdxV m xm (view_old hO2 hrv) rfl hxm (fun p hp => ?_)
      refine sLoadP xm hp (by obtain ⟨q, k, rfl, _⟩ := hxmr; rfl) ?_
      refine sIdxO j (valV t[m][j]) hxmr hj (by rw [List.getElem?_map, hxj]; rfl) ?_
      refine sLoadL (valV t[m][j]) rfl ?_
      refine sBslice (vs' := [valV t[m][j]]) rfl rfl ?_
      refine sAppend (H0 := H) (hown2.push _) (hO2.push _) view_new (by omega) ?_ (by simp) (fun v' H' ho' hO' hblk hfr => ?_)
      · simp only [List.length_map, List.length_cons, List.length_nil]; omega
      have hgo' : Owns H H' gv 3 gs := hgo2.keep fun c y hc hy => hfr c y (fun e => hap c e hc) (push_old hy)
      refine sW64n (r := m + 1) rfl (by omega) ?_
      refine sNext (SPv.mk (m + 1) v') rfl ⟨hO', by simp only; omega, by simp only [e]; exact ho', hgo', fun c hc hgc => ?_, ?_⟩ (by simp only; omega)
      · rw [hblk] at hc
        simp only [Option.some.injEq] at hc
        have := (hgo2.lt hgc).2
        simp at hc this; omega
      · simp only [e2]
        exact hfr b _ (hown2.ne_box hb2) (push_old hb2)
    · rw [if_neg (by rw [ha]; simp)] at hcs
      refine sW64n (r := m + 1) rfl (by omega) ?_
      refine sNext (SPv.mk (m + 1) v) rfl ⟨hO, by simp only; omega, by simp only [hcs]; exact hown, hgo, hap, by simp only [hcs]; exact hb1⟩ (by simp only; omega)
  · have hge : m = t.length := by have := of_decide_eq_false hlt; omega
    subst hge
    exact k v H1 hown hgo hap hO hb1 _ rfl

structure SGg where
  i : Nat
  ov : AV

set_option maxHeartbeats 2000000 in
theorem rg_loop (hA : ∀ xa xb cv (a b : Row) cols H, RowOf xa a → RowOf xb b → view H 1 cv = some (cols.map intV) → (∀ c ∈ cols, 0 ≤ c ∧ c < (a.length : Int)) → (∀ c ∈ cols, 0 ≤ c ∧ c < (b.length : Int)) → cols.length ≤ 1000000 → C f_sccref3_Alike [xa, xb, cv] H (.bool (alikeR a b cols)) H)
    (hS : ∀ b l H, H[b]? = some (.row 3 (l.map valV)) → l.length ≤ 1000 → (∀ v ∈ l, In64 v.num) → C f_sccref3_Sum [.sl (some true) b 3 0 l.length] H (valV (sumL l)) H)
    (H : Heap) (K : Post) (tv cv lv fv : AV) (t : List Row) (cols : List Int) (col : Int) (L : List Nat) (ht : TabOf H tv t) (hc : LstOf cv 1 (cols.map intV)) (hl : cols.length ≤ 12) (hL : LstOf lv 1 (L.map nV)) (hF : LstOf fv 1 ((ids t (keysOf cols) t.length).map nV))
    (hLt : ∀ x ∈ L, x < t.length) (hLl : L.length = t.length) (h60 : t.length ≤ 60) (hFl : (ids t (keysOf cols) t.length).length ≤ 1000)
    (hin : ∀ (i : Nat) (r : Row), t[i]? = some r → ∀ c ∈ cols, 0 ≤ c ∧ c < (r.length : Int)) (hcol : ∀ (i : Nat) (r : Row), t[i]? = some r → 0 ≤ col ∧ col < (r.length : Int)) (hrg : ∀ (i : Nat) (r : Row), t[i]? = some r → ∀ v ∈ r, In64 v.num)
    (k : ∀ v H', Owns H H' v 5 ((refGL t cols col L).map grpV) → Old H H' → ∀ fr, restrictF fr [11] = [(11, v)] → K (.exit 2) fr H') :
    loopP C GT [12, 9, 10, 1, 0, 2, 11] b_sccref3_Group_4 K [(12, intV 0), (9, lv), (10, fv), (1, cv), (0, tv), (2, intV col), (11, .lst (some true) 0 [])] H := by
  refine sLoop (fun s : SGg => [(12, natV s.i), (9, lv), (10, fv), (1, cv), (0, tv), (2, intV col), (11, s.ov)])
    (fun s H' => Old H H' ∧ s.i ≤ L.length ∧ Owns H H' s.ov 5 ((refGL t cols col (L.take s.i)).map grpV)) (fun s => L.length - s.i) ⟨0, .lst (some true) 0 []⟩ rfl
    ⟨Old.refl _, Nat.zero_le _, Owns.nil _ _ _⟩ (fun ⟨i, ov⟩ H1 ⟨hO, hi, hown⟩ => ?_)
  simp only at hi hown
  dsimp only
  refine sLenO L.length hL (by simp) ?_
  refine sCond (fun hlt => ?_) (fun hlt => ?_)
  case refine_2 =>
    have hge : i = L.length := by have := of_decide_eq_false hlt; omega
    subst hge
    rw [List.take_length] at hown
    exact k ov H1 hown hO _ rfl
  have hlt : i < L.length := by have := of_decide_eq_true hlt; omega
  have hLi : L[i]? = some L[i] := List.getElem?_eq_getElem hlt
  obtain ⟨x, hxd⟩ : ∃ x, L[i] = x := ⟨_, rfl⟩
  rw [hxd] at hLi
  have hxt := hLt x (List.mem_of_getElem? hLi)
  have htx : t[x]? = some t[x] := List.getElem?_eq_getElem hxt
  have hst : refGL t cols col (L.take (i + 1)) = if x ∈ ids t (keysOf cols) t.length then refGL t cols col (L.take i) ++ [refG t cols col x] else refGL t cols col (L.take i) := by
    unfold refGL
    rw [List.take_succ_eq_append_getElem hlt, hxd, List.filter_append, List.map_append]
    by_cases h : x ∈ ids t (keysOf cols) t.length
    · rw [if_pos h]; simp [h]
    · rw [if_neg h]; simp [h]
  have hany : (ids t (keysOf cols) t.length).any (· == x) = decide (x ∈ ids t (keysOf cols) t.length) := by
    rw [Bool.eq_iff_iff, List.any_eq_true, decide_eq_true_iff]
    exact ⟨fun ⟨y, hy, e⟩ => by rw [← eq_of_beq e]; exact hy, fun h => ⟨x, h, by simp⟩⟩
  have hgl : (refGL t cols col (L.take i)).length ≤ i := by
    unfold refGL
    rw [List.length_map]
    exact Nat.le_trans (List.length_filter_le _ _) (by rw [List.length_take]; omega)
  refine rg_is H1 _ tv cv lv fv ov col i x L _ hL hF hLi hFl (fun fr hfr => ?_)
  refine sBlk hfr ?_
  rw [hany]
  by_cases hx : x ∈ ids t (keysOf cols) t.length
  case neg =>
    rw [decide_eq_false hx]
    rw [if_neg hx] at hst
    refine sCondT ?_
    refine sW64n (r := i + 1) rfl (by omega) ?_
    exact sNext (SGg.mk (i + 1) ov) rfl ⟨hO, by simp only; omega, by simp only [hst]; exact hown⟩ (by simp only; omega)
  rw [decide_eq_true hx]
  rw [if_pos hx] at hst
  have hin2 : ∀ c ∈ cols, ∃ j : Nat, c = j ∧ j < t[x].length := fun c hc => by
    obtain ⟨h1, h2⟩ := hin x _ htx c hc
    exact ⟨c.toNat, by omega, by omega⟩
  refine sCondF ?_
  refine sOpt (v := [AV.lst (some true) 0 [], AV.int IntKind.i64 0, AV.int IntKind.i64 0, AV.int IntKind.i64 0, AV.str []]) rfl ?_
  refine sStoreE (v := AV.agg [AV.lst (some true) 0 [], AV.int IntKind.i64 0, AV.int IntKind.i64 0, AV.int IntKind.i64 0, AV.str []]) (AV.cells (AV.agg [AV.lst (some true) 0 [], AV.int IntKind.i64 0, AV.int IntKind.i64 0, AV.int IntKind.i64 0, AV.str []])) push_last rfl rfl rfl rfl ?_
  refine rg_key H1 _ H1.length (Nat.le_refl _) tv cv lv fv ov t cols col i x L _ ((Old.refl H1).pushSet _ _) (set_at push_last) (ht.old hO) hc hl hL hLi hxt hin2 (fun gv H2 hgo hO2 hb2 fr hfr => ?_)
  refine sBlk hfr ?_
  refine rg_all hA H1 _ H1.length (Nat.le_refl _) tv cv lv fv ov gv _ t cols col i x L H2 hO2 hgo hb2 (ht.old hO) hc hl hL hLi hxt h60 hin hcol (fun v3 H3 hown3 hgo3 hap3 hO3 hb3 fr hfr => ?_)
  refine sBlk hfr ?_
  have hcls : clsTo t cols x t.length = classL t cols x := rfl
  rw [hcls] at hown3 hb3
  have hxc : x ∈ classL t cols x := by
    unfold classL
    rw [List.mem_filter, List.mem_range]
    exact ⟨hxt, by rw [alike_same]; exact same_refl x⟩
  have hcl : (classL t cols x).length ≤ 60 := by
    unfold classL; exact Nat.le_trans (List.length_filter_le _ _) (by simp; omega)
  obtain ⟨b3, rfl, hbl3, hrow3⟩ : ∃ b3, v3 = .sl (some true) b3 3 0 ((classL t cols x).map (cellAt t col)).length ∧ H1.length ≤ b3 ∧ H3[b3]? = some (.row 3 (((classL t cols x).map (cellAt t col)).map valV)) := by
    rcases hown3 with ⟨_, h⟩ | ⟨b3, h1, h2, h3, _⟩
    · exfalso
      have : classL t cols x = [] := by simpa using h
      rw [this] at hxc; cases hxc
    · exact ⟨b3, by rw [h1, List.length_map], h2, h3⟩
  have hsum := hS b3 _ H3 hrow3 (by rw [List.length_map]; omega) (fun v hv => by
    obtain ⟨m, hm, rfl⟩ := List.mem_map.1 hv
    have hmt : m < t.length := by
      unfold classL at hm
      exact List.mem_range.1 (List.mem_filter.1 hm).1
    have htm : t[m]? = some t[m] := List.getElem?_eq_getElem hmt
    obtain ⟨c0, c1⟩ := hcol m _ htm
    have hjl : col.toNat < t[m].length := by omega
    refine hrg m _ htm _ ?_
    unfold cellAt
    rw [List.getD_eq_getElem?_getD (l := t), htm]
    simp [hjl])
  obtain ⟨s, hs⟩ : ∃ s, sumL ((classL t cols x).map (cellAt t col)) = s := ⟨_, rfl⟩
  rw [hs] at hsum
  obtain ⟨n, hn⟩ : ∃ n, (classL t cols x).length = n := ⟨_, rfl⟩
  rw [hn] at hb3
  have hg1 := hgo3.one
  refine sCall0 hsum ?_
  refine sStoreE (v := valV s) [gv, natV n, intV s.kind, intV s.num, .str s.text] hb3 rfl rfl rfl rfl ?_
  refine sLoadBox (AV.agg [gv, natV n, intV s.kind, intV s.num, AV.str s.text]) (set_at hb3) rfl ?_
  have hv3 : Owns H1 (H3.set H1.length (.box [gv, natV n, intV s.kind, intV s.num, .str s.text])) gv 3 ((keyVals t cols x).map valV) := hgo3.set (hgo3.ne_box hb3) _
  have hO13 : Old H1 (H3.set H1.length (.box [gv, natV n, intV s.kind, intV s.num, .str s.text])) := hO3.set (Nat.le_refl _) _
  obtain ⟨H4, hf, hlen4, hkeep4, hold4⟩ := frzL_own (cs := [natV n, intV s.kind, intV s.num, .str s.text]) hv3 (fun H => rfl)
  have hO4 : Old H1 H4 := hold4 hO13
  have hov : Owns H H4 ov 5 ((refGL t cols col (L.take i)).map grpV) := hown.keep fun b y hb hy => by
    have hbl := (List.getElem?_eq_some_iff.1 hy).1
    refine hkeep4 b y (fun e => ?_) (set_other (by omega) (old_get hO3 hy))
    have := (hv3.lt e).1; omega
  refine sBsliceF [grpV ⟨keyVals t cols x, n, s⟩] H4 hf (by simp [grp_elem]) ?_
  refine sAppend (H0 := H) (hov.push _) ((hO.trans hO4).push _) view_new (by omega) (by simp; omega) (by simp) (fun v' H' ho' hO' hblk hfr => ?_)
  refine sW64n (r := i + 1) rfl (by omega) ?_
  refine sNext (SGg.mk (i + 1) v') rfl ⟨hO', by simp only; omega, ?_⟩ (by simp only; omega)
  simp only [hst, List.map_append, List.map_cons, List.map_nil]
  have : refG t cols col x = ⟨keyVals t cols x, n, s⟩ := by unfold refG; rw [hs, hn]
  rw [this]
  exact ho'

theorem group3_ev (hA : ∀ xa xb cv (a b : Row) cols H, RowOf xa a → RowOf xb b → view H 1 cv = some (cols.map intV) → (∀ c ∈ cols, 0 ≤ c ∧ c < (a.length : Int)) → (∀ c ∈ cols, 0 ≤ c ∧ c < (b.length : Int)) → cols.length ≤ 1000000 → C f_sccref3_Alike [xa, xb, cv] H (.bool (alikeR a b cols)) H)
    (hS : ∀ b l H, H[b]? = some (.row 3 (l.map valV)) → l.length ≤ 1000 → (∀ v ∈ l, In64 v.num) → C f_sccref3_Sum [.sl (some true) b 3 0 l.length] H (valV (sumL l)) H)
    (hSort : ∀ tv kv t ks H, TabOf H tv t → KeysAt H kv ks → colErr t (colsOf ks) = 0 → C f_sccref3_Sort [tv, kv] H (lstF 1 ((sortL t ks).map nV)) H)
    (hD : ∀ tv cv t cols H, TabOf H tv t → view H 1 cv = some (cols.map intV) → colErr t cols = 0 → C f_sccref3_Distinct [tv, cv] H (lstF 1 ((ids t (keysOf cols) t.length).map nV)) H)
    (tv cv : AV) (t : List Row) (cols : List Int) (col : Int) (H : Heap) (ht : TabOf H tv t) (hc : LstOf cv 1 (cols.map intV)) (he : colErr t cols = 0) (hok : colOK t col = true) (hrg : ∀ (i : Nat) (r : Row), t[i]? = some r → ∀ v ∈ r, In64 v.num) :
    EFun C GT a_sccref3_Group [tv, cv, intV col] H (lstF 5 ((refGL t cols col (sortL t (keysOf cols))).map grpV)) H := by
  obtain ⟨h60, h12, hwide, hin⟩ := tab_ok he
  have hkc : colsOf (keysOf cols) = cols := by unfold colsOf keysOf; rw [List.map_map]; exact List.map_id _
  refine efun_of ?_
  refine rg_keys H _ tv cv cols col hc h12 (fun kv H1 hown hO fr hfr => ?_)
  refine sBlk hfr ?_
  have hs := hSort tv kv t (keysOf cols) H1 (ht.old hO) (KeysAt.owns hown) (by rw [hkc]; exact he)
  have hd := hD tv cv t cols H1 (ht.old hO) (hc.view H1) he
  refine sCall0 (hs) ?_
  refine sCall0 (hd) ?_
  have hsl : (sortL t (keysOf cols)).length = t.length := srtL_len _ _
  refine rg_loop hA hS H1 _ tv cv _ _ t cols col (sortL t (keysOf cols)) (ht.old hO) hc h12 (lstF_of 1 _) (lstF_of 1 _) (fun x hx => ?_) hsl h60 ?_ hin (fun i r hr => ?_) hrg (fun v H2 hown2 hO2 fr hfr => ?_)
  · obtain ⟨j, hj⟩ := List.getElem?_of_mem hx
    exact (sortL_ok t (keysOf cols)).lt j x hj
  · have := ids_len t (keysOf cols) t.length
    omega
  · have h1 : 0 ≤ col ∧ col < (wideT t : Int) := by unfold colOK at hok; simpa using hok
    have := (hwide i r hr).1
    omega
  refine sBlk hfr ?_
  obtain ⟨H', hf, hO', _⟩ := (hown2.weaken hO.1).frz (hO.trans hO2)
  exact sRetF rfl rfl hf (lstF_bel _ _ _) hO'
end
end Go.AM

/- The walk of the law PickGroups. Own work. -/
set_option linter.all false
set_option maxRecDepth 20000
namespace Go.AM
section
variable {C : CSpec} {GT : Nat → Option AV}

theorem values_ev (va vb : AV) (xs ys : List Val) (H : Heap) (ha : LstOf va 3 (xs.map valV)) (hb : LstOf vb 3 (ys.map valV)) (hl : xs.length ≤ 9223372036854775807) : EFun C GT a_sccsame_Values [va, vb] H (.bool (decide (xs = ys))) H := by
  refine efun_of ?_
  refine sLenO xs.length ha (by simp) ?_
  refine sLenO ys.length hb (by simp) ?_
  refine sCond (fun h => ?_) (fun h => ?_)
  · have e : ¬ xs = ys := by intro e; subst e; simp at h
    rw [decide_eq_false e]
    exact sRetV rfl rfl rfl rfl (Old.refl _)
  have hlen : xs.length = ys.length := by simp only [bne_eq_false_iff_eq] at h; omega
  refine sLoop (σ := Nat) (fun i => [(5, .int .i64 i), (1, vb), (0, va)]) (fun i H1 => H1 = H ∧ i ≤ xs.length ∧ ∀ k, k < i → xs[k]? = ys[k]?) (fun i => xs.length - i) 0 rfl ⟨rfl, Nat.zero_le _, fun k h => absurd h (Nat.not_lt_zero _)⟩ (fun i H1 ⟨e, hi, hok⟩ => ?_)
  subst e
  dsimp only
  refine sLenO xs.length ha (by simp) ?_
  refine sCond (fun hlt => ?_) (fun hlt => ?_)
  · simp only [decide_eq_true_eq, Int.ofNat_lt] at hlt
    have hx : xs[i]? = some xs[i] := List.getElem?_eq_getElem hlt
    have hlt' : i < ys.length := by omega
    have hy : ys[i]? = some ys[i] := List.getElem?_eq_getElem hlt'
    generalize xs[i] = x at *
    generalize ys[i] = y at *
    have hxm : (xs.map valV)[i]? = some (valV x) := by rw [List.getElem?_map, hx]; rfl
    have hym : (ys.map valV)[i]? = some (valV y) := by rw [List.getElem?_map, hy]; rfl
    refine sIdxO i (valV x) ha rfl hxm ?_
    refine sLoadL (valV x) rfl ?_
    refine sIdxO i (valV y) hb rfl hym ?_
    refine sLoadL (valV y) rfl ?_
    refine sOpt (cells_val x y) ?_
    by_cases hne : x = y
    · rw [decide_eq_true hne]
      refine sCondF ?_
      refine sW64n (r := i + 1) rfl (by omega) ?_
      refine sNext (i + 1) rfl ⟨rfl, by omega, fun k hk => ?_⟩ (by omega)
      by_cases e : k = i
      · subst e; rw [hx, hy, hne]
      · exact hok k (by omega)
    · rw [decide_eq_false hne]
      have e : ¬ xs = ys := by
        intro e
        subst e
        rw [hx] at hy
        exact hne (Option.some.inj hy)
      rw [decide_eq_false e]
      refine sCondT ?_
      exact sRetV rfl rfl rfl rfl (Old.refl _)
  · simp only [decide_eq_false_iff_not, Int.ofNat_lt] at hlt
    have e : xs = ys := by
      apply List.ext_getElem?
      intro k
      by_cases hk : k < xs.length
      · exact hok k (by omega)
      · rw [List.getElem?_eq_none (by omega), List.getElem?_eq_none (by omega)]
    rw [decide_eq_true e]
    exact sRetV rfl rfl rfl rfl (Old.refl _)

theorem groups_ev (hCs : ∀ tv cv t cols H, TabOf H tv t → view H 1 cv = some (cols.map intV) → C f_sccref3_Columns [tv, cv] H (natV (colErr t cols)) H)
    (hCo : ∀ tv t c H, TabOf H tv t → C f_sccref3_Column [tv, intV c] H (.bool (colOK t c)) H)
    (hG3 : ∀ tv cv t cols col H, TabOf H tv t → LstOf cv 1 (cols.map intV) → colErr t cols = 0 → colOK t col = true → (∀ (i : Nat) (r : Row), t[i]? = some r → ∀ v ∈ r, In64 v.num) → C f_sccref3_Group [tv, cv, intV col] H (lstF 5 ((refGL t cols col (sortL t (keysOf cols))).map grpV)) H)
    (hG : ∀ tv cv t cols col H, TabOf H tv t → view H 1 cv = some (cols.map intV) → C f_pick_Group [tv, cv, intV col] H (groupV t cols col) H)
    (hE : ∀ x n e H, ErrIs x n → C f_sccsame_Error [x, .int .i64 e] H (.bool (n == e)) H)
    (hV : ∀ va vb (xs ys : List Val) H, LstOf va 3 (xs.map valV) → LstOf vb 3 (ys.map valV) → xs.length ≤ 9223372036854775807 → C f_sccsame_Values [va, vb] H (.bool (decide (xs = ys))) H)
    (tv cv : AV) (t : List Row) (cols : List Int) (col : Int) (H : Heap) (ht : TabOf H tv t) (hc : LstOf cv 1 (cols.map intV)) (hrg : ∀ (i : Nat) (r : Row), t[i]? = some r → ∀ v ∈ r, In64 v.num) :
    EFun C GT a_scclaw3_PickGroups [tv, cv, intV col] H (.bool true) H := by
  have h1 := hCs tv cv t cols H ht (hc.view H)
  have h2 := hCo tv t col H ht
  have h3 := hG tv cv t cols col H ht (hc.view H)
  have none' : ∀ n : Nat, C f_pick_Group [tv, cv, intV col] H (.tup [.lst (some true) 0 [], errV (n + 1 : Nat)]) H → C f_sccsame_Error [errV (n + 1 : Nat), natV (n + 1)] H (.bool true) H := fun n _ => by
    have := hE _ _ ((n + 1 : Nat) : Int) H (errN_is (n + 1)); rwa [beq_self_eq_true] at this
  by_cases he : colErr t cols = 0
  case neg =>
    obtain ⟨n, hn⟩ : ∃ n, colErr t cols = n + 1 := ⟨colErr t cols - 1, by omega⟩
    have e : groupV t cols col = .tup [.lst (some true) 0 [], errV (n + 1 : Nat)] := by unfold groupV; rw [if_pos he, hn]; rfl
    rw [e] at h3
    rw [hn] at h1
    have ee := none' n h3
    clear none' hG hE hCs hCo hG3 hV
    refine efun_of ?_
    refine sCall0 (h1) ?_
    refine sCall0 (h2) ?_
    refine sCondF ?_
    refine sCondF ?_
    refine sCondF ?_
    refine sCondF ?_
    refine sCall0 (h3) ?_
    refine sOpt rfl ?_
    refine sOpt rfl ?_
    refine sCall0 (ee) ?_
    refine sCondF ?_
    refine sLenO (k := 1) (xs := []) 0 ⟨_, _, rfl, .inr rfl⟩ rfl ?_
    refine sLenO (k := 1) (xs := []) 0 ⟨_, _, rfl, .inr rfl⟩ rfl ?_
    refine sCondF ?_
    refine sCondF ?_
    refine sLoop (σ := Unit) (fun _ => [(13, intV 0), (9, .lst (some true) 0 []), (10, .lst (some true) 0 [])]) (fun _ H' => H' = H) (fun _ => 0) () rfl rfl (fun _ H1 e => ?_)
    subst e
    dsimp only
    refine sLenO (k := 1) (xs := []) 0 ⟨_, _, rfl, .inr rfl⟩ rfl ?_
    refine sCondF ?_
    exact sRetV rfl rfl rfl rfl (Old.refl _)
  by_cases hok : colOK t col = true
  case neg =>
    have hok : colOK t col = false := by simpa using hok
    have e : groupV t cols col = .tup [.lst (some true) 0 [], errV (0 + 1 : Nat)] := by unfold groupV; rw [if_neg (by omega), if_pos hok]; rfl
    rw [e] at h3
    rw [he] at h1
    rw [hok] at h2
    have ee := none' 0 h3
    clear none' hG hE hCs hCo hG3 hV
    refine efun_of ?_
    refine sCall0 (h1) ?_
    refine sCall0 (h2) ?_
    refine sCondT ?_
    refine sCondT ?_
    refine sCondT ?_
    refine sCondF ?_
    refine sCall0 (h3) ?_
    refine sOpt rfl ?_
    refine sOpt rfl ?_
    refine sCall0 (ee) ?_
    refine sCondF ?_
    refine sLenO (k := 1) (xs := []) 0 ⟨_, _, rfl, .inr rfl⟩ rfl ?_
    refine sLenO (k := 1) (xs := []) 0 ⟨_, _, rfl, .inr rfl⟩ rfl ?_
    refine sCondF ?_
    refine sCondF ?_
    refine sLoop (σ := Unit) (fun _ => [(13, intV 0), (9, .lst (some true) 0 []), (10, .lst (some true) 0 [])]) (fun _ H' => H' = H) (fun _ => 0) () rfl rfl (fun _ H1 e => ?_)
    subst e
    dsimp only
    refine sLenO (k := 1) (xs := []) 0 ⟨_, _, rfl, .inr rfl⟩ rfl ?_
    refine sCondF ?_
    exact sRetV rfl rfl rfl rfl (Old.refl _)
  have e : groupV t cols col = .tup [lstF 5 ((refGL t cols col (sortL t (keysOf cols))).map grpV), .nili] := by
    unfold groupV; rw [if_neg (by omega), if_neg (by rw [hok]; simp), groups_are]
  rw [e] at h3
  rw [he] at h1
  rw [hok] at h2
  have h4 := hG3 tv cv t cols col H ht hc he hok hrg
  have ee : C f_sccsame_Error [.nili, natV 0] H (.bool true) H := by have := hE _ _ ((0 : Nat) : Int) H (errN_is 0); rwa [beq_self_eq_true] at this
  obtain ⟨h60, h12, _, _⟩ := tab_ok he
  have hkl : ∀ g ∈ refGL t cols col (sortL t (keysOf cols)), g.key.length ≤ 12 := fun g hg => by
    unfold refGL at hg
    obtain ⟨x, _, rfl⟩ := List.mem_map.1 hg
    simp only [refG, keyVals, List.length_map]; exact h12
  have hgl : (refGL t cols col (sortL t (keysOf cols))).length ≤ 60 := by
    have hsl : (sortL t (keysOf cols)).length = t.length := srtL_len _ _
    unfold refGL
    rw [List.length_map]
    exact Nat.le_trans (List.length_filter_le _ _) (by omega)
  clear none' hG hE hCs hCo hG3 e
  generalize refGL t cols col (sortL t (keysOf cols)) = gs at *
  have hL := lstF_of 5 (gs.map grpV)
  generalize lstF 5 (gs.map grpV) = gv at *
  have hLl : (gs.map grpV).length = gs.length := by simp
  refine efun_of ?_
  refine sCall0 (h1) ?_
  refine sCall0 (h2) ?_
  refine sCondT ?_
  refine sCondT ?_
  refine sCondF ?_
  refine sCondT ?_
  refine sCall0 (h4) ?_
  refine sCall0 (h3) ?_
  refine sOpt rfl ?_
  refine sOpt rfl ?_
  refine sCall0 (ee) ?_
  refine sCondF ?_
  refine sLenO gs.length hL hLl ?_
  refine sLenO gs.length hL hLl ?_
  refine sCondF ?_
  refine sCond (fun h => absurd h (by simp)) (fun _ => ?_)
  refine sLoop (σ := Nat) (fun i => [(13, natV i), (9, gv), (10, gv)]) (fun i H1 => H1 = H ∧ i ≤ gs.length) (fun i => gs.length - i) 0 rfl ⟨rfl, Nat.zero_le _⟩ (fun i H1 ⟨e, hi⟩ => ?_)
  subst e
  dsimp only
  refine sLenO gs.length hL hLl ?_
  refine sCond (fun hlt => ?_) (fun hlt => ?_)
  · have hlt : i < gs.length := by have := of_decide_eq_true hlt; omega
    have hgi : gs[i]? = some gs[i] := List.getElem?_eq_getElem hlt
    obtain ⟨g, hgd⟩ : ∃ g, gs[i] = g := ⟨_, rfl⟩
    rw [hgd] at hgi
    have hgm : (gs.map grpV)[i]? = some (grpV g) := by rw [List.getElem?_map, hgi]; rfl
    have hvl := hV (lstF 3 (g.key.map valV)) (lstF 3 (g.key.map valV)) g.key g.key H1 (lstF_of _ _) (lstF_of _ _) (by have := hkl g (List.mem_of_getElem? hgi); omega)
    rw [decide_eq_true rfl] at hvl
    have hcv := cells_val g.sum g.sum
    rw [decide_eq_true rfl] at hcv
    refine sIdxO i (grpV g) hL rfl hgm ?_
    refine sLoadL (lstF 3 (g.key.map valV)) rfl ?_
    refine sIdxO i (grpV g) hL rfl hgm ?_
    refine sLoadL (lstF 3 (g.key.map valV)) rfl ?_
    refine sCall0 (hvl) ?_
    refine sCondF ?_
    refine sIdxO i (grpV g) hL rfl hgm ?_
    refine sLoadL (natV g.count) rfl ?_
    refine sIdxO i (grpV g) hL rfl hgm ?_
    refine sLoadL (natV g.count) rfl ?_
    refine sCondF ?_
    refine sCond (fun h => absurd h (by simp)) (fun _ => ?_)
    refine sIdxO i (grpV g) hL rfl hgm ?_
    refine sLoadL (valV g.sum) rfl ?_
    refine sIdxO i (grpV g) hL rfl hgm ?_
    refine sLoadL (valV g.sum) rfl ?_
    refine sOpt hcv ?_
    refine sCondF ?_
    refine sCondF ?_
    refine sW64n (r := i + 1) rfl (by omega) ?_
    exact sNext (i + 1) rfl ⟨rfl, by omega⟩ (by omega)
  · exact sRetV rfl rfl rfl rfl (Old.refl _)
end
end Go.AM
