/- The plain law of PickCounts. Own work. -/
import Derived.Test.YtaijlknbeapnhaaDoorGr2
import Derived.Test.YtaijlknbeapnhaaDoorSo2
import Derived.Test.YtaijlknbeapnhaaDoorSst
set_option linter.all false
namespace Go.AM

/-! ### Counts, keys -/

theorem grpL_count (t : List Row) (cols : List Int) (col : Int) : ∀ m l, l.length ≤ m → ((grpL t cols col m l).map (·.count)).sum = l.length
  | 0, l, h => by rw [List.length_eq_zero_iff.1 (Nat.le_zero.1 h)]; rfl
  | m + 1, [], _ => rfl
  | m + 1, x :: l, h => by
    have hr := runL_le t (keysOf cols) x l
    simp only [List.length_cons] at h
    simp only [grpL, List.map_cons, List.sum_cons, List.length_cons]
    rw [grpL_count t cols col m _ (by simp; omega)]
    simp only [List.length_drop]; omega
theorem grpL_each (t : List Row) (cols : List Int) (col : Int) : ∀ m l, ∀ g ∈ grpL t cols col m l, 1 ≤ g.count ∧ g.key.length = cols.length
  | 0, _, g, h => by simp [grpL] at h
  | m + 1, [], g, h => by simp [grpL] at h
  | m + 1, x :: l, g, h => by
    simp only [grpL, List.mem_cons] at h
    rcases h with rfl | h
    · exact ⟨by simp, by simp [keyVals]⟩
    · exact grpL_each t cols col m _ g h

/-- The first of the places at which two rows of values differ. -/
def cmpL : List Val → List Val → Int
  | a :: l, b :: r => if (cmpV a b != 0) = true then cmpV a b else cmpL l r
  | _, _ => 0
theorem cmpL_keys (t : List Row) (x y : Nat) : ∀ cols, cmpL (keyVals t cols x) (keyVals t cols y) = cmpK (t.getD x []) (t.getD y []) (keysOf cols)
  | [] => rfl
  | c :: cols => by
    have := cmpL_keys t x y cols
    simp only [keyVals] at this
    simp only [keyVals, List.map_cons, cmpL, keysOf, cmpK, keyC, cellAt]
    simp only [keysOf, cellAt] at this
    rw [this]
    simp

/-- From group to group the keys rise. -/
theorem grpL_head (t : List Row) (cols : List Int) (col : Int) : ∀ m l g, (grpL t cols col m l)[0]? = some g → ∃ x, l[0]? = some x ∧ g.key = keyVals t cols x
  | 0, _, g, h => by simp [grpL] at h
  | m + 1, [], g, h => by simp [grpL] at h
  | m + 1, x :: l, g, h => by
    simp only [grpL, List.getElem?_cons_zero, Option.some.injEq] at h
    subst h; exact ⟨x, rfl, rfl⟩
theorem grpL_rise (t : List Row) (cols : List Int) (col : Int) : ∀ m l, l.Pairwise (Bef (rowLt t (keysOf cols))) → ∀ i g g', (grpL t cols col m l)[i]? = some g → (grpL t cols col m l)[i + 1]? = some g' → cmpL g.key g'.key < 0
  | 0, _, _, i, g, g', h, _ => by simp [grpL] at h
  | m + 1, [], _, i, g, g', h, _ => by simp [grpL] at h
  | m + 1, x :: l, hp, i, g, g', h, h' => by
    simp only [grpL] at h h'
    rw [List.getElem?_cons_succ] at h'
    have hp2 := (List.pairwise_cons.1 hp).2
    cases i with
    | succ i =>
      rw [List.getElem?_cons_succ] at h
      exact grpL_rise t cols col m _ (hp2.sublist (List.drop_sublist _ _)) i g g' h h'
    | zero =>
      rw [List.getElem?_cons_zero, Option.some.injEq] at h
      obtain ⟨y, hy, hk⟩ := grpL_head t cols col m _ g' h'
      subst h
      rw [hk]
      simp only
      rw [cmpL_keys]
      rw [List.getElem?_drop, Nat.add_zero] at hy
      have hyl : y ∈ l := List.mem_of_getElem? hy
      have hb : Bef (rowLt t (keysOf cols)) x y := (List.pairwise_cons.1 hp).1 y hyl
      have hns : same t (keysOf cols) x y = false := by
        have hlen := (List.getElem?_eq_some_iff.1 hy).1
        unfold runL at hy hlen
        cases hs : same t (keysOf cols) x y with
        | false => rfl
        | true =>
          exfalso
          have h1 : l = l.takeWhile (same t (keysOf cols) x) ++ l.dropWhile (same t (keysOf cols) x) := (List.takeWhile_append_dropWhile).symm
          have h2 : (l.dropWhile (same t (keysOf cols) x))[0]? = some y := by
            rw [h1, List.getElem?_append_right (by simp)] at hy
            simpa using hy
          have h3 := List.head?_dropWhile_not (same t (keysOf cols) x) l
          rw [List.head?_eq_getElem?, h2] at h3
          simp [hs] at h3
      unfold same at hns
      have hne : cmpK (t.getD x []) (t.getD y []) (keysOf cols) ≠ 0 := by simpa using hns
      have hfn := cmpK_fn (keysOf cols)
      rcases hb with h | ⟨h, _⟩
      · simpa [rowLt, ltOf, rowC] using h
      · have h4 : ¬ cmpK (t.getD y []) (t.getD x []) (keysOf cols) < 0 := by simpa [rowLt, ltOf, rowC] using h
        have h5 := hfn.anti (t.getD x []) (t.getD y [])
        have h6 := hfn.anti (t.getD y []) (t.getD x [])
        omega

/-! ### Sums -/

def In64 (n : Int) : Prop := -9223372036854775808 ≤ n ∧ n ≤ 9223372036854775807
theorem w64_in {n : Int} (h : In64 n) : w64 n = n := IntWalk.i64_in n h
theorem plusV_ok {a b : Int} (ha : In64 a) (hb : In64 b) (h : (plusV a b).kind = 1) : plusV a b = nmV (a + b) ∧ In64 (a + b) := by
  unfold plusV at h ⊢
  unfold In64 at ha hb ⊢
  split at h
  · rename_i hc
    rw [if_pos hc]
    unfold w64 at hc ⊢
    rw [IntKind.wrap_i64] at hc ⊢
    simp only [beq_iff_eq, decide_eq_decide] at hc
    have : -9223372036854775808 ≤ a + b ∧ a + b ≤ 9223372036854775807 := by
      by_cases h0 : b ≥ 0
      · have := hc.2 h0; omega
      · have := fun x => h0 (hc.1 x); omega
    refine ⟨?_, this⟩
    congr 1; omega
  · cases h
theorem addV_ok {a b : Val} (ha : NumK a) (hb : NumK b) (ia : In64 a.num) (ib : In64 b.num) (h : (addV a b).kind = 1) : a.kind = 1 ∧ b.kind = 1 ∧ addV a b = nmV (a.num + b.num) ∧ In64 (a.num + b.num) := by
  unfold addV at h ⊢
  split at h
  · rename_i h4; omega
  rename_i h4
  split at h
  · rename_i h5; omega
  rename_i h5
  obtain ⟨h1, h2⟩ := plusV_ok ia ib h
  rw [if_neg h4, if_neg h5]
  exact ⟨ha.resolve_right h4, hb.resolve_right h5, h1, h2⟩
theorem sumN_ok (ns : List Int) (hr : ∀ n ∈ ns, In64 n) (h : (sumN ns).kind = 1) : sumN ns = nmV ns.sum ∧ In64 ns.sum := by
  suffices H : ∀ (ms : List Int), (∀ n ∈ ms, In64 n) → (sumN ms.reverse).kind = 1 → sumN ms.reverse = nmV ms.sum ∧ In64 ms.sum by
    have := H ns.reverse (fun n hn => hr n (List.mem_reverse.1 hn)) (by rwa [List.reverse_reverse])
    rwa [List.reverse_reverse, show ns.reverse.sum = ns.sum from by rw [List.sum_reverse]] at this
  intro ms
  induction ms with
  | nil => intro _ _; exact ⟨rfl, by unfold In64; simp⟩
  | cons m ms ih =>
    intro hr h
    rw [List.reverse_cons, sumN_snoc] at h ⊢
    have hk := sumN_nk ms.reverse
    have h1 : (sumN ms.reverse).kind = 1 := by
      rcases hk with h1 | h1
      · exact h1
      · unfold addV at h; rw [if_pos h1] at h; exact h
    obtain ⟨e, hi⟩ := ih (fun n hn => hr n (List.mem_cons_of_mem _ hn)) h1
    obtain ⟨_, _, h2, h3⟩ := addV_ok hk (.inl rfl) (by rw [e]; exact hi) (hr m (List.mem_cons_self)) h
    rw [e] at h2 h3
    rw [e, h2]
    simp only [nmV, List.sum_cons] at h3 ⊢
    rw [Int.add_comm m]
    exact ⟨rfl, h3⟩

def tot (l : List Val) : Int := ((l.filter fun v => v.kind == 1).map (·.num)).sum
theorem sumL_nk (l : List Val) : NumK (sumL l) := by
  unfold sumL
  split
  · rename_i v h
    have := List.find?_some h
    exact .inr (eq_of_beq this)
  · exact sumN_nk _
theorem sumL_ok (l : List Val) (hr : ∀ v ∈ l, In64 v.num) (h : (sumL l).kind = 1) : sumL l = nmV (tot l) ∧ In64 (tot l) := by
  unfold sumL at h ⊢
  split at h
  · rename_i v hv
    have := List.find?_some (p := fun v : Val => v.kind == 4) hv
    have := eq_of_beq this
    omega
  · exact sumN_ok _ (fun n hn => by
      obtain ⟨v, hv, rfl⟩ := List.mem_map.1 hn
      exact hr v (List.mem_filter.1 hv).1) h
theorem tot_append (a b : List Val) : tot (a ++ b) = tot a + tot b := by
  unfold tot; rw [List.filter_append, List.map_append, List.sum_append]
theorem tot_perm {a b : List Val} (h : a.Perm b) : tot a = tot b := by
  have h2 := (h.filter fun v => v.kind == 1).map (·.num)
  unfold tot
  generalize (a.filter fun v => v.kind == 1).map (·.num) = x at h2 ⊢
  generalize (b.filter fun v => v.kind == 1).map (·.num) = y at h2 ⊢
  induction h2 with
  | nil => rfl
  | cons x _ ih => simp only [List.sum_cons, ih]
  | swap x y l => simp only [List.sum_cons]; omega
  | trans _ _ ih1 ih2 => rw [ih1, ih2]

def sumG (gs : List Grp) : Val := gs.foldl (fun s g => addV s g.sum) (nmV 0)
theorem sumG_snoc (gs : List Grp) (g : Grp) : sumG (gs ++ [g]) = addV (sumG gs) g.sum := by unfold sumG; rw [List.foldl_append]; rfl
theorem sumG_nk (gs : List Grp) (hk : ∀ g ∈ gs, NumK g.sum) : NumK (sumG gs) := by
  unfold sumG
  suffices H : ∀ (gs : List Grp) (s : Val), (∀ g ∈ gs, NumK g.sum) → NumK s → NumK (gs.foldl (fun s g => addV s g.sum) s) from H gs _ hk (.inl rfl)
  intro gs
  induction gs with
  | nil => intro s _ h; exact h
  | cons g gs ih => intro s hk h; exact ih _ (fun g hg => hk g (List.mem_cons_of_mem _ hg)) (addV_nk h (hk g (List.mem_cons_self)))
/-- What is known of a sum that has been made of values. -/
def SumOK (g : Grp) : Prop := NumK g.sum ∧ (g.sum.kind = 1 → In64 g.sum.num)
theorem sumG_ok (gs : List Grp) (hk : ∀ g ∈ gs, SumOK g) (h : (sumG gs).kind = 1) : (∀ g ∈ gs, g.sum.kind = 1) ∧ sumG gs = nmV (gs.map fun g => g.sum.num).sum ∧ In64 (gs.map fun g => g.sum.num).sum := by
  suffices H : ∀ (ms : List Grp), (∀ g ∈ ms, SumOK g) → (sumG ms.reverse).kind = 1 → (∀ g ∈ ms, g.sum.kind = 1) ∧ sumG ms.reverse = nmV (ms.map fun g => g.sum.num).sum ∧ In64 (ms.map fun g => g.sum.num).sum by
    obtain ⟨h1, h2, h3⟩ := H gs.reverse (fun n hn => hk n (List.mem_reverse.1 hn)) (by rwa [List.reverse_reverse])
    rw [List.reverse_reverse] at h2
    rw [List.map_reverse, List.sum_reverse] at h2 h3
    exact ⟨fun g hg => h1 g (List.mem_reverse.2 hg), h2, h3⟩
  intro ms
  induction ms with
  | nil => intro _ _; exact ⟨fun g h => by simp at h, rfl, by unfold In64; simp⟩
  | cons m ms ih =>
    intro hr h
    rw [List.reverse_cons, sumG_snoc] at h ⊢
    have hnk : NumK (sumG ms.reverse) := sumG_nk _ fun g hg => (hr g (List.mem_cons_of_mem _ (List.mem_reverse.1 hg))).1
    have h1 : (sumG ms.reverse).kind = 1 := by
      rcases hnk with h1 | h1
      · exact h1
      · unfold addV at h; rw [if_pos h1] at h; exact h
    have hm := hr m (List.mem_cons_self)
    have hm1 : m.sum.kind = 1 := by
      rcases hm.1 with h2 | h2
      · exact h2
      · unfold addV at h; rw [if_neg (by omega), if_pos h2] at h; exact h
    obtain ⟨ha, e, hi⟩ := ih (fun n hn => hr n (List.mem_cons_of_mem _ hn)) h1
    obtain ⟨_, _, h2, h3⟩ := addV_ok hnk hm.1 (by rw [e]; exact hi) (hm.2 hm1) h
    rw [e] at h2 h3
    rw [e, h2]
    simp only [nmV, List.map_cons, List.sum_cons] at h3 ⊢
    rw [Int.add_comm m.sum.num]
    refine ⟨fun g hg => ?_, rfl, h3⟩
    rcases List.mem_cons.1 hg with rfl | hg
    · exact hm1
    · exact ha g hg

/-- All values of a table are numbers that a word holds. -/
def TabR (t : List Row) : Prop := ∀ r ∈ t, ∀ v ∈ r, In64 v.num
theorem cellAt_in {t : List Row} (h : TabR t) (c : Int) (i : Nat) : In64 (cellAt t c i).num := by
  unfold cellAt
  have h0 : In64 (default : Val).num := by unfold In64; decide
  rw [List.getD_eq_getElem?_getD, List.getD_eq_getElem?_getD]
  cases hr : t[i]? with
  | none => simpa using h0
  | some r =>
    simp only [Option.getD_some]
    cases hv : r[c.toNat]? with
    | none => simpa using h0
    | some v => exact h r (List.mem_of_getElem? hr) v (List.mem_of_getElem? hv)
theorem grpL_ok {t : List Row} (hr : TabR t) (cols : List Int) (col : Int) : ∀ m l, l.length ≤ m → (∀ g ∈ grpL t cols col m l, SumOK g) ∧ ((∀ g ∈ grpL t cols col m l, g.sum.kind = 1) → ((grpL t cols col m l).map fun g => g.sum.num).sum = tot (l.map (cellAt t col)))
  | 0, l, h => by
    rw [List.length_eq_zero_iff.1 (Nat.le_zero.1 h)]
    exact ⟨fun g hg => by simp [grpL] at hg, fun _ => rfl⟩
  | m + 1, [], _ => ⟨fun g hg => by simp [grpL] at hg, fun _ => rfl⟩
  | m + 1, x :: l, h => by
    simp only [List.length_cons] at h
    have hrl := runL_le t (keysOf cols) x l
    obtain ⟨h1, h2⟩ := grpL_ok hr cols col m (l.drop (runL t (keysOf cols) x l)) (by simp; omega)
    have hin : ∀ v ∈ (x :: l.take (runL t (keysOf cols) x l)).map (cellAt t col), In64 v.num := fun v hv => by
      obtain ⟨i, _, rfl⟩ := List.mem_map.1 hv
      exact cellAt_in hr col i
    simp only [grpL]
    refine ⟨fun g hg => ?_, fun hk => ?_⟩
    · rcases List.mem_cons.1 hg with rfl | hg
      · refine ⟨sumL_nk _, fun hk => ?_⟩
        obtain ⟨e, hi⟩ := sumL_ok _ hin hk
        simp only [e]; exact hi
      · exact h1 g hg
    · have hk0 := hk _ (List.mem_cons_self)
      obtain ⟨e, _⟩ := sumL_ok _ hin hk0
      simp only [List.map_cons, List.sum_cons]
      rw [h2 fun g hg => hk g (List.mem_cons_of_mem _ hg)]
      have : (cellAt t col x :: (l.take (runL t (keysOf cols) x l)).map (cellAt t col)) = (x :: l.take (runL t (keysOf cols) x l)).map (cellAt t col) := rfl
      rw [this, e]
      simp only [nmV]
      rw [← tot_append, ← List.map_append, List.cons_append, List.take_append_drop]
      rfl

theorem run_all (t : List Row) (x : Nat) (l : List Nat) : runL t (keysOf []) x l = l.length := by
  refine takeWhile_is _ l l.length (Nat.le_refl _) (fun _ _ _ _ => rfl) (.inl rfl)
/-- Grouped by nothing. -/
theorem grp_none (t : List Row) (col : Int) (h : t ≠ []) : grpL t [] col t.length (sortL t (keysOf [])) = [⟨[], t.length, sumL ((List.range t.length).map (cellAt t col))⟩] := by
  rw [show keysOf [] = [] from rfl, sortL_nil]
  obtain ⟨n, hn⟩ : ∃ n, t.length = n + 1 := ⟨t.length - 1, by have := List.length_pos_iff.2 h; omega⟩
  rw [hn, List.range_succ_eq_map]
  simp only [grpL, run_all, List.take_length, List.drop_length]
  have : grpL t [] col n [] = [] := by cases n <;> rfl
  simp [this, keyVals]

theorem counts_law {t : List Row} (hr : TabR t) (cols : List Int) (col : Int) (h : (sumG (grpL t cols col t.length (sortL t (keysOf cols)))).kind = 1) (h1 : (sumL ((List.range t.length).map (cellAt t col))).kind = 1) :
    sumL ((List.range t.length).map (cellAt t col)) = sumG (grpL t cols col t.length (sortL t (keysOf cols))) := by
  have hp : (sortL t (keysOf cols)).Perm (List.range t.length) := srtL_perm (rowLt t (keysOf cols)) t.length
  have hl : (sortL t (keysOf cols)).length = t.length := srtL_len _ _
  obtain ⟨a1, a2⟩ := grpL_ok hr cols col t.length (sortL t (keysOf cols)) (by omega)
  obtain ⟨b1, b2, _⟩ := sumG_ok _ a1 h
  rw [b2, a2 b1]
  have hin : ∀ v ∈ (List.range t.length).map (cellAt t col), In64 v.num := fun v hv => by
    obtain ⟨i, _, rfl⟩ := List.mem_map.1 hv
    exact cellAt_in hr col i
  rw [(sumL_ok _ hin h1).1, tot_perm (hp.map (cellAt t col))]
end Go.AM
