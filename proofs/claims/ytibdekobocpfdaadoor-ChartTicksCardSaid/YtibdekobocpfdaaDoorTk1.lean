/- The ticks of a scale: walks. Own work. -/
import Derived.Test.YtibdekobocpfdaaDoorTk0
set_option linter.all false
set_option maxRecDepth 20000
namespace Go.AM

def tickV (n : Int) : AV := .agg [intV n, .str (digR n)]
def Scale (low high many : Int) : Prop := low ≤ high ∧ -1000000000000000 ≤ low ∧ high ≤ 1000000000000000 ∧ 1 ≤ many ∧ many ≤ 60
instance (low high many : Int) : Decidable (Scale low high many) := by unfold Scale; infer_instance

section
variable {C : CSpec} {GT : Nat → Option AV}

theorem near_ev (x : Int) (H : Heap) : EFun C GT a_chart_near [intV x] H (.bool (decide (-1000000000000000 ≤ x ∧ x ≤ 1000000000000000))) H := by
  obtain ⟨r, hr⟩ : ∃ r, decide (-1000000000000000 ≤ x ∧ x ≤ 1000000000000000) = r := ⟨_, rfl⟩
  rw [hr]
  refine efun_of ?_
  refine sCond (fun h => ?_) (fun h => ?_)
  · have h := of_decide_eq_true h
    have e : decide (x ≤ 1000000000000000) = r := by
      rw [← hr, Bool.eq_iff_iff, decide_eq_true_iff, decide_eq_true_iff]; omega
    refine sCondT ?_
    exact sRetE (congrArg AV.bool e.symm) rfl rfl rfl rfl (Old.refl _)
  · have h := of_decide_eq_false h
    have e : false = r := by rw [← hr]; exact (decide_eq_false (by omega)).symm
    subst e
    refine sCondF ?_
    exact sRetV rfl rfl rfl rfl (Old.refl _)

theorem floor_ev (a b : Int) (H : Heap) (hb : 0 < b) (ha : a.natAbs ≤ 1000000000000000000) : EFun C GT a_chart_floor [intV a, intV b] H (intV (a / b)) H := by
  have hf := floor_is a hb
  have h1 := tdiv_bnd a b
  have hne : b ≠ 0 := by omega
  generalize a / b = r at *
  refine efun_of ?_
  refine sNeed hne ?_
  refine sW64 ⟨by omega, by omega⟩ ?_
  refine sNeed hne ?_
  refine sVal (r := a.tmod b) rfl ?_
  refine sCond (fun h => ?_) (fun h => ?_)
  · rw [if_pos (of_decide_eq_true h)] at hf
    subst hf
    refine sW64 ⟨by omega, by omega⟩ ?_
    exact sRetV rfl rfl rfl rfl (Old.refl _)
  · rw [if_neg (of_decide_eq_false h)] at hf
    subst hf
    exact sRetV rfl rfl rfl rfl (Old.refl _)

structure STi where
  i : Nat
  v : AV

set_option maxHeartbeats 1000000 in
theorem ticks3_ev (low high many : Int) (k : Nat) (H : Heap) (hs : Scale low high many) (hk : stopsAt low high many k) : EFun C GT a_sccref3_Ticks [intV low, intV high, intV many] H (lstF 1 ((ticksL low high k).map intV)) H := by
  obtain ⟨hlh, hl, hh, hm1, hm2⟩ := hs
  refine efun_of ?_
  refine sLoop (fun j : Nat => [(7, natV (stepF j)), (8, natV j), (2, intV many), (1, intV high), (0, intV low)]) (fun j H' => H' = H ∧ j ≤ k) (fun j => k - j) 0 rfl ⟨rfl, Nat.zero_le _⟩ (fun j H1 ⟨e, hj⟩ => ?_)
  subst e
  have hb := step_bnd hk hlh hl hh hm1 hj
  have hp := stepF_pos j
  have hjs := stepF_le j
  have hlt := stepF_lt j
  have hup := stepF_up j
  have hstep : stepF (j + 1) = if j % 3 = 1 then stepF j / 2 * 5 else stepF j * 2 := rfl
  have hstop : cntI low high (stepF j) ≤ many ↔ j = k := ⟨fun h => by
    rcases Nat.lt_or_ge j k with h2 | h2
    · exact absurd h (hk.2 j h2)
    · omega, fun h => by rw [h]; exact hk.1⟩
  have hsc := scale (low := low) (high := high) (s := stepF j) (by omega) hlh
  have hfi := first_is low (s := stepF j) (by omega)
  have b1 := tdiv_bnd low (stepF j)
  have b2 := tmul_bnd low (stepF j)
  have hticks : j = k → ticksL low high k = (List.range (cntI low high (stepF j)).toNat).map fun i : Nat => firstI low (stepF j) + (i : Int) * (stepF j : Int) := fun e => by rw [e]; rfl
  generalize stepF j = s at *
  have hne : (s : Int) ≠ 0 := by omega
  generalize cntI low high (s : Int) = c at *
  generalize firstI low (s : Int) = f at *
  obtain ⟨s1, s2, s3, s4, s5, s6⟩ := hsc
  refine sNeed hne ?_
  refine sW64 ⟨by omega, by omega⟩ ?_
  refine sW64 ⟨by omega, by omega⟩ ?_
  refine sCond (fun h => ?_) (fun h => ?_)
  · rw [if_pos (of_decide_eq_true h)] at hfi
    have hfi' : IntKind.i64.wrap (low.tdiv s * s + s) = f := by rw [hfi]; exact IntWalk.i64_in _ (by omega)
    refine sVal (r := f) hfi' ?_
    refine sCond (fun h => ?_) (fun h => ?_)
    · have h := of_decide_eq_true h
      have hnn : 0 ≤ high - f := by omega
      have h4 := s4 h
      rw [← Int.tdiv_eq_ediv_of_nonneg hnn] at h4
      have b3 := tdiv_bnd (high - f) s
      have b4 : 0 ≤ (high - f).tdiv s := Int.tdiv_nonneg hnn (by omega)
      have h4' : IntKind.i64.wrap ((high - f).tdiv s + 1) = c := by rw [h4]; exact IntWalk.i64_in _ (by omega)
      refine sW64 ⟨by omega, by omega⟩ ?_
      refine sNeed hne ?_
      refine sW64 ⟨by omega, by omega⟩ ?_
      refine sVal (r := c) h4' ?_
      refine sCond (fun h => ?_) (fun h => ?_)
      · have hjk := hstop.1 (of_decide_eq_true h)
        have hcm := of_decide_eq_true h
        obtain ⟨n, hn⟩ : ∃ n : Nat, c = n := ⟨c.toNat, by omega⟩
        have htl : ticksL low high k = (List.range n).map fun i : Nat => f + (i : Int) * (s : Int) := by rw [hticks hjk, hn]; rfl
        refine sLoop (fun t : STi => [(12, natV t.i), (7, natV s), (9, intV f), (11, t.v), (10, intV c)]) (fun t H' => Old H1 H' ∧ t.i ≤ n ∧ Owns H1 H' t.v 1 (((List.range t.i).map fun i : Nat => f + (i : Int) * (s : Int)).map intV)) (fun t => n - t.i) ⟨0, .lst (some true) 0 []⟩ rfl
          ⟨Old.refl _, Nat.zero_le _, Owns.nil _ _ _⟩ (fun ⟨i, v⟩ H2 ⟨hO, hi, hown⟩ => ?_)
        simp only at hi hown
        dsimp only
        refine sCond (fun h => ?_) (fun h => ?_)
        · have h : i < n := by have := of_decide_eq_true h; omega
          have h6 := (s6 i (by omega)).1 (by omega)
          have hnn : 0 ≤ (i : Int) * (s : Int) := Int.mul_nonneg (by omega) (by omega)
          have e : ((List.range (i + 1)).map fun i : Nat => f + (i : Int) * (s : Int)).map intV = ((List.range i).map fun i : Nat => f + (i : Int) * (s : Int)).map intV ++ [intV (f + (i : Int) * (s : Int))] := by
            rw [List.range_succ]; simp
          refine sW64 ⟨by omega, by omega⟩ ?_
          refine sW64 ⟨by omega, by omega⟩ ?_
          refine sBslice (vs' := [AV.int IntKind.i64 (f + ↑i * ↑s)]) rfl rfl ?_
          refine sAppend (H0 := H1) (hown.push _) (hO.push _) view_new (by omega) (by simp; omega) (by simp) (fun v' H' ho' hO' hblk hfr => ?_)
          refine sW64n (r := i + 1) rfl (by omega) ?_
          exact sNext (STi.mk (i + 1) v') rfl ⟨hO', by simp only; omega, by simp only [e]; exact ho'⟩ (by simp only; omega)
        · have h : i = n := by have := of_decide_eq_false h; omega
          subst h
          obtain ⟨H', hfz, hO', _⟩ := hown.frz hO
          rw [← htl] at hfz
          exact sRetF (v0 := v) rfl rfl hfz (lstF_bel _ _ _) hO'
      · have hjk : j ≠ k := fun e => absurd (hstop.2 e) (of_decide_eq_false h)
        have hm3 : (j : Int).tmod 3 = ((j % 3 : Nat) : Int) := (Int.ofNat_tmod j 3).symm
        refine sNeed (by decide) ?_
        refine sVal (r := ((j % 3 : Nat) : Int)) hm3 ?_
        refine sCond (fun h3 => ?_) (fun h3 => ?_)
        · have h3 : j % 3 = 1 := by have := eq_of_beq h3; omega
          rw [if_pos h3] at hstep
          have hd : (s : Int).tdiv 2 = ((s / 2 : Nat) : Int) := (Int.ofNat_tdiv s 2).symm
          refine sNeed (by decide) ?_
          refine sW64n (r := s / 2) hd (by omega) ?_
          refine sW64n (r := stepF (j + 1)) (by rw [hstep]; omega) (by omega) ?_
          refine sW64n (r := j + 1) rfl (by omega) ?_
          exact sNext (j + 1) rfl ⟨rfl, by omega⟩ (by omega)
        · have h3 : ¬ j % 3 = 1 := fun e => by rw [e] at h3; exact absurd h3 (by simp)
          rw [if_neg h3] at hstep
          refine sW64n (r := stepF (j + 1)) (by rw [hstep]; omega) (by omega) ?_
          refine sW64n (r := j + 1) rfl (by omega) ?_
          exact sNext (j + 1) rfl ⟨rfl, by omega⟩ (by omega)
    · have h := of_decide_eq_false h
      have h5 := s5 h
      subst h5
      refine sCond (fun h => ?_) (fun h => absurd (of_decide_eq_false h) (by omega))
      have hjk := hstop.1 (of_decide_eq_true h)
      have htl : ticksL low high k = [] := by rw [hticks hjk]; rfl
      refine sLoop (σ := Unit) (fun _ => [(12, intV 0), (7, natV s), (9, intV f), (11, .lst (some true) 0 []), (10, intV 0)]) (fun _ H' => H' = H1) (fun _ => 0) () rfl rfl (fun _ H2 e => ?_)
      subst e
      dsimp only
      refine sCondF ?_
      exact sRetE (v0 := .lst (some true) 0 []) (by rw [htl]; rfl) rfl rfl rfl rfl (Old.refl _)
  · rw [if_neg (of_decide_eq_false h)] at hfi
    rw [hfi]
    refine sCond (fun h => ?_) (fun h => ?_)
    · have h := of_decide_eq_true h
      have hnn : 0 ≤ high - f := by omega
      have h4 := s4 h
      rw [← Int.tdiv_eq_ediv_of_nonneg hnn] at h4
      have b3 := tdiv_bnd (high - f) s
      have b4 : 0 ≤ (high - f).tdiv s := Int.tdiv_nonneg hnn (by omega)
      have h4' : IntKind.i64.wrap ((high - f).tdiv s + 1) = c := by rw [h4]; exact IntWalk.i64_in _ (by omega)
      refine sW64 ⟨by omega, by omega⟩ ?_
      refine sNeed hne ?_
      refine sW64 ⟨by omega, by omega⟩ ?_
      refine sVal (r := c) h4' ?_
      refine sCond (fun h => ?_) (fun h => ?_)
      · have hjk := hstop.1 (of_decide_eq_true h)
        have hcm := of_decide_eq_true h
        obtain ⟨n, hn⟩ : ∃ n : Nat, c = n := ⟨c.toNat, by omega⟩
        have htl : ticksL low high k = (List.range n).map fun i : Nat => f + (i : Int) * (s : Int) := by rw [hticks hjk, hn]; rfl
        refine sLoop (fun t : STi => [(12, natV t.i), (7, natV s), (9, intV f), (11, t.v), (10, intV c)]) (fun t H' => Old H1 H' ∧ t.i ≤ n ∧ Owns H1 H' t.v 1 (((List.range t.i).map fun i : Nat => f + (i : Int) * (s : Int)).map intV)) (fun t => n - t.i) ⟨0, .lst (some true) 0 []⟩ rfl
          ⟨Old.refl _, Nat.zero_le _, Owns.nil _ _ _⟩ (fun ⟨i, v⟩ H2 ⟨hO, hi, hown⟩ => ?_)
        simp only at hi hown
        dsimp only
        refine sCond (fun h => ?_) (fun h => ?_)
        · have h : i < n := by have := of_decide_eq_true h; omega
          have h6 := (s6 i (by omega)).1 (by omega)
          have hnn : 0 ≤ (i : Int) * (s : Int) := Int.mul_nonneg (by omega) (by omega)
          have e : ((List.range (i + 1)).map fun i : Nat => f + (i : Int) * (s : Int)).map intV = ((List.range i).map fun i : Nat => f + (i : Int) * (s : Int)).map intV ++ [intV (f + (i : Int) * (s : Int))] := by
            rw [List.range_succ]; simp
          refine sW64 ⟨by omega, by omega⟩ ?_
          refine sW64 ⟨by omega, by omega⟩ ?_
          refine sBslice (vs' := [AV.int IntKind.i64 (f + ↑i * ↑s)]) rfl rfl ?_
          refine sAppend (H0 := H1) (hown.push _) (hO.push _) view_new (by omega) (by simp; omega) (by simp) (fun v' H' ho' hO' hblk hfr => ?_)
          refine sW64n (r := i + 1) rfl (by omega) ?_
          exact sNext (STi.mk (i + 1) v') rfl ⟨hO', by simp only; omega, by simp only [e]; exact ho'⟩ (by simp only; omega)
        · have h : i = n := by have := of_decide_eq_false h; omega
          subst h
          obtain ⟨H', hfz, hO', _⟩ := hown.frz hO
          rw [← htl] at hfz
          exact sRetF (v0 := v) rfl rfl hfz (lstF_bel _ _ _) hO'
      · have hjk : j ≠ k := fun e => absurd (hstop.2 e) (of_decide_eq_false h)
        have hm3 : (j : Int).tmod 3 = ((j % 3 : Nat) : Int) := (Int.ofNat_tmod j 3).symm
        refine sNeed (by decide) ?_
        refine sVal (r := ((j % 3 : Nat) : Int)) hm3 ?_
        refine sCond (fun h3 => ?_) (fun h3 => ?_)
        · have h3 : j % 3 = 1 := by have := eq_of_beq h3; omega
          rw [if_pos h3] at hstep
          have hd : (s : Int).tdiv 2 = ((s / 2 : Nat) : Int) := (Int.ofNat_tdiv s 2).symm
          refine sNeed (by decide) ?_
          refine sW64n (r := s / 2) hd (by omega) ?_
          refine sW64n (r := stepF (j + 1)) (by rw [hstep]; omega) (by omega) ?_
          refine sW64n (r := j + 1) rfl (by omega) ?_
          exact sNext (j + 1) rfl ⟨rfl, by omega⟩ (by omega)
        · have h3 : ¬ j % 3 = 1 := fun e => by rw [e] at h3; exact absurd h3 (by simp)
          rw [if_neg h3] at hstep
          refine sW64n (r := stepF (j + 1)) (by rw [hstep]; omega) (by omega) ?_
          refine sW64n (r := j + 1) rfl (by omega) ?_
          exact sNext (j + 1) rfl ⟨rfl, by omega⟩ (by omega)
    · have h := of_decide_eq_false h
      have h5 := s5 h
      subst h5
      refine sCond (fun h => ?_) (fun h => absurd (of_decide_eq_false h) (by omega))
      have hjk := hstop.1 (of_decide_eq_true h)
      have htl : ticksL low high k = [] := by rw [hticks hjk]; rfl
      refine sLoop (σ := Unit) (fun _ => [(12, intV 0), (7, natV s), (9, intV f), (11, .lst (some true) 0 []), (10, intV 0)]) (fun _ H' => H' = H1) (fun _ => 0) () rfl rfl (fun _ H2 e => ?_)
      subst e
      dsimp only
      refine sCondF ?_
      exact sRetE (v0 := .lst (some true) 0 []) (by rw [htl]; rfl) rfl rfl rfl rfl (Old.refl _)
theorem ticks_rng {low high many : Int} {k : Nat} (hs : Scale low high many) : ∀ x ∈ ticksL low high k, -1000000000000000 ≤ x ∧ x ≤ 1000000000000000 := by
  obtain ⟨hlh, hl, hh, _, _⟩ := hs
  intro x hx
  obtain ⟨i, hi, rfl⟩ := List.mem_map.1 hx
  have hp := stepF_pos k
  obtain ⟨s1, s2, s3, s4, s5, s6⟩ := scale (low := low) (high := high) (s := stepF k) (by omega) hlh
  have hi := List.mem_range.1 hi
  have h6 := (s6 i (by omega)).1 (by omega)
  have hnn : 0 ≤ (i : Int) * (stepF k : Int) := Int.mul_nonneg (by omega) (by omega)
  omega
theorem ticks_len {low high many : Int} {k : Nat} (hs : Scale low high many) (hk : stopsAt low high many k) : (ticksL low high k).length ≤ 60 := by
  unfold ticksL
  rw [List.length_map, List.length_range]
  have := hk.1
  have := hs.2.2.2.2
  omega

def cticksV (low high many : Int) (k : Nat) : AV := if Scale low high many then .tup [lstF 2 ((ticksL low high k).map tickV), .nili] else .tup [.lst (some true) 0 [], errV 1]

set_option maxHeartbeats 1000000 in
theorem cticks_ev (hN : ∀ x H, C f_chart_near [intV x] H (.bool (decide (-1000000000000000 ≤ x ∧ x ≤ 1000000000000000))) H) (hF : ∀ a b H, 0 < b → a.natAbs ≤ 1000000000000000000 → C f_chart_floor [intV a, intV b] H (intV (a / b)) H)
    (hI : ∀ n H, In64 n → C f_strconv_Itoa [intV n] H (.str (digR n)) H) (low high many : Int) (k : Nat) (H : Heap) (hk : Scale low high many → stopsAt low high many k) (hlow : In64 low) (hhigh : In64 high) :
    EFun C GT a_chart_Ticks [intV low, intV high, intV many] H (cticksV low high many k) H := by
  by_cases hs : Scale low high many
  case neg =>
    have e : cticksV low high many k = .tup [.lst (some true) 0 [], errV 1] := if_neg hs
    rw [e]
    clear hF hI
    refine efun_of ?_
    refine sCond (fun h => ?_) (fun h => ?_)
    · refine sCondT ?_
      refine sCondT ?_
      refine sCondT ?_
      refine sCondT ?_
      refine sCondT ?_
      refine sCondT ?_
      refine sCondT ?_
      refine sCondT ?_
      exact sRetV rfl rfl rfl rfl (Old.refl _)
    have h0 := of_decide_eq_false h
    refine sCall0 (hN _ _) ?_
    refine sCondF ?_
    refine sCond (fun h => ?_) (fun h => ?_)
    · refine sCondT ?_
      refine sCondT ?_
      refine sCondT ?_
      refine sCondT ?_
      refine sCondT ?_
      refine sCondT ?_
      exact sRetV rfl rfl rfl rfl (Old.refl _)
    have h1 : -1000000000000000 ≤ low ∧ low ≤ 1000000000000000 := by simpa using h
    refine sCall0 (hN _ _) ?_
    refine sCondF ?_
    refine sCond (fun h => ?_) (fun h => ?_)
    · refine sCondT ?_
      refine sCondT ?_
      refine sCondT ?_
      refine sCondT ?_
      exact sRetV rfl rfl rfl rfl (Old.refl _)
    have h2 : -1000000000000000 ≤ high ∧ high ≤ 1000000000000000 := by simpa using h
    refine sCondF ?_
    refine sCond (fun h => ?_) (fun h => ?_)
    · refine sCondT ?_
      refine sCondT ?_
      exact sRetV rfl rfl rfl rfl (Old.refl _)
    have h3 := of_decide_eq_false h
    refine sCondF ?_
    refine sCond (fun h => ?_) (fun h => ?_)
    · exact sRetV rfl rfl rfl rfl (Old.refl _)
    have h4 := of_decide_eq_false h
    exact absurd ⟨by omega, by omega, by omega, by omega, by omega⟩ hs
  have e : cticksV low high many k = .tup [lstF 2 ((ticksL low high k).map tickV), .nili] := if_pos hs
  rw [e]
  have hk := hk hs
  have hs' := hs
  obtain ⟨hlh, hl, hh, hm1, hm2⟩ := hs'
  have n1 : C f_chart_near [intV low] H (.bool true) H := by have := hN low H; rwa [decide_eq_true (by omega)] at this
  have n2 : C f_chart_near [intV high] H (.bool true) H := by have := hN high H; rwa [decide_eq_true (by omega)] at this
  refine efun_of ?_
  clear hN
  refine sCond (fun h => absurd (of_decide_eq_true h) (by omega)) (fun _ => ?_)
  refine sCall0 (n1) ?_
  refine sCondF ?_
  refine sCondF ?_
  refine sCall0 (n2) ?_
  refine sCondF ?_
  refine sCondF ?_
  refine sCondF ?_
  refine sCond (fun h => absurd (of_decide_eq_true h) (by omega)) (fun _ => ?_)
  refine sCondF ?_
  refine sCond (fun h => absurd (of_decide_eq_true h) (by omega)) (fun _ => ?_)
  refine sLoop (fun j : Nat => [(8, natV (stepF j)), (1, intV high), (0, intV low), (9, natV j), (2, intV many)]) (fun j H' => H' = H ∧ j ≤ k) (fun j => k - j) 0 rfl ⟨rfl, Nat.zero_le _⟩ (fun j H1 ⟨e, hj⟩ => ?_)
  subst e
  dsimp only
  have hb := step_bnd hk hlh hl hh hm1 hj
  have hp := stepF_pos j
  have hjs := stepF_le j
  have hstep : stepF (j + 1) = if j % 3 = 1 then stepF j / 2 * 5 else stepF j * 2 := rfl
  have heven := fun h => stepF_even (k := j) h
  have hstop : cntI low high (stepF j) ≤ many ↔ j = k := ⟨fun h => by
    rcases Nat.lt_or_ge j k with h2 | h2
    · exact absurd h (hk.2 j h2)
    · omega, fun h => by rw [h]; exact hk.1⟩
  have hsc := scale (low := low) (high := high) (s := stepF j) (by omega) hlh
  have hce := ceil_is low (s := stepF j) (by omega)
  have hticks : j = k → ticksL low high k = (List.range (cntI low high (stepF j)).toNat).map fun i : Nat => firstI low (stepF j) + (i : Int) * (stepF j : Int) := fun e => by rw [e]; rfl
  have b1 := ediv_bnd high (stepF j)
  have b2 := ediv_bnd (low - 1) (stepF j)
  have b3 := ediv_bnd (-low) (stepF j)
  have f1 := hF high (stepF j) H1 (by omega) (by omega)
  have f2 := hF (low - 1) (stepF j) H1 (by omega) (by omega)
  have f3 := hF (-low) (stepF j) H1 (by omega) (by omega)
  have hcd : high / (stepF j : Int) - (low - 1) / (stepF j : Int) = cntI low high (stepF j) := rfl
  generalize stepF j = s at *
  clear hF
  refine sCall0 f1 ?_
  refine sW64 ⟨by omega, by omega⟩ ?_
  refine sCall0 f2 ?_
  refine sW64 ⟨by omega, by omega⟩ ?_
  rw [hcd]
  refine sCond (fun h => ?_) (fun h => ?_)
  · have hjk := hstop.1 (of_decide_eq_true h)
    have hcm := of_decide_eq_true h
    obtain ⟨s1, s2, s3, s4, s5, s6⟩ := hsc
    generalize firstI low (s : Int) = f at *
    generalize cntI low high (s : Int) = c at *
    obtain ⟨n, hn⟩ : ∃ n : Nat, c = n := ⟨c.toNat, by omega⟩
    have htl : ticksL low high k = (List.range n).map fun i : Nat => f + (i : Int) * (s : Int) := by rw [hticks hjk, hn]; rfl
    have u1 : aUn .neg (intV low) = some (intV (-low)) := by simp only [aUn, intV]; rw [IntWalk.i64_in _ (by omega), Int.zero_sub]
    have u2 : aUn .neg (intV ((-low) / (s : Int))) = some (intV (-((-low) / (s : Int)))) := by simp only [aUn, intV]; rw [IntWalk.i64_in _ (by omega), Int.zero_sub]
    refine sOpt u1 ?_
    refine sCall0 f3 ?_
    refine sOpt u2 ?_
    refine sVal (r := f) (by rw [hce]; exact IntWalk.i64_in _ (by omega)) ?_
    refine sLoop (fun t : STi => [(8, natV s), (11, intV (f + (t.i : Int) * (s : Int))), (10, t.v), (1, intV high)]) (fun t H' => Old H1 H' ∧ t.i ≤ n ∧ Owns H1 H' t.v 2 (((List.range t.i).map fun i : Nat => f + (i : Int) * (s : Int)).map tickV)) (fun t => n - t.i) ⟨0, .lst (some true) 0 []⟩ ?_
      ⟨Old.refl _, Nat.zero_le _, Owns.nil _ _ _⟩ (fun ⟨i, v⟩ H2 ⟨hO, hi, hown⟩ => ?_)
    · have : f + ((0 : Nat) : Int) * (s : Int) = f := by simp
      simp only [this]
      rfl
    simp only at hi hown
    dsimp only
    have hnn : 0 ≤ (i : Int) * (s : Int) := Int.mul_nonneg (by omega) (by omega)
    refine sCond (fun h => ?_) (fun h => ?_)
    · have h := of_decide_eq_true h
      have hin : i < n := by have := (s6 i (by omega)).2 h; omega
      have e : ((List.range (i + 1)).map fun i : Nat => f + (i : Int) * (s : Int)).map tickV = ((List.range i).map fun i : Nat => f + (i : Int) * (s : Int)).map tickV ++ [tickV (f + (i : Int) * (s : Int))] := by
        rw [List.range_succ]; simp
      have hit := hI (f + (i : Int) * (s : Int)) H2 (by unfold In64; omega)
      refine sCall0 hit ?_
      refine sOpt (v := [intV (f + ↑i * ↑s), AV.str (digR (f + ↑i * ↑s))]) rfl ?_
      refine sBslice (vs' := [tickV (f + (i : Int) * (s : Int))]) rfl rfl ?_
      refine sAppend (H0 := H1) (hown.push _) (hO.push _) view_new (by omega) (by simp; omega) (by simp) (fun v' H' ho' hO' hblk hfr => ?_)
      have e2 : f + (i : Int) * (s : Int) + (s : Int) = f + ((i + 1 : Nat) : Int) * (s : Int) := by
        have : ((i + 1 : Nat) : Int) = (i : Int) + 1 := by omega
        rw [this, Int.add_mul, Int.one_mul]; omega
      refine sVal (r := f + ((i + 1 : Nat) : Int) * (s : Int)) (by rw [← e2]; exact IntWalk.i64_in _ (by omega)) ?_
      exact sNext (STi.mk (i + 1) v') rfl ⟨hO', by simp only; omega, by simp only [e]; exact ho'⟩ (by simp only; omega)
    · have h := of_decide_eq_false h
      have hin : i = n := by
        rcases Nat.lt_or_ge i n with h2 | h2
        · exact absurd ((s6 i (by omega)).1 (by omega)) h
        · omega
      subst hin
      obtain ⟨H', hfz, hO', _⟩ := hown.frz hO
      rw [← htl] at hfz
      exact sRetF (v0 := .tup [v, .nili]) rfl rfl (by simp only [frzV, frzL, hfz]) (by simp [AV.bel, AV.belL, lstF_bel]) hO'
  · have hjk : j ≠ k := fun e => absurd (hstop.2 e) (of_decide_eq_false h)
    have hm3 : (j : Int).tmod 3 = ((j % 3 : Nat) : Int) := (Int.ofNat_tmod j 3).symm
    have nx : ∀ fr, restrictF fr [8, 1, 0, 2, 9] = [(8, natV (stepF (j + 1))), (1, intV high), (0, intV low), (2, intV many), (9, natV j)] → True := fun _ _ => trivial
    rcases (by omega : j % 3 = 0 ∨ j % 3 = 1 ∨ j % 3 = 2) with h3 | h3 | h3
    · rw [if_neg (by omega)] at hstep
      rw [h3] at hm3
      refine sOpt (v := [AV.int IntKind.i64 2, AV.int IntKind.i64 5, AV.int IntKind.i64 2]) rfl ?_
      refine sNeed (by decide) ?_
      refine sVal (r := ((0 : Nat) : Int)) hm3 ?_
      refine sNeed ⟨by decide, by decide⟩ ?_
      refine sOpt (v := AV.int IntKind.i64 2) rfl ?_
      refine sW64n (r := s * 2) (by omega) (by omega) ?_
      refine sOpt (v := [AV.int IntKind.i64 1, AV.int IntKind.i64 2, AV.int IntKind.i64 1]) rfl ?_
      refine sNeed (by decide) ?_
      refine sVal (r := ((0 : Nat) : Int)) hm3 ?_
      refine sNeed ⟨by decide, by decide⟩ ?_
      refine sOpt (v := AV.int IntKind.i64 1) rfl ?_
      refine sNeed (by decide) ?_
      refine sW64n (r := stepF (j + 1)) (by rw [hstep]; exact (Int.tdiv_one _)) (by omega) ?_
      refine sW64n (r := j + 1) rfl (by omega) ?_
      exact sNext (j + 1) rfl ⟨rfl, by omega⟩ (by omega)
    · rw [if_pos h3] at hstep
      obtain ⟨m, hm⟩ := heven h3
      rw [h3] at hm3
      have hd : ((s * 5 : Nat) : Int).tdiv 2 = ((stepF (j + 1) : Nat) : Int) := by
        have := (Int.ofNat_tdiv (s * 5) 2).symm
        rw [hstep]
        have e : s * 5 / 2 = s / 2 * 5 := by omega
        rw [← e]; exact this
      refine sOpt (v := [AV.int IntKind.i64 2, AV.int IntKind.i64 5, AV.int IntKind.i64 2]) rfl ?_
      refine sNeed (by decide) ?_
      refine sVal (r := ((1 : Nat) : Int)) hm3 ?_
      refine sNeed ⟨by decide, by decide⟩ ?_
      refine sOpt (v := AV.int IntKind.i64 5) rfl ?_
      refine sW64n (r := s * 5) (by omega) (by omega) ?_
      refine sOpt (v := [AV.int IntKind.i64 1, AV.int IntKind.i64 2, AV.int IntKind.i64 1]) rfl ?_
      refine sNeed (by decide) ?_
      refine sVal (r := ((1 : Nat) : Int)) hm3 ?_
      refine sNeed ⟨by decide, by decide⟩ ?_
      refine sOpt (v := AV.int IntKind.i64 2) rfl ?_
      refine sNeed (by decide) ?_
      refine sW64n (r := stepF (j + 1)) hd (by omega) ?_
      refine sW64n (r := j + 1) rfl (by omega) ?_
      exact sNext (j + 1) rfl ⟨rfl, by omega⟩ (by omega)
    · rw [if_neg (by omega)] at hstep
      rw [h3] at hm3
      refine sOpt (v := [AV.int IntKind.i64 2, AV.int IntKind.i64 5, AV.int IntKind.i64 2]) rfl ?_
      refine sNeed (by decide) ?_
      refine sVal (r := ((2 : Nat) : Int)) hm3 ?_
      refine sNeed ⟨by decide, by decide⟩ ?_
      refine sOpt (v := AV.int IntKind.i64 2) rfl ?_
      refine sW64n (r := s * 2) (by omega) (by omega) ?_
      refine sOpt (v := [AV.int IntKind.i64 1, AV.int IntKind.i64 2, AV.int IntKind.i64 1]) rfl ?_
      refine sNeed (by decide) ?_
      refine sVal (r := ((2 : Nat) : Int)) hm3 ?_
      refine sNeed ⟨by decide, by decide⟩ ?_
      refine sOpt (v := AV.int IntKind.i64 1) rfl ?_
      refine sNeed (by decide) ?_
      refine sW64n (r := stepF (j + 1)) (by rw [hstep]; exact (Int.tdiv_one _)) (by omega) ?_
      refine sW64n (r := j + 1) rfl (by omega) ?_
      exact sNext (j + 1) rfl ⟨rfl, by omega⟩ (by omega)

theorem chart_ticks_ev (hT : ∀ low high many k H, Scale low high many → stopsAt low high many k → C f_sccref3_Ticks [intV low, intV high, intV many] H (lstF 1 ((ticksL low high k).map intV)) H)
    (hC : ∀ low high many k H, (Scale low high many → stopsAt low high many k) → In64 low → In64 high → C f_chart_Ticks [intV low, intV high, intV many] H (cticksV low high many k) H)
    (hE : ∀ x n e H, ErrIs x n → C f_sccsame_Error [x, .int .i64 e] H (.bool (n == e)) H) (hD : ∀ n H, In64 n → C f_sccref1_Digits [intV n] H (.str (digR n)) H)
    (low high many : Int) (H : Heap) (hlow : In64 low) (hhigh : In64 high) : EFun C GT a_scclaw3_ChartTicks [intV low, intV high, intV many] H (.bool true) H := by
  by_cases hs : Scale low high many
  case neg =>
    have hc := hC low high many 0 H (fun h => absurd h hs) hlow hhigh
    have e : cticksV low high many 0 = .tup [.lst (some true) 0 [], errV 1] := if_neg hs
    rw [e] at hc
    have ee : C f_sccsame_Error [errV 1, intV 1] H (.bool true) H := hE (errV 1) 1 1 H (.inr rfl)
    have hw : IntKind.i64.wrap (0 - 1000000000000000) = -1000000000000000 := rfl
    clear hT hC hE hD e
    refine efun_of ?_
    refine sCond (fun h => ?_) (fun h => ?_)
    · skip
      refine sCondT ?_
      refine sCondT ?_
      refine sCondT ?_
      refine sCondT ?_
      refine sCondT ?_
      refine sCondT ?_
      refine sCondT ?_
      refine sCondT ?_
      refine sCondT ?_
      refine sCondT ?_
      refine sCondT ?_
      refine sCondT ?_
      refine sCondF ?_
      refine sCall0 (hc) ?_
      refine sOpt rfl ?_
      refine sOpt rfl ?_
      refine sCall0 (ee) ?_
      refine sCondF ?_
      refine sLenO (k := 1) (xs := []) 0 ⟨_, _, rfl, .inr rfl⟩ rfl ?_
      refine sLenO (k := 1) (xs := []) 0 ⟨_, _, rfl, .inr rfl⟩ rfl ?_
      refine sCondF ?_
      refine sCondF ?_
      refine sLoop (σ := Unit) (fun _ => [(13, intV 0), (10, .lst (some true) 0 []), (9, .lst (some true) 0 [])]) (fun _ H' => H' = H) (fun _ => 0) () rfl rfl (fun _ H1 e => ?_)
      subst e
      dsimp only
      refine sLenO (k := 1) (xs := []) 0 ⟨_, _, rfl, .inr rfl⟩ rfl ?_
      refine sCondF ?_
      exact sRetV rfl rfl rfl rfl (Old.refl _)
    have h0 := of_decide_eq_false h
    refine sOpt rfl ?_
    refine sCondF ?_
    refine sCond (fun h => ?_) (fun h => ?_)
    · skip
      refine sCondT ?_
      refine sCondT ?_
      refine sCondT ?_
      refine sCondT ?_
      refine sCondT ?_
      refine sCondT ?_
      refine sCondT ?_
      refine sCondT ?_
      refine sCondT ?_
      refine sCondT ?_
      refine sCondF ?_
      refine sCall0 (hc) ?_
      refine sOpt rfl ?_
      refine sOpt rfl ?_
      refine sCall0 (ee) ?_
      refine sCondF ?_
      refine sLenO (k := 1) (xs := []) 0 ⟨_, _, rfl, .inr rfl⟩ rfl ?_
      refine sLenO (k := 1) (xs := []) 0 ⟨_, _, rfl, .inr rfl⟩ rfl ?_
      refine sCondF ?_
      refine sCondF ?_
      refine sLoop (σ := Unit) (fun _ => [(13, intV 0), (10, .lst (some true) 0 []), (9, .lst (some true) 0 [])]) (fun _ H' => H' = H) (fun _ => 0) () rfl rfl (fun _ H1 e => ?_)
      subst e
      dsimp only
      refine sLenO (k := 1) (xs := []) 0 ⟨_, _, rfl, .inr rfl⟩ rfl ?_
      refine sCondF ?_
      exact sRetV rfl rfl rfl rfl (Old.refl _)
    have h1 := of_decide_eq_false h
    refine sCondF ?_
    refine sCond (fun h => ?_) (fun h => ?_)
    · skip
      refine sCondT ?_
      refine sCondT ?_
      refine sCondT ?_
      refine sCondT ?_
      refine sCondT ?_
      refine sCondT ?_
      refine sCondT ?_
      refine sCondT ?_
      refine sCondF ?_
      refine sCall0 (hc) ?_
      refine sOpt rfl ?_
      refine sOpt rfl ?_
      refine sCall0 (ee) ?_
      refine sCondF ?_
      refine sLenO (k := 1) (xs := []) 0 ⟨_, _, rfl, .inr rfl⟩ rfl ?_
      refine sLenO (k := 1) (xs := []) 0 ⟨_, _, rfl, .inr rfl⟩ rfl ?_
      refine sCondF ?_
      refine sCondF ?_
      refine sLoop (σ := Unit) (fun _ => [(13, intV 0), (10, .lst (some true) 0 []), (9, .lst (some true) 0 [])]) (fun _ H' => H' = H) (fun _ => 0) () rfl rfl (fun _ H1 e => ?_)
      subst e
      dsimp only
      refine sLenO (k := 1) (xs := []) 0 ⟨_, _, rfl, .inr rfl⟩ rfl ?_
      refine sCondF ?_
      exact sRetV rfl rfl rfl rfl (Old.refl _)
    have h2 := of_decide_eq_false h
    refine sCondF ?_
    refine sCond (fun h => ?_) (fun h => ?_)
    · skip
      refine sCondT ?_
      refine sCondT ?_
      refine sCondT ?_
      refine sCondT ?_
      refine sCondT ?_
      refine sCondT ?_
      refine sCondF ?_
      refine sCall0 (hc) ?_
      refine sOpt rfl ?_
      refine sOpt rfl ?_
      refine sCall0 (ee) ?_
      refine sCondF ?_
      refine sLenO (k := 1) (xs := []) 0 ⟨_, _, rfl, .inr rfl⟩ rfl ?_
      refine sLenO (k := 1) (xs := []) 0 ⟨_, _, rfl, .inr rfl⟩ rfl ?_
      refine sCondF ?_
      refine sCondF ?_
      refine sLoop (σ := Unit) (fun _ => [(13, intV 0), (10, .lst (some true) 0 []), (9, .lst (some true) 0 [])]) (fun _ H' => H' = H) (fun _ => 0) () rfl rfl (fun _ H1 e => ?_)
      subst e
      dsimp only
      refine sLenO (k := 1) (xs := []) 0 ⟨_, _, rfl, .inr rfl⟩ rfl ?_
      refine sCondF ?_
      exact sRetV rfl rfl rfl rfl (Old.refl _)
    have h3 := of_decide_eq_false h
    refine sOpt rfl ?_
    refine sCondF ?_
    refine sCond (fun h => ?_) (fun h => ?_)
    · skip
      refine sCondT ?_
      refine sCondT ?_
      refine sCondT ?_
      refine sCondT ?_
      refine sCondF ?_
      refine sCall0 (hc) ?_
      refine sOpt rfl ?_
      refine sOpt rfl ?_
      refine sCall0 (ee) ?_
      refine sCondF ?_
      refine sLenO (k := 1) (xs := []) 0 ⟨_, _, rfl, .inr rfl⟩ rfl ?_
      refine sLenO (k := 1) (xs := []) 0 ⟨_, _, rfl, .inr rfl⟩ rfl ?_
      refine sCondF ?_
      refine sCondF ?_
      refine sLoop (σ := Unit) (fun _ => [(13, intV 0), (10, .lst (some true) 0 []), (9, .lst (some true) 0 [])]) (fun _ H' => H' = H) (fun _ => 0) () rfl rfl (fun _ H1 e => ?_)
      subst e
      dsimp only
      refine sLenO (k := 1) (xs := []) 0 ⟨_, _, rfl, .inr rfl⟩ rfl ?_
      refine sCondF ?_
      exact sRetV rfl rfl rfl rfl (Old.refl _)
    have h4 := of_decide_eq_false h
    refine sCondF ?_
    refine sCond (fun h => ?_) (fun h => ?_)
    · skip
      refine sCondT ?_
      refine sCondT ?_
      refine sCondF ?_
      refine sCall0 (hc) ?_
      refine sOpt rfl ?_
      refine sOpt rfl ?_
      refine sCall0 (ee) ?_
      refine sCondF ?_
      refine sLenO (k := 1) (xs := []) 0 ⟨_, _, rfl, .inr rfl⟩ rfl ?_
      refine sLenO (k := 1) (xs := []) 0 ⟨_, _, rfl, .inr rfl⟩ rfl ?_
      refine sCondF ?_
      refine sCondF ?_
      refine sLoop (σ := Unit) (fun _ => [(13, intV 0), (10, .lst (some true) 0 []), (9, .lst (some true) 0 [])]) (fun _ H' => H' = H) (fun _ => 0) () rfl rfl (fun _ H1 e => ?_)
      subst e
      dsimp only
      refine sLenO (k := 1) (xs := []) 0 ⟨_, _, rfl, .inr rfl⟩ rfl ?_
      refine sCondF ?_
      exact sRetV rfl rfl rfl rfl (Old.refl _)
    have h5 := of_decide_eq_false h
    refine sCondF ?_
    refine sCond (fun h => ?_) (fun h => ?_)
    · skip
      refine sCondF ?_
      refine sCall0 (hc) ?_
      refine sOpt rfl ?_
      refine sOpt rfl ?_
      refine sCall0 (ee) ?_
      refine sCondF ?_
      refine sLenO (k := 1) (xs := []) 0 ⟨_, _, rfl, .inr rfl⟩ rfl ?_
      refine sLenO (k := 1) (xs := []) 0 ⟨_, _, rfl, .inr rfl⟩ rfl ?_
      refine sCondF ?_
      refine sCondF ?_
      refine sLoop (σ := Unit) (fun _ => [(13, intV 0), (10, .lst (some true) 0 []), (9, .lst (some true) 0 [])]) (fun _ H' => H' = H) (fun _ => 0) () rfl rfl (fun _ H1 e => ?_)
      subst e
      dsimp only
      refine sLenO (k := 1) (xs := []) 0 ⟨_, _, rfl, .inr rfl⟩ rfl ?_
      refine sCondF ?_
      exact sRetV rfl rfl rfl rfl (Old.refl _)
    have h6 := of_decide_eq_false h
    exact absurd ⟨by omega, by omega, by omega, by omega, by omega⟩ hs
  obtain ⟨k, hk⟩ := stops_exists low high many hs.1 hs.2.2.2.1
  have hc := hC low high many k H (fun _ => hk) hlow hhigh
  have e : cticksV low high many k = .tup [lstF 2 ((ticksL low high k).map tickV), .nili] := if_pos hs
  rw [e] at hc
  have ht := hT low high many k H hs hk
  have ee : C f_sccsame_Error [.nili, intV 0] H (.bool true) H := hE .nili 0 0 H (.inl ⟨rfl, rfl⟩)
  have hrng := ticks_rng (k := k) hs
  have hlen := ticks_len hs hk
  obtain ⟨hlh, hl, hh, hm1, hm2⟩ := hs
  have hw : IntKind.i64.wrap (0 - 1000000000000000) = -1000000000000000 := rfl
  have l1 := lstF_of 1 ((ticksL low high k).map intV)
  have l2 := lstF_of 2 ((ticksL low high k).map tickV)
  clear hT hC hE e hk
  generalize ticksL low high k = xs at *
  generalize lstF 1 (xs.map intV) = w at *
  generalize lstF 2 (xs.map tickV) = tv at *
  refine efun_of ?_
  refine sCond (fun h => absurd (of_decide_eq_true h) (by omega)) (fun _ => ?_)
  refine sOpt rfl ?_
  refine sCondF ?_
  refine sCond (fun h => absurd (of_decide_eq_true h) (by omega)) (fun _ => ?_)
  refine sCondF ?_
  refine sCond (fun h => absurd (of_decide_eq_true h) (by omega)) (fun _ => ?_)
  refine sCondF ?_
  refine sCond (fun h => absurd (of_decide_eq_true h) (by omega)) (fun _ => ?_)
  refine sOpt rfl ?_
  refine sCondF ?_
  refine sCond (fun h => absurd (of_decide_eq_true h) (by omega)) (fun _ => ?_)
  refine sCondF ?_
  refine sCond (fun h => absurd (of_decide_eq_true h) (by omega)) (fun _ => ?_)
  refine sCondF ?_
  refine sCond (fun h => absurd (of_decide_eq_true h) (by omega)) (fun _ => ?_)
  refine sCondT ?_
  refine sCall0 (ht) ?_
  refine sCall0 (hc) ?_
  refine sOpt rfl ?_
  refine sOpt rfl ?_
  refine sCall0 (ee) ?_
  refine sCondF ?_
  refine sLenO xs.length l2 (by simp) ?_
  refine sLenO xs.length l1 (by simp) ?_
  refine sCondF ?_
  refine sCond (fun h => absurd h (by simp)) (fun _ => ?_)
  refine sLoop (σ := Nat) (fun i => [(13, natV i), (10, tv), (9, w)]) (fun i H1 => H1 = H ∧ i ≤ xs.length) (fun i => xs.length - i) 0 rfl ⟨rfl, Nat.zero_le _⟩ (fun i H1 ⟨e, hi⟩ => ?_)
  subst e
  dsimp only
  refine sLenO xs.length l2 (by simp) ?_
  refine sCond (fun hlt => ?_) (fun hlt => ?_)
  · have hlt : i < xs.length := by have := of_decide_eq_true hlt; omega
    have hxi : xs[i]? = some xs[i] := List.getElem?_eq_getElem hlt
    have hr := hrng xs[i] (List.getElem_mem hlt)
    generalize xs[i] = x at *
    have m1 : (xs.map intV)[i]? = some (intV x) := by rw [List.getElem?_map, hxi]; rfl
    have m2 : (xs.map tickV)[i]? = some (tickV x) := by rw [List.getElem?_map, hxi]; rfl
    have hd := hD x H1 (by unfold In64; omega)
    refine sIdxO i (intV x) l1 rfl m1 ?_
    refine sLoadL (intV x) rfl ?_
    refine sCall0 hd ?_
    refine sIdxO i (tickV x) l2 rfl m2 ?_
    refine sLoadL (intV x) rfl ?_
    refine sIdxO i (intV x) l1 rfl m1 ?_
    refine sLoadL (intV x) rfl ?_
    refine sCond (fun h => absurd h (by simp)) (fun _ => ?_)
    refine sIdxO i (tickV x) l2 rfl m2 ?_
    refine sLoadL (.str (digR x)) rfl ?_
    refine sCondF ?_
    refine sCond (fun h => absurd h (by simp)) (fun _ => ?_)
    refine sW64n (r := i + 1) rfl (by omega) ?_
    exact sNext (i + 1) rfl ⟨rfl, by omega⟩ (by omega)
  · exact sRetV rfl rfl rfl rfl (Old.refl _)
end
end Go.AM
