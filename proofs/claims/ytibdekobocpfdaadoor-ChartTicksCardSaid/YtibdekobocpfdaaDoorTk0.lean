/- The ticks of a scale: plain facts. Own work. -/
import Derived.Test.YtibdekobocpfdaaDoorTb
import Derived.Lib.ItoaNum
set_option linter.all false
namespace Go.AM

/-- The steps: 1, 2, 5, 10, 20, 50, .. -/
def stepF : Nat → Nat
  | 0 => 1
  | k + 1 => if k % 3 = 1 then stepF k / 2 * 5 else stepF k * 2
theorem stepF_are (j : Nat) : stepF (3 * j) = 10 ^ j ∧ stepF (3 * j + 1) = 2 * 10 ^ j ∧ stepF (3 * j + 2) = 5 * 10 ^ j := by
  induction j with
  | zero => exact ⟨rfl, rfl, rfl⟩
  | succ j ih =>
    obtain ⟨_, _, h3⟩ := ih
    have e1 : stepF (3 * (j + 1)) = 10 ^ (j + 1) := by
      have : 3 * (j + 1) = 3 * j + 2 + 1 := by omega
      rw [this, stepF, if_neg (by omega), h3, Nat.pow_succ]; omega
    have e2 : stepF (3 * (j + 1) + 1) = 2 * 10 ^ (j + 1) := by rw [stepF, if_neg (by omega), e1]; omega
    exact ⟨e1, e2, by
      have : 3 * (j + 1) + 2 = 3 * (j + 1) + 1 + 1 := by omega
      rw [this, stepF, if_pos (by omega), e2]; omega⟩
theorem stepF_even {k : Nat} (h : k % 3 = 1) : ∃ m, stepF k = 2 * m := by
  have := (stepF_are (k / 3)).2.1
  have e : 3 * (k / 3) + 1 = k := by omega
  rw [e] at this
  exact ⟨_, this⟩
theorem stepF_pos (k : Nat) : 0 < stepF k := by
  induction k with
  | zero => exact Nat.one_pos
  | succ k ih =>
    rw [stepF]
    split
    · rename_i h
      obtain ⟨m, hm⟩ := stepF_even h
      omega
    · omega
theorem stepF_lt (k : Nat) : stepF k < stepF (k + 1) := by
  have := stepF_pos k
  rw [stepF]
  split
  · rename_i h
    obtain ⟨m, hm⟩ := stepF_even h
    omega
  · omega
theorem stepF_le (k : Nat) : k ≤ stepF k := by
  induction k with
  | zero => exact Nat.zero_le _
  | succ k ih => have := stepF_lt k; omega
theorem stepF_up (k : Nat) : 2 * stepF (k + 1) ≤ 5 * stepF k := by
  rw [stepF]
  split
  · omega
  · omega

/-- Division down. -/
theorem floor_is (a : Int) {b : Int} (hb : 0 < b) : (if a.tmod b < 0 then a.tdiv b - 1 else a.tdiv b) = a / b := by
  by_cases ha : 0 ≤ a
  · have h1 := Int.tmod_nonneg b ha
    rw [if_neg (by omega), Int.tdiv_eq_ediv_of_nonneg ha]
  · obtain ⟨n, rfl⟩ : ∃ n : Int, a = -n := ⟨-a, by omega⟩
    have hn : 0 ≤ n := by omega
    rw [Int.neg_tmod, Int.neg_tdiv, Int.tdiv_eq_ediv_of_nonneg hn, Int.tmod_eq_emod_of_nonneg hn]
    have e := Int.mul_ediv_add_emod n b
    have r0 := Int.emod_nonneg n (by omega : b ≠ 0)
    have r1 := Int.emod_lt_of_pos n hb
    by_cases hr : n % b = 0
    · rw [if_neg (by omega)]
      have := ((Int.ediv_emod_unique (a := -n) (r := 0) (q := -(n / b)) hb).2 ⟨by rw [Int.mul_neg]; omega, by omega, by omega⟩).1
      exact this.symm
    · rw [if_pos (by omega)]
      have := ((Int.ediv_emod_unique (a := -n) (r := b - n % b) (q := -(n / b) - 1) hb).2 ⟨by rw [Int.mul_sub, Int.mul_neg]; omega, by omega, by omega⟩).1
      exact this.symm

/-- How many multiples of s lie from low to high. -/
def cntI (low high s : Int) : Int := high / s - (low - 1) / s
/-- The first one. -/
def firstI (low s : Int) : Int := ((low - 1) / s + 1) * s

theorem ceil_is (low : Int) {s : Int} (hs : 0 < s) : -((-low) / s) * s = firstI low s := by
  unfold firstI
  congr 1
  have e := Int.mul_ediv_add_emod (low - 1) s
  have r0 := Int.emod_nonneg (low - 1) (by omega : s ≠ 0)
  have r1 := Int.emod_lt_of_pos (low - 1) hs
  have := ((Int.ediv_emod_unique (a := -low) (r := s - 1 - (low - 1) % s) (q := -((low - 1) / s) - 1) hs).2 ⟨by rw [Int.mul_sub, Int.mul_neg]; omega, by omega, by omega⟩).1
  omega
theorem first_is (low : Int) {s : Int} (hs : 0 < s) : (if low.tdiv s * s < low then low.tdiv s * s + s else low.tdiv s * s) = firstI low s := by
  rw [← ceil_is low hs]
  by_cases hl : 0 ≤ low
  · rw [Int.tdiv_eq_ediv_of_nonneg hl]
    have e := Int.mul_ediv_add_emod low s
    have r0 := Int.emod_nonneg low (by omega : s ≠ 0)
    have r1 := Int.emod_lt_of_pos low hs
    rw [Int.mul_comm (low / s) s]
    by_cases hr : low % s = 0
    · have := ((Int.ediv_emod_unique (a := -low) (r := 0) (q := -(low / s)) hs).2 ⟨by rw [Int.mul_neg]; omega, by omega, by omega⟩).1
      rw [if_neg (by omega), this, Int.neg_neg, Int.mul_comm]
    · have := ((Int.ediv_emod_unique (a := -low) (r := s - low % s) (q := -(low / s) - 1) hs).2 ⟨by rw [Int.mul_sub, Int.mul_neg]; omega, by omega, by omega⟩).1
      rw [if_pos (by omega), this]
      have : -(-(low / s) - 1) = low / s + 1 := by omega
      rw [this, Int.add_mul, Int.one_mul, Int.mul_comm (low / s) s]
  · obtain ⟨n, rfl⟩ : ∃ n : Int, low = -n := ⟨-low, by omega⟩
    have hn : 0 ≤ n := by omega
    rw [Int.neg_tdiv, Int.tdiv_eq_ediv_of_nonneg hn, Int.neg_neg]
    have e := Int.mul_ediv_add_emod n s
    have r0 := Int.emod_nonneg n (by omega : s ≠ 0)
    rw [Int.neg_mul, Int.mul_comm (n / s) s, if_neg (by omega)]
/-- What is known of a scale. -/
theorem scale {low high s : Int} (hs : 0 < s) (hlh : low ≤ high) :
    low ≤ firstI low s ∧ firstI low s < low + s ∧ 0 ≤ cntI low high s ∧ (firstI low s ≤ high → (high - firstI low s) / s + 1 = cntI low high s) ∧ (¬ firstI low s ≤ high → cntI low high s = 0) ∧
      (∀ i : Int, 0 ≤ i → (i < cntI low high s ↔ firstI low s + i * s ≤ high)) := by
  unfold firstI cntI
  have e := Int.mul_ediv_add_emod (low - 1) s
  have r0 := Int.emod_nonneg (low - 1) (by omega : s ≠ 0)
  have r1 := Int.emod_lt_of_pos (low - 1) hs
  have e2 := Int.mul_ediv_add_emod high s
  have q0 := Int.emod_nonneg high (by omega : s ≠ 0)
  have q1 := Int.emod_lt_of_pos high hs
  have hm : (low - 1) / s ≤ high / s := Int.ediv_le_ediv hs (by omega)
  have em : ((low - 1) / s + 1) * s = s * ((low - 1) / s) + s := by rw [Int.add_mul, Int.one_mul, Int.mul_comm]
  have key : ∀ i : Int, 0 ≤ i → (i < high / s - (low - 1) / s ↔ ((low - 1) / s + 1) * s + i * s ≤ high) := fun i hi => by
    have h1 : ((low - 1) / s + 1) * s + i * s = s * ((low - 1) / s + 1 + i) := by rw [← Int.add_mul, Int.mul_comm]
    rw [h1]
    constructor
    · intro h
      have : s * ((low - 1) / s + 1 + i) ≤ s * (high / s) := Int.mul_le_mul_of_nonneg_left (by omega) (by omega)
      omega
    · intro h
      have h2 : (low - 1) / s + 1 + i ≤ high / s := by
        rw [Int.le_ediv_iff_mul_le hs, Int.mul_comm]; exact h
      omega
  refine ⟨by omega, by omega, by omega, fun h => ?_, fun h => ?_, key⟩
  · have h3 : high - ((low - 1) / s + 1) * s = high + s * -((low - 1) / s + 1) := by rw [Int.mul_neg, Int.mul_comm s]; omega
    rw [h3, Int.add_mul_ediv_left _ _ (by omega)]
    omega
  · have := (key 0 (Int.le_refl 0))
    rw [Int.zero_mul, Int.add_zero] at this
    have h5 : ¬ (0 < high / s - (low - 1) / s) := fun h6 => h (this.1 h6)
    omega
theorem step_le {low high s : Int} (hs : 0 < s) (hlh : low ≤ high) (h : 2 ≤ cntI low high s) : s ≤ high - low := by
  obtain ⟨h1, _, _, _, _, h6⟩ := scale hs hlh
  have := (h6 1 (by omega)).1 (by omega)
  rw [Int.one_mul] at this
  omega

/-- Which step it comes to. -/
def stopsAt (low high many : Int) (k : Nat) : Prop := cntI low high (stepF k) ≤ many ∧ ∀ j, j < k → ¬ cntI low high (stepF j) ≤ many
def ticksL (low high : Int) (k : Nat) : List Int := (List.range (cntI low high (stepF k)).toNat).map fun i : Nat => firstI low (stepF k) + (i : Int) * (stepF k : Int)

/-- Both write numbers alike. -/
theorem decDigits_rev : ∀ n : Nat, n ≠ 0 → Lib.decDigits n = (decL n).reverse := by
  intro n
  induction n using Nat.strongRecOn with
  | ind n ih =>
    intro h
    rw [decL_pos h, List.reverse_cons]
    by_cases h1 : n < 10
    · have : n / 10 = 0 := by omega
      rw [Lib.decDigits, dif_pos h1, this, decL_zero]
      have : n % 10 = n := by omega
      rw [this]; rfl
    · rw [Lib.decDigits, dif_neg h1, ih (n / 10) (by omega) (by omega)]
theorem itoa_is (v : Int) : Lib.itoa v = digR v := by
  unfold Lib.itoa digR signed
  by_cases h : v < 0
  · rw [if_pos h, if_neg (by omega), if_pos h, List.reverse_append, decDigits_rev _ (by omega)]; rfl
  · rw [if_neg h]
    by_cases h0 : v = 0
    · subst h0; rw [if_pos rfl]; exact (Lib.decDigits_one (i := 0) (by omega))
    · rw [if_neg h0, if_neg h]
      have : v.toNat = v.natAbs := by omega
      rw [this, decDigits_rev _ (by omega)]

theorem leastN {p : Nat → Prop} : ∀ n, p n → ∃ k, p k ∧ ∀ j, j < k → ¬ p j := by
  intro n
  induction n using Nat.strongRecOn with
  | ind n ih =>
    intro h
    by_cases hx : ∃ j, j < n ∧ p j
    · obtain ⟨j, hj, hp⟩ := hx
      exact ih j hj hp
    · exact ⟨n, h, fun j hj hp => hx ⟨j, hj, hp⟩⟩
theorem stops_exists (low high many : Int) (hlh : low ≤ high) (hm : 1 ≤ many) : ∃ k, stopsAt low high many k := by
  refine leastN ((high - low).toNat + 1) ?_
  have h1 := stepF_le ((high - low).toNat + 1)
  have h2 := stepF_pos ((high - low).toNat + 1)
  have h3 : ¬ 2 ≤ cntI low high (stepF ((high - low).toNat + 1)) := fun h => by
    have := step_le (by omega) hlh h
    omega
  omega
/-- How far the steps go. -/
theorem step_bnd {low high many : Int} {k j : Nat} (h : stopsAt low high many k) (hlh : low ≤ high) (hl : -1000000000000000 ≤ low) (hh : high ≤ 1000000000000000) (hm : 1 ≤ many) (hj : j ≤ k) : stepF j ≤ 5000000000000000 := by
  cases j with
  | zero => decide
  | succ j =>
    have h1 := h.2 j (by omega)
    have h2 := step_le (s := stepF j) (by have := stepF_pos j; omega) hlh (by omega)
    have h3 := stepF_up j
    omega
theorem tdiv_bnd (a b : Int) : (a.tdiv b).natAbs ≤ a.natAbs := by
  rw [Int.natAbs_tdiv]; exact Nat.div_le_self _ _
theorem tmul_bnd (a b : Int) : (a.tdiv b * b).natAbs ≤ 2 * a.natAbs := by
  have e := Int.tmod_add_mul_tdiv a b
  have h : (a.tmod b).natAbs ≤ a.natAbs := by rw [Int.natAbs_tmod]; exact Nat.mod_le _ _
  rw [Int.mul_comm] at e
  omega
theorem ediv_bnd (a b : Int) : (a / b).natAbs ≤ a.natAbs := Int.natAbs_ediv_le_natAbs a b
end Go.AM
